/- The abstract machine: reads, new blocks, writes, copies, maps, calls. -/
import Derived.Test.YtjdjdlbhaphiiaaGreatDoorVa
import Derived.Maps.RangeRun
import Derived.Laws.Cells
import Derived.Laws.BytesString
import Derived.Laws.BytesArg
import Derived.Laws.IdiomStrings
import Derived.Laws.AppendOwn
import Derived.Laws.World
import Derived.RangeFuncRecord
import Derived.OrdersIn
import Derived.LoopNIn
import Derived.Lib.UnsafeStr
set_option linter.unusedVariables false
set_option linter.unusedSimpArgs false
namespace Go.Vm

abbrev ReadF := T AV → T AObj → Option AV

def ReadOk (E : Env) (o : Oper) (f : ReadF) : Prop :=
  ∀ (B : Nat) (ρ : Ren) (tm : T AV) (a : Act) (w : World) (h : T AObj) (nx : Nat) (av : AV), HR B ρ h.get nx w → GR E.glob B w → TmR ρ tm a.tmps → f tm h = some av →
    ∃ v, (execOp a.eval o).run E.P w = .ok (.value v) w ∧ VR ρ av v

noncomputable def onCells {β : Type} (x : AObj) (z : β) (k : TypeId → Nat → T AV → β) : β := AObj.rec (motive := fun _ => β) k (fun _ => z) (fun _ _ _ => z) (fun _ _ _ => z) (fun _ _ _ _ _ _ => z) (fun _ _ _ => z) (fun _ _ _ => z) x
theorem onCells_some {β : Type} {x : AObj} {k : TypeId → Nat → T AV → Option β} {r : β} (h : onCells x none k = some r) : ∃ et n cs, x = .cells et n cs ∧ k et n cs = some r := by
  cases x <;> first | exact ⟨_, _, _, rfl, h⟩ | cases h
noncomputable def onMapO {β : Type} (x : AObj) (z : β) (k : List (AV × AV) → β) : β := AObj.rec (motive := fun _ => β) (fun _ _ _ => z) k (fun _ _ _ => z) (fun _ _ _ => z) (fun _ _ _ _ _ _ => z) (fun _ _ _ => z) (fun _ _ _ => z) x
theorem onMapO_some {β : Type} {x : AObj} {k : List (AV × AV) → Option β} {r : β} (h : onMapO x none k = some r) : ∃ es, x = .map es ∧ k es = some r := by
  cases x <;> first | exact ⟨_, rfl, h⟩ | cases h
noncomputable def onIter {β : Type} (x : AObj) (z : β) (k : Nat → Nat → Nat → β) : β := AObj.rec (motive := fun _ => β) (fun _ _ _ => z) (fun _ => z) k (fun _ _ _ => z) (fun _ _ _ _ _ _ => z) (fun _ _ _ => z) (fun _ _ _ => z) x
theorem onIter_some {β : Type} {x : AObj} {k : Nat → Nat → Nat → Option β} {r : β} (h : onIter x none k = some r) : ∃ a b c, x = .siter a b c ∧ k a b c = some r := by
  cases x <;> first | exact ⟨_, _, _, rfl, h⟩ | cases h

noncomputable def onMIter {β : Type} (x : AObj) (z : β) (k : Option Nat → Nat → Bool → β) : β := AObj.rec (motive := fun _ => β) (fun _ _ _ => z) (fun _ => z) (fun _ _ _ => z) k (fun _ _ _ _ _ _ => z) (fun _ _ _ => z) (fun _ _ _ => z) x
theorem onMIter_some {β : Type} {x : AObj} {k : Option Nat → Nat → Bool → Option β} {r : β} (h : onMIter x none k = some r) : ∃ a b c, x = .miter a b c ∧ k a b c = some r := by
  cases x <;> first | exact ⟨_, _, _, rfl, h⟩ | cases h

/-- cells from a place on -/
noncomputable def loadN (cs : T AV) (n : Nat) : Nat → Option (List AV) :=
  Nat.rec (motive := fun _ => Nat → Option (List AV)) (fun _ => some []) (fun _ ih off => ob (cs.get off) fun a => ob (ih (Nat.succ off)) fun l => some (a :: l)) n

theorem loadN_ok (cs : T AV) : ∀ (n off : Nat) (l : List AV), loadN cs n off = some l → l.length = n ∧ ∀ j a, l[j]? = some a → cs.get (off + j) = some a := by
  intro n
  induction n with
  | zero => intro off l h; cases h; exact ⟨rfl, fun j a hj => by simp at hj⟩
  | succ n ih =>
    intro off l h
    obtain ⟨a, ha, h⟩ := ob_eq h
    obtain ⟨l', hl, h⟩ := ob_eq h
    cases h
    obtain ⟨h1, h2⟩ := ih (off + 1) l' hl
    refine ⟨by simp [h1], fun j b hj => ?_⟩
    cases j with
    | zero => simp at hj; subst hj; exact ha
    | succ j => simp at hj; have := h2 j b hj; rw [← this]; congr 1; omega

/-- cells that the table holds, in the world: at an address -/
def CellsAt (ρ : Ren) (w : World) (p : Addr) (l : List AV) : Prop := ∀ (j : Nat) (a : AV), l[j]? = some a → ∃ v, w.cell? (p.add j) = some v ∧ VR ρ a v

theorem cellsAt_list {ρ : Ren} {w : World} : ∀ {l : List AV} {p : Addr} (_ : p.spot = none), CellsAt ρ w p l → ∃ vs : List Value, vs.length = l.length ∧ (∀ (j : Nat) (v : Value), vs[j]? = some v → w.cell? (p.add j) = some v) ∧ VRs ρ l vs := by
  intro l
  induction l with
  | nil => intro p hs h; exact ⟨[], rfl, fun j v hj => by simp at hj, VRs.nil⟩
  | cons a l ih =>
    intro p hs h
    obtain ⟨v, hv, hr⟩ := h 0 a rfl
    have hstep : ∀ j, (p.add 1).add j = p.add (j + 1) := by
      intro j
      obtain ⟨b, o, s⟩ := p
      simp only at hs; subst hs
      rw [addr_add, addr_add, addr_add]; congr 1; omega
    obtain ⟨vs, h1, h2, h3⟩ := ih (p := p.add 1) (by obtain ⟨b, o, s⟩ := p; simp only at hs; subst hs; rw [addr_add]) (fun j b hj => by rw [hstep]; exact h (j + 1) b (by simpa using hj))
    refine ⟨v :: vs, by simp [h1], fun j u hj => ?_, VRs.cons hr h3⟩
    cases j with
    | zero => simp at hj; subst hj; exact hv
    | succ j => simp at hj; rw [← hstep]; exact h2 j u hj

/-- where a pointer's cells are -/
noncomputable def cellsOf (glob : T (T AV)) (h : T AObj) (v : AV) : Option (T AV × Nat) :=
  AV.rec (motive_1 := fun _ => Option (T AV × Nat)) (motive_2 := fun _ => Unit) (fun _ => none) (fun _ _ => none) (fun _ _ => none) (fun b off => ob (h.get b) fun x => onCells x none fun _ _ cs => some (cs, off)) none (fun g off => ob (glob.get g) fun cs => some (cs, off)) (fun _ _ _ _ _ => none) none (fun _ => none) none (fun _ _ _ _ _ => none) none (fun _ _ _ => none) none (fun _ _ => none) (fun _ _ => none) () (fun _ _ _ _ => ()) v

theorem cellsOf_ok {E : Env} {B : Nat} {ρ : Ren} {w : World} {h : T AObj} {nx : Nat} (hr : HR B ρ h.get nx w) (hg : GR E.glob B w) {v : AV} {cs : T AV} {off : Nat} (hc : cellsOf E.glob h v = some (cs, off)) {x : Value} (hx : VR ρ v x) :
    ∃ p : Addr, x = .pointer (some p) ∧ p.spot = none ∧ ∀ (j : Nat) (a : AV), cs.get (off + j) = some a → ∃ u, w.cell? (p.add j) = some u ∧ VR ρ a u := by
  cases v <;> first | (exfalso; simp [cellsOf] at hc; done) | skip
  · rename_i b o
    obtain ⟨ob', hb, hc⟩ := ob_eq hc
    obtain ⟨et, n, cs', rfl, hc⟩ := onCells_some hc
    cases hc
    simp only [VR] at hx
    obtain ⟨p, hp, rfl⟩ := hx
    refine ⟨_, rfl, rfl, fun j a ha => ?_⟩
    obtain ⟨p', hp', hobj⟩ := hr.obj b _ hb
    rw [hp] at hp'; cases hp'
    obtain ⟨arr, lo, hi, e, h1, h2, h3, h4, h5⟩ := hobj
    obtain ⟨u, hu, hur, _⟩ := h5 _ a ha
    refine ⟨u, ?_, hur⟩
    rw [addr_add]
    simp only [World.cell?, e]
    simpa [Nat.add_assoc] using hu
  · rename_i g o
    obtain ⟨cs', hg', hc⟩ := ob_eq hc
    cases hc
    simp only [VR] at hx
    subst hx
    refine ⟨_, rfl, rfl, fun j a ha => ?_⟩
    obtain ⟨u, hu, hur⟩ := (hg g _ hg').2 _ a ha
    exact ⟨u, by rw [addr_add]; exact hu, hur ρ⟩

section
variable {E : Env} {o : Oper}

noncomputable def rLoad (E : Env) (t : TypeId) (x : Operand) : Option ReadF :=
  ob (cX x) fun c => ob (E.info t) fun i => ob (E.under t) fun d =>
    bt (aggD d) (some fun tm h => ob (c.ev tm) fun v => ob (cellsOf E.glob h v) fun q => ob (loadN q.1 i.size q.2) fun l => some (.agg l))
      (some fun tm h => ob (c.ev tm) fun v => ob (cellsOf E.glob h v) fun q => q.1.get q.2)

theorem loadVar_one {P : Program} {w : World} {t : TypeId} {p : Addr} {v : Value} (ha : (isAgg t).run P w = .ok false w) (hc : w.cell? p = some v) : (loadVar t p).run P w = .ok v w := by
  simp [loadVar, ha, hc]
theorem loadVar_agg {P : Program} {w : World} {t : TypeId} {p : Addr} {vs : List Value} (ha : (isAgg t).run P w = .ok true w) (hs : (sizeOf t).run P w = .ok vs.length w) (hc : ∀ (j : Nat) (v : Value), vs[j]? = some v → w.cell? (p.add j) = some v) :
    (loadVar t p).run P w = .ok (.agg vs.toArray) w := by
  simp [loadVar, ha, hs, run_loadCells_list w p vs hc]

theorem rLoad_ok {t : TypeId} {x : Operand} {f : ReadF} (h : rLoad E t x = some f) (ho : o.op = .load t x) : ReadOk E o f := by
  obtain ⟨c, hc, h⟩ := ob_eq h
  obtain ⟨i, hi, h⟩ := ob_eq h
  obtain ⟨d, hd, h⟩ := ob_eq h
  have ua := run_agg hd
  intro B ρ tm a w hp nx av hr hg ht he
  cases hq : aggD d
  · rw [hq, bt_false] at h; cases h; dsimp only at he
    rw [hq] at ua
    obtain ⟨v, hv, he⟩ := ob_eq he
    obtain ⟨⟨cs, off⟩, hcs, he⟩ := ob_eq he
    obtain ⟨p, hp1, hp2, hp3⟩ := cellsOf_ok hr hg hcs (cX_ok hc ht hv)
    obtain ⟨u, hu, hur⟩ := hp3 0 av he
    have hz : p.add 0 = p := by simp [Addr.add]
    rw [hz] at hu
    exact ⟨u, by simp [execOp, ho, hp1, Instr.loadAt, Instr.sureAddr, loadVar_one (ua w) hu], hur⟩
  · rw [hq, bt_true] at h; cases h; dsimp only at he
    rw [hq] at ua
    obtain ⟨v, hv, he⟩ := ob_eq he
    obtain ⟨⟨cs, off⟩, hcs, he⟩ := ob_eq he
    obtain ⟨l, hl, he⟩ := ob_eq he
    cases he
    obtain ⟨p, hp1, hp2, hp3⟩ := cellsOf_ok hr hg hcs (cX_ok hc ht hv)
    obtain ⟨hl1, hl2⟩ := loadN_ok _ _ _ _ hl
    obtain ⟨vs, e1, e2, e3⟩ := cellsAt_list hp2 (fun j b hj => hp3 j b (hl2 j b hj))
    refine ⟨.agg vs.toArray, ?_, vs.toArray, rfl, by simpa using e3⟩
    have hsz : (sizeOf t).run E.P w = .ok vs.length w := by rw [e1, hl1]; exact run_size hi w
    simp [execOp, ho, hp1, Instr.loadAt, Instr.sureAddr, loadVar_agg (ua w) hsz e2]

/-- a key in the entries: where, and what it holds -/
noncomputable def findA (eq : AV → AV → Option Bool) (k : AV) (es : List (AV × AV)) : Option (Option (Nat × AV)) :=
  List.rec (motive := fun _ => Nat → Option (Option (Nat × AV))) (fun _ => some none) (fun e _ ih i => ob (eq k e.1) fun b => bt b (some (some (i, e.2))) (ih (Nat.succ i))) es 0

/-- equality of keys -/
noncomputable def keyEq : TypeDesc → Option (AV → AV → Option Bool)
  | .int _ => some fun x y => x.onInt none fun k a => y.onInt none fun k' b => bt (kEq k k') (someB (eqI a b)) none
  | .string => some fun x y => x.onStr none fun n m => y.onStr none fun n' m' => someB (bt (Nat.beq n n') (Nat.beq m m') false)
  | .bool => some fun x y => x.onBool none fun a => y.onBool none fun b => someB (bt a b (bt b false true))
  | _ => none

theorem keyEq_ok {d : TypeDesc} {eq : AV → AV → Option Bool} (h : keyEq d = some eq) {ρ : Ren} {x y : AV} {vx vy : Value} {b : Bool} (hx : VR ρ x vx) (hy : VR ρ y vy) (hb : eq x y = some b) : Instr.sameNow d vx vy = some b := by
  unfold keyEq at h
  split at h
  · cases h; dsimp only at hb
    obtain ⟨k, a, hveq, he'⟩ := AV.onInt_some hb; clear hb; subst hveq; have hb := he'; clear he'
    obtain ⟨k', a', hveq, he'⟩ := AV.onInt_some hb; clear hb; subst hveq; have hb := he'; clear he'
    obtain ⟨hk, hb2⟩ := bt_none hb
    rw [someB_eq] at hb2; cases hb2
    obtain rfl := kEq_eq hk
    simp only [VR] at hx hy; subst hx hy
    simp [Instr.sameNow, eqI_eq]
  · cases h; dsimp only at hb
    obtain ⟨k, a, hveq, he'⟩ := AV.onStr_some hb; clear hb; subst hveq; have hb := he'; clear he'
    obtain ⟨k', a', hveq, he'⟩ := AV.onStr_some hb; clear hb; subst hveq; have hb := he'; clear he'
    rw [someB_eq] at hb; cases hb
    simp only [VR] at hx hy
    obtain ⟨s, rfl, hs⟩ := hx
    obtain ⟨s', rfl, hs'⟩ := hy
    simp only [Instr.sameNow]
    rw [beq_toListBytes, hs.eq hs']
  · cases h; dsimp only at hb
    obtain ⟨a, hveq, he'⟩ := AV.onBool_some hb; clear hb; subst hveq; have hb := he'; clear he'
    obtain ⟨a', hveq, he'⟩ := AV.onBool_some hb; clear hb; subst hveq; have hb := he'; clear he'
    rw [someB_eq] at hb; cases hb
    simp only [VR] at hx hy; subst hx hy
    cases a <;> cases a' <;> rfl
  · cases h

/-- the map's entries, in the world -/
theorem findA_ok {d : TypeDesc} {eq : AV → AV → Option Bool} (h : keyEq d = some eq) {ρ : Ren} {k : AV} {vk : Value} (hk : VR ρ k vk) :
    ∀ (es : List (AV × AV)) (ms : List MapEntry) (i : Nat) (r : Option (Nat × AV)), es.length = ms.length → (∀ (j : Nat) (e : AV × AV), es[j]? = some e → ∃ m : MapEntry, ms[j]? = some m ∧ VR ρ e.1 m.key ∧ VR ρ e.2 m.val) →
      List.rec (motive := fun _ => Nat → Option (Option (Nat × AV))) (fun _ => some none) (fun e _ ih i => ob (eq k e.1) fun b => bt b (some (some (i, e.2))) (ih (Nat.succ i))) es i = some r →
      ∃ r', Instr.findNow d vk ms i = some r' ∧ (match r, r' with | none, none => True | some (j, a), some (j', v) => j = j' ∧ i ≤ j ∧ j < i + es.length ∧ VR ρ a v | _, _ => False) := by
  intro es
  induction es with
  | nil => intro ms i r hl hm hr; cases ms with | nil => cases hr; exact ⟨none, rfl, trivial⟩ | cons m ms => simp at hl
  | cons e es ih =>
    intro ms i r hl hm hr
    cases ms with
    | nil => simp at hl
    | cons m ms =>
      obtain ⟨b, hb, hr⟩ := ob_eq hr
      obtain ⟨m', hm', h1, h2⟩ := hm 0 e rfl
      simp at hm'; subst hm'
      have hs := keyEq_ok h hk h1 hb
      cases b
      · rw [bt_false] at hr
        obtain ⟨r', hr', hm2⟩ := ih ms (i + 1) r (by simpa using hl) (fun j x hj => by simpa using hm (j + 1) x (by simpa using hj)) hr
        refine ⟨r', by simp [Instr.findNow, hs, hr'], ?_⟩
        cases r <;> cases r' <;> simp_all <;> omega
      · rw [bt_true] at hr; cases hr
        exact ⟨some (i, m.val), by simp [Instr.findNow, hs], rfl, Nat.le_refl _, by simp, h2⟩

noncomputable def basicKey : TypeDesc → Bool
  | .int _ | .string | .bool => true
  | _ => false

theorem run_checkKey {P : Program} {w : World} {t : TypeId} {d : TypeDesc} {v : Value} (e : Bool) (hu : ∀ w, (underlying t).run P w = .ok d w) (hb : basicKey d = true) : (Instr.checkKey e 10000 t v).run P w = .ok () w := by
  have key : ∀ n, (Instr.checkKey e (n + 1) t v).run P w = .ok () w := by
    intro n
    cases d <;> simp [basicKey] at hb <;> simp [Instr.checkKey, hu]
  exact key 9999

theorem keyEq_basic {d : TypeDesc} {eq : AV → AV → Option Bool} (h : keyEq d = some eq) : basicKey d = true := by
  unfold keyEq at h; split at h <;> first | rfl | cases h

theorem run_findKey {P : Program} {w : World} {t : TypeId} {d : TypeDesc} {v : Value} {es : List MapEntry} {r : Option (Nat × Value)} (hu : ∀ w, (underlying t).run P w = .ok d w) (h : Instr.findNow d v es 0 = some r) : (Instr.findKey t v es).run P w = .ok r w := by
  simp [Instr.findKey, hu, h]

noncomputable def rLookup (E : Env) (t : TypeId) (x ix : Operand) (ok : Bool) : Option ReadF :=
  ob (cX x) fun c => ob (cX ix) fun ci => ob (E.under t) fun d => match d with
    | .map kt et => ob (E.under kt) fun kd => ob (keyEq kd) fun eq => ob (E.info et) fun i => ob i.zero fun z => ob (constV z) fun z => some fun tm h => ob (c.ev tm) fun m => ob (ci.ev tm) fun k =>
        m.onMap none (some (bt ok (.tuple [z, .bool false]) z)) fun b => ob (h.get b) fun x => onMapO x none fun es => ob (findA eq k es) fun r =>
          Option.rec (motive := fun _ => Option AV) (some (bt ok (.tuple [z, .bool false]) z)) (fun p => some (bt ok (.tuple [p.2, .bool true]) p.2)) r
    | _ => none

theorem rLookup_ok {t : TypeId} {x ix : Operand} {ok : Bool} {f : ReadF} (h : rLookup E t x ix ok = some f) (ho : o.op = .lookup t x ix ok) : ReadOk E o f := by
  obtain ⟨c, hc, h⟩ := ob_eq h
  obtain ⟨ci, hci, h⟩ := ob_eq h
  obtain ⟨d, hd, h⟩ := ob_eq h
  have ud := run_under hd
  intro B ρ tm a w hp nx av hr hg ht he
  split at h
  · rename_i kt et
    obtain ⟨kd, hkd, h⟩ := ob_eq h
    obtain ⟨eq, heq, h⟩ := ob_eq h
    obtain ⟨i, hi, h⟩ := ob_eq h
    obtain ⟨z, hz, h⟩ := ob_eq h
    obtain ⟨za, hza, h⟩ := ob_eq h
    cases h; dsimp only at he
    obtain ⟨m, hm, he⟩ := ob_eq he
    obtain ⟨k, hk, he⟩ := ob_eq he
    have uk := run_under hkd
    have hck := fun (e : Bool) => run_checkKey (P := E.P) (w := w) (v := a.eval ix) e uk (keyEq_basic heq)
    have h1 := cX_ok hc ht hm
    have h2 := cX_ok hci ht hk
    have hzr : VR ρ za z := constV_ok hza
    have fin : ∀ (q : AV) (v : Value) (b : Bool), VR ρ q v → VR ρ (bt ok (.tuple [q, .bool b]) q) (if ok then .tuple #[v, .bool b] else v) := by
      intro q v b hq
      cases ok
      · exact hq
      · exact ⟨_, rfl, VRs.cons hq (VRs.cons rfl VRs.nil)⟩
    rcases AV.onMap_some he with ⟨hveq, he'⟩ | ⟨b, hveq, he'⟩ <;> clear he <;> subst hveq <;> have he := he' <;> clear he'
    · cases he
      simp only [VR] at h1
      refine ⟨if ok then .tuple #[z, .bool false] else z, ?_, fin _ _ _ hzr⟩
      have hfk := run_findKey (P := E.P) (w := w) (v := a.eval ix) (es := []) uk (r := none) rfl
      simp [execOp, ho, Instr.lookup, ud, h1, hck, hfk, run_zero hi hz]
    · obtain ⟨x', hx', he⟩ := ob_eq he
      obtain ⟨es, hveq, he'⟩ := onMapO_some he; clear he; subst hveq; have he := he'; clear he'
      obtain ⟨r, hfr, he⟩ := ob_eq he
      simp only [VR] at h1
      obtain ⟨p, hp', h1⟩ := h1
      obtain ⟨p'', hp'', hobj⟩ := hr.obj b _ hx'
      rw [hp'] at hp''; cases hp''
      obtain ⟨entries, e1, _, e2, e3⟩ := hobj
      obtain ⟨r', hr1, hr2⟩ := findA_ok heq h2 es entries.toList 0 r (by simp [e2]) (fun j e hj => by
        obtain ⟨m, hm1, hm2, hm3, _⟩ := e3 j e hj
        exact ⟨m, by simpa using hm1, hm2, hm3⟩) hfr
      have hfk := run_findKey (P := E.P) (w := w) uk hr1
      have hgo : (getObj p.blk).run E.P w = .ok (.map entries es.length) w := by simp [getObj, Sem.run, e1]
      cases r with
      | none =>
        cases r' with
        | some q => exact hr2.elim
        | none =>
          cases he
          refine ⟨if ok then .tuple #[z, .bool false] else z, ?_, fin _ _ _ hzr⟩
          simp [execOp, ho, Instr.lookup, ud, h1, hgo, hck, hfk, run_zero hi hz]
      | some q =>
        cases r' with
        | none => exact hr2.elim
        | some q' =>
          cases he
          refine ⟨if ok then .tuple #[q'.2, .bool true] else q'.2, ?_, fin _ _ _ hr2.2.2.2⟩
          simp [execOp, ho, Instr.lookup, ud, h1, hgo, hck, hfk]
  · cases h

noncomputable def rLenMap (E : Env) (ts : Array TypeId) (args : Array Operand) : Option ReadF :=
  match args.toList, ts[0]? with
  | [x], some t => ob (cX x) fun c => ob (E.under t) fun d => match d with
    | .map _ _ => some fun tm h => ob (c.ev tm) fun v => v.onMap none (some (.int .i64 (.ofNat 0))) fun b => ob (h.get b) fun x => onMapO x none fun es => forceN (lenL es) fun n => some (.int .i64 (.ofNat n))
    | _ => none
  | _, _ => none
theorem rLenMap_ok {c : Call} {f : ReadF} (h : rLenMap E c.argTypes c.args = some f) (hb : c.callee = .builtin .len) (ho : o.op = .call c) : ReadOk E o f := by
  unfold rLenMap at h
  split at h
  · rename_i x t hx ht'
    have hx := one_arg hx
    obtain ⟨cx, hc, h⟩ := ob_eq h
    obtain ⟨d, hd, h⟩ := ob_eq h
    have ud := run_under hd
    intro B ρ tm a w hp nx av hr hg ht he
    split at h
    · cases h; dsimp only at he
      obtain ⟨v, hv, he⟩ := ob_eq he
      have h1 := cX_ok hc ht hv
      rcases AV.onMap_some he with ⟨hveq, he'⟩ | ⟨b, hveq, he'⟩ <;> clear he <;> subst hveq <;> have he := he' <;> clear he'
      · cases he; simp only [VR] at h1
        exact ⟨goInt 0, by simp [execOp, ho, resolve, hb, hx, h1, invoke, builtin, Builtin.len_, ht', ud], rfl⟩
      · obtain ⟨x', hx', he⟩ := ob_eq he
        obtain ⟨es, hveq, he'⟩ := onMapO_some he; clear he; subst hveq; have he := he'; clear he'
        rw [forceN_eq, lenL_eq] at he; cases he
        simp only [VR] at h1
        obtain ⟨p, hp', h1⟩ := h1
        obtain ⟨p'', hp'', hobj⟩ := hr.obj b _ hx'
        rw [hp'] at hp''; cases hp''
        obtain ⟨entries, e1, _, e2, e3⟩ := hobj
        have hgo : (getObj p.blk).run E.P w = .ok (.map entries es.length) w := by simp [getObj, Sem.run, e1]
        exact ⟨goInt es.length, by simp [execOp, ho, resolve, hb, hx, h1, invoke, builtin, Builtin.len_, ht', ud, hgo, e2], rfl⟩
    · cases h
  · cases h

/-- bytes of a row, packed -/
noncomputable def packN (cs : T AV) (n : Nat) : Nat → Option Nat :=
  Nat.rec (motive := fun _ => Nat → Option Nat) (fun _ => some 0) (fun _ ih off => ob (cs.get off) fun a => a.onInt none fun k b => bt (kEq k .u8) (natI b none fun b => bt (Nat.blt b 256) (ob (ih (Nat.succ off)) fun m => forceN (Nat.add b (Nat.mul 256 m)) some) none) none) n

theorem packN_ok (cs : T AV) : ∀ (n off m : Nat), packN cs n off = some m → ∃ bs : List UInt8, bs.length = n ∧ pack bs = m ∧ ∀ (j : Nat) (b : UInt8), bs[j]? = some b → cs.get (off + j) = some (.int .u8 (b.toNat : Int)) := by
  intro n
  induction n with
  | zero => intro off m h; cases h; exact ⟨[], rfl, rfl, fun j b hj => by simp at hj⟩
  | succ n ih =>
    intro off m h
    obtain ⟨a, ha, h⟩ := ob_eq h
    obtain ⟨k, b, hveq, he'⟩ := AV.onInt_some h; clear h; subst hveq; have h := he'; clear he'
    obtain ⟨hk, h⟩ := bt_none h
    obtain ⟨b, hveq, he'⟩ := natI_some h; clear h; subst hveq; have h := he'; clear he'
    obtain ⟨hlt, h⟩ := bt_none h
    obtain ⟨m', hm, h⟩ := ob_eq h
    rw [forceN_eq] at h; cases h
    have hlt := blt_lt hlt
    have hk2 := kEq_eq hk
    subst hk2
    obtain ⟨bs, h1, h2, h3⟩ := ih (off + 1) m' hm
    refine ⟨UInt8.ofNat b :: bs, by simp [h1], ?_, fun j c hj => ?_⟩
    · simp only [pack, h2]
      have : (UInt8.ofNat b).toNat = b := by simp; omega
      rw [this]; rfl
    · cases j with
      | zero =>
        simp at hj; subst hj
        have : (UInt8.ofNat b).toNat = b := by simp; omega
        rw [this]; exact ha
      | succ j => simp at hj; have := h3 j c hj; rw [← this]; congr 1; omega

noncomputable def rConv (E : Env) (src dst : TypeId) (x : Operand) : Option ReadF :=
  ob (cX x) fun c => ob (E.under src) fun s => ob (E.under dst) fun d => match s, d with
    | .slice e, .string => ob (E.under e) fun de => match de with
      | .int .u8 => some fun tm h => ob (c.ev tm) fun v => v.onSlice none (some (.str 0 0)) fun b off len _ _ => ob (h.get b) fun x => onCells x none fun _ _ cs => bt (Nat.beq len 0) (some (.str 0 0)) (ob (packN cs len off) fun m => some (.str len m))
      | _ => none
    | _, _ => none

theorem rConv_ok {src dst : TypeId} {x : Operand} {f : ReadF} (h : rConv E src dst x = some f) (ho : o.op = .convert src dst x) : ReadOk E o f := by
  obtain ⟨c, hc, h⟩ := ob_eq h
  obtain ⟨s, hs, h⟩ := ob_eq h
  obtain ⟨d, hd, h⟩ := ob_eq h
  intro B ρ tm a w hp nx av hr hg ht he
  split at h
  · rename_i _e0
    obtain ⟨de, hde, h⟩ := ob_eq h
    split at h
    · cases h; dsimp only at he
      obtain ⟨v, hv, he⟩ := ob_eq he
      have h1 := cX_ok hc ht hv
      have hconv : ∀ aa l cc, (convert src dst (.slice aa l cc)).run E.P w = (Conv.bytesToString (.slice aa l cc)).run E.P w := fun aa l cc =>
        run_convert_bytes_string w src dst _ aa l cc (E.under_ok hs) (E.under_ok hde) (E.under_ok hd)
      rcases AV.onSlice_some he with ⟨hveq, he'⟩ | ⟨b, off, len, cap, esz, hveq, he'⟩ <;> clear he <;> subst hveq <;> have he := he' <;> clear he'
      · cases he; simp only [VR] at h1
        refine ⟨.string .empty, by simp [execOp, ho, h1, hconv, Conv.bytesToString], _, rfl, StrR.nil⟩
      · obtain ⟨x', hx', he⟩ := ob_eq he
        obtain ⟨et, n, cs, hveq, he'⟩ := onCells_some he; clear he; subst hveq; have he := he'; clear he'
        simp only [VR] at h1
        obtain ⟨p, oo, cp, hp', h1, hle, hcap, hor⟩ := h1
        have fin : ∀ (bs : List UInt8), bs.length = len → (∀ (j : Nat) (b : UInt8), bs[j]? = some b → w.cell? (Addr.add ⟨p.blk, oo, none⟩ j) = some (.int .u8 (b.toNat : Int))) →
            ∃ v, (execOp a.eval o).run E.P w = .ok (.value v) w ∧ VR ρ (.str len (pack bs)) v := by
          intro bs hl hcell
          have hld : (loadCells ⟨p.blk, oo, none⟩ len).run E.P w = .ok ((bs.map fun b => (b.toNat : Int)).map (Value.int .u8)).toArray w := by
            have := run_loadCells_list (P := E.P) w ⟨p.blk, oo, none⟩ ((bs.map fun b => (b.toNat : Int)).map (Value.int .u8)) (fun j v hj => by
              simp only [List.getElem?_map, Option.map_eq_some_iff] at hj
              obtain ⟨_, ⟨b, hb, rfl⟩, rfl⟩ := hj
              exact hcell j b hb)
            simpa [hl] using this
          have hbs := run_bytesToString w ⟨p.blk, oo, none⟩ len cp _ hld
          refine ⟨_, by simp [execOp, ho, h1, hconv, hbs]; rfl, _, rfl, ?_⟩
          rw [foldl_push_bytes]
          have : (bs.map fun b => (b.toNat : Int)).map (fun n => UInt8.ofNat n.toNat) = bs := by
            rw [List.map_map]
            exact (List.map_congr_left (g := id) fun b _ => by simp).trans (List.map_id bs)
          rw [this]
          exact ⟨by simp [ByteArray.size, hl], by simp⟩
        by_cases hz : Nat.beq len 0 = true
        · rw [hz, bt_true] at he; cases he
          have hz := Nat.eq_of_beq_eq_true hz
          subst hz
          exact fin [] rfl (fun j b hj => by simp at hj)
        · rw [Bool.not_eq_true] at hz
          rw [hz, bt_false] at he
          obtain ⟨m, hm, he⟩ := ob_eq he
          cases he
          obtain ⟨bs, hb1, hb2, hb3⟩ := packN_ok cs len off m hm
          rw [← hb2]
          obtain ⟨p'', hp'', hobj⟩ := hr.obj b _ hx'
          rw [hp'] at hp''; cases hp''
          obtain ⟨arr, lo, hi, e', q1, q2, q3, q4, q5⟩ := hobj
          have hlen : len ≠ 0 := Nat.ne_of_beq_eq_false hz
          obtain ⟨rfl, _⟩ := hor.resolve_left (by omega)
          refine fin bs hb1 (fun j b hj => ?_)
          obtain ⟨u, hu, hur, _⟩ := q5 _ _ (hb3 j b hj)
          simp only [VR] at hur
          subst hur
          rw [addr_add]
          simp only [World.cell?, e']
          simpa [Nat.add_assoc] using hu
    · cases h
  · cases h

noncomputable def onMAt {β : Type} (x : AObj) (z : β) (k : Nat → Nat → Nat → β) : β := AObj.rec (motive := fun _ => β) (fun _ _ _ => z) (fun _ => z) (fun _ _ _ => z) (fun _ _ _ => z) (fun _ _ _ _ _ _ => z) k (fun _ _ _ => z) x
theorem onMAt_some {β : Type} {x : AObj} {k : Nat → Nat → Nat → Option β} {r : β} (h : onMAt x none k = some r) : ∃ a b c, x = .mitat a b c ∧ k a b c = some r := by
  cases x <;> first | exact ⟨_, _, _, rfl, h⟩ | cases h

noncomputable def onMNext {β : Type} (x : AObj) (z : β) (k : Nat → Nat → Nat → β) : β := AObj.rec (motive := fun _ => β) (fun _ _ _ => z) (fun _ => z) (fun _ _ _ => z) (fun _ _ _ => z) (fun _ _ _ _ _ _ => z) (fun _ _ _ => z) k x

noncomputable def nthE (es : List (AV × AV)) : Nat → Option (AV × AV) := List.rec (motive := fun _ => Nat → Option (AV × AV)) (fun _ => none) (fun e _ ih i => Nat.rec (motive := fun _ => Option (AV × AV)) (some e) (fun i' _ => ih i') i) es
theorem nthE_eq : ∀ (l : List (AV × AV)) (i : Nat), nthE l i = l[i]? := by
  intro l
  induction l with
  | nil => intro i; show none = _; simp
  | cons o l ih =>
    intro i
    cases i with
    | zero => rfl
    | succ i => show nthE l i = _; rw [ih]; simp

/-- the entry that an iterator stands at -/
noncomputable def rEntryA (x : Operand) : Option ReadF :=
  ob (cX x) fun c => some fun tm h => ob (c.ev tm) fun v => v.onPtr none fun b off => bt (Nat.beq off 0) (ob (h.get b) fun o => onMAt o none fun m k n => ob (h.get m) fun q => onMapO q none fun es => bt (Nat.beq (lenL es) n) (ob (nthE es k) fun e => some (.tuple [e.1, e.2])) none) none

theorem borns_nodup : ∀ {es : Array MapEntry}, (∀ (i : Nat) (m : MapEntry), es[i]? = some m → m.born = i) → (es.toList.map (·.born)).Nodup := by
  intro es hb
  have : es.toList.map (·.born) = List.range es.size := by
    apply List.ext_getElem?
    intro i
    rw [List.getElem?_map]
    by_cases hi : i < es.size
    · have h1 : es.toList[i]? = some es[i] := by simp [hi]
      rw [h1, List.getElem?_range hi]
      exact congrArg some (hb i es[i] (by simp [hi]))
    · rw [List.getElem?_eq_none (by simpa using hi), List.getElem?_eq_none (by simpa using hi)]; rfl
  rw [this]; exact List.nodup_range

theorem rEntryA_ok {x : Operand} {f : ReadF} (h : rEntryA x = some f) (ho : o.op = .entry x) : ReadOk E o f := by
  obtain ⟨c, hc, h⟩ := ob_eq h
  cases h
  intro B ρ tm a w H nx av hr hg ht he
  obtain ⟨v, hv, he⟩ := ob_eq he
  have e1 := cX_ok hc ht hv
  obtain ⟨b, off, hveq, he1⟩ := AV.onPtr_some he
  clear he
  subst hveq
  obtain ⟨hz, he2⟩ := bt_none he1
  clear he1
  have hz := Nat.eq_of_beq_eq_true hz
  subst hz
  obtain ⟨ob', hob, he3⟩ := ob_eq he2
  clear he2
  obtain ⟨m, k, n, hveq, he4⟩ := onMAt_some he3
  clear he3
  subst hveq
  obtain ⟨qo, hqo, he5⟩ := ob_eq he4
  clear he4
  obtain ⟨es, hveq, he6⟩ := onMapO_some he5
  clear he5
  subst hveq
  obtain ⟨hlen, he7⟩ := bt_none he6
  clear he6
  have hlen := Nat.eq_of_beq_eq_true hlen
  rw [lenL_eq] at hlen
  obtain ⟨e, hek, he8⟩ := ob_eq he7
  cases he8
  rw [nthE_eq] at hek
  simp only [VR] at e1
  obtain ⟨p, hp, e1⟩ := e1
  obtain ⟨p', hp', hobj⟩ := hr.obj b _ hob
  rw [hp] at hp'; cases hp'
  obtain ⟨q, since, sa, o1, o2, hq⟩ := hobj
  rw [o2] at e1
  obtain ⟨q', hq', hmobj⟩ := hr.obj m _ hqo
  rw [hq] at hq'; cases hq'
  obtain ⟨entries, m1, m2, m3, m4⟩ := hmobj
  obtain ⟨m0, hm0, g1, g2, g3⟩ := m4 k e hek
  subst g3
  rw [hlen] at m1
  have hrun := run_entry_at (P := E.P) w p.blk q.blk since sa entries n m0 o1 m1 (by
    have := Array.mem_of_getElem? hm0
    simpa using this) (borns_nodup fun i m hm => by
      have hil : i < es.length := by rw [← m3]; exact (Array.getElem?_eq_some_iff.1 hm).1
      obtain ⟨m', hm', _, _, hb⟩ := m4 i es[i] (by simp [hil])
      rw [hm] at hm'; cases hm'; exact hb)
  exact ⟨.tuple #[m0.key, m0.val], by simp [execOp, ho, e1, hrun], _, rfl, VRs.cons g1 (VRs.cons g2 VRs.nil)⟩

/-- the entry that an iterator stands at, in a map of one entry -/
noncomputable def rEntry (x : Operand) : Option ReadF :=
  ob (cX x) fun c => some fun tm h => ob (c.ev tm) fun v => v.onPtr none fun b off => bt (Nat.beq off 0) (ob (h.get b) fun o => onMIter o none fun m _ seen =>
    bt seen (ob m fun m => ob (h.get m) fun q => onMapO q none fun es => List.rec (motive := fun _ => Option AV) none (fun e r _ => List.rec (motive := fun _ => Option AV) (some (.tuple [e.1, e.2])) (fun _ _ _ => none) r) es) none) none
theorem rEntry_ok {x : Operand} {f : ReadF} (h : rEntry x = some f) (ho : o.op = .entry x) : ReadOk E o f := by
  obtain ⟨c, hc, h⟩ := ob_eq h
  cases h
  intro B ρ tm a w H nx av hr hg ht he
  obtain ⟨v, hv, he⟩ := ob_eq he
  have e1 := cX_ok hc ht hv
  obtain ⟨b, off, hveq, he'⟩ := AV.onPtr_some he
  clear he
  subst hveq
  obtain ⟨hz, hA⟩ := bt_none he'
  clear he'
  have hz := Nat.eq_of_beq_eq_true hz
  subst hz
  obtain ⟨ob', hob, hA2⟩ := ob_eq hA
  clear hA
  obtain ⟨m, since, seen, hveq, hA3⟩ := onMIter_some hA2
  clear hA2
  subst hveq
  obtain ⟨hse, hA4⟩ := bt_none hA3
  obtain ⟨mb, hmb, hA5⟩ := ob_eq hA4
  obtain ⟨qo, hqo, hA6⟩ := ob_eq hA5
  obtain ⟨es, hveq, hA7⟩ := onMapO_some hA6
  clear hA3 hA4 hA5 hA6
  subst hveq hmb hse
  simp only [VR] at e1
  obtain ⟨p, hp, e1⟩ := e1
  obtain ⟨p', hp', hobj⟩ := hr.obj b _ hob
  rw [hp] at hp'; cases hp'
  obtain ⟨mm, sa, last, o1, o2, _, s2, o3⟩ := hobj
  dsimp only at o3
  obtain ⟨q, hq, rfl⟩ := o3
  obtain ⟨rfl, rfl⟩ := s2 rfl
  have hgo : (getObj p.blk).run E.P w = .ok (.mapIter (some q.blk) since #[0] 1) w := by simp [getObj, Sem.run, o1]
  rw [o2] at e1
  obtain ⟨q', hq', hmobj⟩ := hr.obj mb _ hqo
  rw [hq] at hq'; cases hq'
  obtain ⟨entries, m1, m2, m3, m4⟩ := hmobj
  cases es with
  | nil => cases hA7
  | cons e es =>
    cases es with
    | cons e2 es => cases hA7
    | nil =>
      cases hA7
      have hgm : (getObj q.blk).run E.P w = .ok (.map entries 1) w := by simp [getObj, Sem.run, m1]
      obtain ⟨m0, hm0, g1, g2, g3⟩ := m4 0 e rfl
      have hent : entries = #[m0] := by
        have h1 : entries.size = 1 := m3
        apply Array.ext
        · simpa using h1
        · intro i hi1 hi2
          have : i = 0 := by omega
          subst this
          have := hm0
          rw [Array.getElem?_eq_getElem hi1] at this
          simpa using this
      subst hent
      refine ⟨.tuple #[m0.key, m0.val], ?_, _, rfl, VRs.cons g1 (VRs.cons g2 VRs.nil)⟩
      simp [execOp, ho, e1, Instr.entry, hgo, hgm, g3]

/-- the fields of a key, each of a plain kind -/
noncomputable def partsF (E : Env) : List Field → Option (List AV → Option Unit)
  | [] => some fun _ => some ()
  | f :: fs => if f.name ≠ "_" then ob (E.under f.type) fun d => bt (basicKey d) (ob (partC E f.type f.offset) fun p => ob (partsF E fs) fun h => some fun l => ob (p l) fun _ => h l) none else partsF E fs

theorem partsF_ok {E : Env} {n : Nat} {e : Bool} : ∀ {fs : List Field} {h : List AV → Option Unit}, partsF E fs = some h → ∀ {ρ : Ren} {l : List AV} {vs : Array Value} {w : World}, VRs ρ l vs.toList → h l = some () →
    (forIn fs PUnit.unit (fun (f : Field) (_ : PUnit) => if f.name ≠ "_" then (do let x ← part f.type vs f.offset; Instr.checkKey e (n + 1) f.type x; pure (ForInStep.yield PUnit.unit)) else pure (ForInStep.yield PUnit.unit)) : Sem PUnit).run E.P w = .ok PUnit.unit w := by
  intro fs
  induction fs with
  | nil => intro h _ ρ l vs w _ _; simp
  | cons f fs ih =>
    intro h hh ρ l vs w hl hb
    simp only [partsF] at hh
    by_cases hn : f.name ≠ "_"
    · rw [if_pos hn] at hh
      obtain ⟨d, hd, hh⟩ := ob_eq hh
      obtain ⟨hbk, hh⟩ := bt_none hh
      obtain ⟨p, hp, hh⟩ := ob_eq hh
      obtain ⟨h', hh', hh⟩ := ob_eq hh
      cases hh
      obtain ⟨a, ha, hb⟩ := ob_eq hb
      obtain ⟨v, hv, _⟩ := partC_ok hp hl ha
      have hck : (Instr.checkKey e (n + 1) f.type v).run E.P w = .ok () w := by
        have hu := run_under hd
        cases d <;> simp [basicKey] at hbk <;> simp [Instr.checkKey, hu]
      rw [List.forIn_cons]
      simp only [if_pos hn, Sem.run_bind, hv, Result.andThen_ok, hck, Sem.run_pure]
      exact ih hh' hl hb
    · rw [if_neg hn] at hh
      rw [List.forIn_cons]
      simp only [if_neg hn, Sem.run_bind, Sem.run_pure, Result.andThen_ok]
      exact ih hh hl hb

/-- the equality of keys that are structs, and whether a key can be one -/
noncomputable def keyEqS (E : Env) (kt : TypeId) : Option ((AV → AV → Option Bool) × (AV → Option Unit)) :=
  ob (E.under kt) fun d => match d with
    | .struct fs => ob (partsF E fs.toList) fun h => ob (eqT E 100 kt) fun eq => some (eq, fun x => x.onAgg none h)
    | _ => none

theorem keyEqS_check {kt : TypeId} {q : (AV → AV → Option Bool) × (AV → Option Unit)} (h : keyEqS E kt = some q) {ρ : Ren} {k : AV} {vk : Value} (hk : VR ρ k vk) (hc : q.2 k = some ()) (e : Bool) (w : World) : (Instr.checkKey e 10000 kt vk).run E.P w = .ok () w := by
  obtain ⟨d, hd, h⟩ := ob_eq h
  have hu := run_under hd
  split at h <;> try (cases h; done)
  rename_i fs
  obtain ⟨p, hp, h⟩ := ob_eq h
  obtain ⟨eq, heq, h⟩ := ob_eq h
  cases h
  obtain ⟨l, rfl, hc1⟩ := AV.onAgg_some hc
  simp only [VR] at hk
  obtain ⟨vs, rfl, hl⟩ := hk
  have hpp := partsF_ok (n := 9998) (e := e) hp (w := w) hl hc1
  have e2 : (10000 : Nat) = 9998 + 1 + 1 := rfl
  rw [e2, Instr.checkKey]
  simp only [Sem.run_bind, hu, Result.andThen_ok]
  rw [← Array.forIn_toList]
  have e3 : (9998 + 1 : Nat) = 9999 := rfl
  rw [hpp]
  rfl

theorem keyEqS_eq {kt : TypeId} {q : (AV → AV → Option Bool) × (AV → Option Unit)} (h : keyEqS E kt = some q) {ρ : Ren} {x y : AV} {vx vy : Value} (hx : VR ρ x vx) (hy : VR ρ y vy) {b : Bool} (hb : q.1 x y = some b) (w : World) : (Op.equal kt vx vy).run E.P w = .ok b w := by
  obtain ⟨d, hd, h⟩ := ob_eq h
  split at h <;> try (cases h; done)
  obtain ⟨p, hp, h⟩ := ob_eq h
  obtain ⟨eq, heq, h⟩ := ob_eq h
  cases h
  exact eqT_ok E 100 kt _ heq ρ x y vx vy b w 10000 (by omega) hx hy hb

theorem keyEqS_now {kt : TypeId} {q : (AV → AV → Option Bool) × (AV → Option Unit)} (h : keyEqS E kt = some q) : ∃ fs, ∀ w, (underlying kt).run E.P w = .ok (.struct fs) w := by
  obtain ⟨d, hd, h⟩ := ob_eq h
  split at h <;> try (cases h; done)
  exact ⟨_, run_under hd⟩

theorem findS_ask {kt : TypeId} {q : (AV → AV → Option Bool) × (AV → Option Unit)} (h : keyEqS E kt = some q) {ρ : Ren} {k : AV} {vk : Value} (hk : VR ρ k vk) (w : World) :
    ∀ (es : List (AV × AV)) (ms : List MapEntry) (i : Nat) (r : Option (Nat × AV)), es.length = ms.length → (∀ (j : Nat) (e : AV × AV), es[j]? = some e → ∃ m : MapEntry, ms[j]? = some m ∧ VR ρ e.1 m.key ∧ VR ρ e.2 m.val) →
      List.rec (motive := fun _ => Nat → Option (Option (Nat × AV))) (fun _ => some none) (fun e _ ih i => ob (q.1 k e.1) fun b => bt b (some (some (i, e.2))) (ih (Nat.succ i))) es i = some r →
      ∃ r', (Instr.findAsking kt vk ms i).run E.P w = .ok r' w ∧ (match r, r' with | none, none => True | some (j, a), some (j', v) => j = j' ∧ i ≤ j ∧ j < i + es.length ∧ VR ρ a v | _, _ => False) := by
  intro es
  induction es with
  | nil => intro ms i r hl hm hr; cases ms with | nil => cases hr; exact ⟨none, by simp [Instr.findAsking], trivial⟩ | cons m ms => simp at hl
  | cons e es ih =>
    intro ms i r hl hm hr
    cases ms with
    | nil => simp at hl
    | cons m ms =>
      obtain ⟨b, hb, hr⟩ := ob_eq hr
      obtain ⟨m', hm', h1, h2⟩ := hm 0 e rfl
      simp at hm'; subst hm'
      have hs := keyEqS_eq h hk h1 hb w
      cases b
      · rw [bt_false] at hr
        obtain ⟨r', hr', hm2⟩ := ih ms (i + 1) r (by simpa using hl) (fun j x hj => by simpa using hm (j + 1) x (by simpa using hj)) hr
        refine ⟨r', by simp [Instr.findAsking, hs, hr'], ?_⟩
        cases r <;> cases r' <;> simp_all <;> omega
      · rw [bt_true] at hr; cases hr
        exact ⟨some (i, m.val), by simp [Instr.findAsking, hs], rfl, Nat.le_refl _, by simp, h2⟩

/-- what a search has found -/
def FoundR (ρ : Ren) (n : Nat) (r : Option (Nat × AV)) (r' : Option (Nat × Value)) : Prop := match r, r' with
  | none, none => True
  | some (j, a), some (j', v) => j = j' ∧ j < n ∧ VR ρ a v
  | _, _ => False

theorem findS_ok {kt : TypeId} {q : (AV → AV → Option Bool) × (AV → Option Unit)} (h : keyEqS E kt = some q) {ρ : Ren} {k : AV} {vk : Value} (hk : VR ρ k vk) (w : World) (es : List (AV × AV)) (ms : List MapEntry) (r : Option (Nat × AV)) (hl : es.length = ms.length)
    (hm : ∀ (j : Nat) (e : AV × AV), es[j]? = some e → ∃ m : MapEntry, ms[j]? = some m ∧ VR ρ e.1 m.key ∧ VR ρ e.2 m.val) (hr : findA q.1 k es = some r) :
      ∃ r', (Instr.findKey kt vk ms).run E.P w = .ok r' w ∧ FoundR ρ es.length r r' := by
  obtain ⟨fs, hu⟩ := keyEqS_now h
  obtain ⟨r', hr', hm'⟩ := findS_ask h hk w es ms 0 r hl hm hr
  refine ⟨r', ?_, by
    rcases r with _ | ⟨j, x⟩ <;> rcases r' with _ | ⟨j', v⟩ <;> simp only at hm' <;> simp only [FoundR]
    · exact ⟨hm'.1, by omega, hm'.2.2.2⟩⟩
  cases ms with
  | nil =>
    simp only [Instr.findAsking, Sem.run_pure] at hr'
    simp [Instr.findKey, hu, Instr.findNow]
    injection hr'
  | cons m ms => simp [Instr.findKey, hu, Instr.findNow, Instr.sameNow, hr']

noncomputable def rLookupS (E : Env) (t : TypeId) (x ix : Operand) (ok : Bool) : Option ReadF :=
  ob (cX x) fun c => ob (cX ix) fun ci => ob (E.under t) fun d => match d with
    | .map kt et => ob (keyEqS E kt) fun q => ob (E.info et) fun i => ob i.zero fun z => ob (constV z) fun z => some fun tm h => ob (c.ev tm) fun m => ob (ci.ev tm) fun k => ob (q.2 k) fun _ =>
        m.onMap none none fun b => ob (h.get b) fun x => onMapO x none fun es => ob (findA q.1 k es) fun r =>
          Option.rec (motive := fun _ => Option AV) (some (bt ok (.tuple [z, .bool false]) z)) (fun p => some (bt ok (.tuple [p.2, .bool true]) p.2)) r
    | _ => none

theorem rLookupS_ok {t : TypeId} {x ix : Operand} {ok : Bool} {f : ReadF} (h : rLookupS E t x ix ok = some f) (ho : o.op = .lookup t x ix ok) : ReadOk E o f := by
  obtain ⟨c, hc, h⟩ := ob_eq h
  obtain ⟨ci, hci, h⟩ := ob_eq h
  obtain ⟨d, hd, h⟩ := ob_eq h
  have ud := run_under hd
  intro B ρ tm a w hp nx av hr hg ht he
  split at h <;> try (cases h; done)
  rename_i kt et
  obtain ⟨q, hq, h⟩ := ob_eq h
  obtain ⟨i, hi, h⟩ := ob_eq h
  obtain ⟨z, hz, h⟩ := ob_eq h
  obtain ⟨za, hza, h⟩ := ob_eq h
  cases h; dsimp only at he
  obtain ⟨m, hm, he⟩ := ob_eq he
  obtain ⟨k, hk, he⟩ := ob_eq he
  obtain ⟨_, hck0, he⟩ := ob_eq he
  have h1 := cX_ok hc ht hm
  have h2 := cX_ok hci ht hk
  have hck := fun (e : Bool) => keyEqS_check hq h2 hck0 e w
  have hzr : VR ρ za z := constV_ok hza
  have fin : ∀ (q : AV) (v : Value) (b : Bool), VR ρ q v → VR ρ (bt ok (.tuple [q, .bool b]) q) (if ok then .tuple #[v, .bool b] else v) := by
    intro q v b hq
    cases ok
    · exact hq
    · exact ⟨_, rfl, VRs.cons hq (VRs.cons rfl VRs.nil)⟩
  rcases AV.onMap_some he with ⟨hveq, he'⟩ | ⟨b, hveq, he'⟩ <;> clear he <;> subst hveq <;> have he := he' <;> clear he'
  · cases he
  · obtain ⟨x', hx', he⟩ := ob_eq he
    obtain ⟨es, hveq, he'⟩ := onMapO_some he; clear he; subst hveq; have he := he'; clear he'
    obtain ⟨r, hfr, he⟩ := ob_eq he
    simp only [VR] at h1
    obtain ⟨p, hp', h1⟩ := h1
    obtain ⟨p'', hp'', hobj⟩ := hr.obj b _ hx'
    rw [hp'] at hp''; cases hp''
    obtain ⟨entries, e1, _, e2, e3⟩ := hobj
    obtain ⟨r', hfk, hr2⟩ := findS_ok hq h2 w es entries.toList r (by simp [e2]) (fun j e hj => by
      obtain ⟨m, hm1, hm2, hm3, _⟩ := e3 j e hj
      exact ⟨m, by simpa using hm1, hm2, hm3⟩) hfr
    have hgo : (getObj p.blk).run E.P w = .ok (.map entries es.length) w := by simp [getObj, Sem.run, e1]
    cases r with
    | none =>
      cases r' with
      | some q => exact hr2.elim
      | none =>
        cases he
        refine ⟨if ok then .tuple #[z, .bool false] else z, ?_, fin _ _ _ hzr⟩
        simp [execOp, ho, Instr.lookup, ud, h1, hgo, hck, hfk, run_zero hi hz]
    | some q =>
      cases r' with
      | none => exact hr2.elim
      | some q' =>
        cases he
        refine ⟨if ok then .tuple #[q'.2, .bool true] else q'.2, ?_, fin _ _ _ hr2.2.2⟩
        simp [execOp, ho, Instr.lookup, ud, h1, hgo, hck, hfk]

/-- a slice of an array, by its address -/
noncomputable def rSliceArr (E : Env) (t : TypeId) (x : Operand) (lo hi mx : Option Operand) : Option ReadF :=
  bt mx.isSome none (ob (cX x) fun c => ob (cXo lo) fun cl => ob (cXo hi) fun ch => ob (E.under t) fun d => match d with
      | .array n e => ob (E.info e) fun i => some fun tm h => ob (c.ev tm) fun v => ob (evN cl tm 0) fun l => ob (evN ch tm n) fun hh => v.onPtr none fun b off => ob (h.get b) fun o => onCells o none fun _ m _ =>
          bt (bt (Nat.ble l hh) (bt (Nat.ble hh n) (Nat.ble (Nat.add off (Nat.mul n i.size)) m) false) false)
            (forceN (Nat.add off (Nat.mul l i.size)) fun off => forceN (Nat.sub hh l) fun len => forceN (Nat.sub n l) fun cap => some (.slice b off len (some cap) i.size)) none
      | _ => none)
theorem rSliceArr_ok {t : TypeId} {x : Operand} {lo hi mx : Option Operand} {f : ReadF} (h : rSliceArr E t x lo hi mx = some f) (ho : o.op = .slice t x lo hi mx) : ReadOk E o f := by
  unfold rSliceArr at h
  cases mx with
  | some y => cases h
  | none =>
  rw [Option.isSome_none, bt_false] at h
  obtain ⟨c, hc, h⟩ := ob_eq h
  obtain ⟨cl, hcl, h⟩ := ob_eq h
  obtain ⟨ch, hch, h⟩ := ob_eq h
  obtain ⟨d, hd, h⟩ := ob_eq h
  have ud := run_under hd
  split at h <;> try (cases h; done)
  rename_i n e
  obtain ⟨i, hi', h⟩ := ob_eq h
  cases h
  intro B ρ tm a w hp nx av hr hg ht he
  obtain ⟨v, hv, he⟩ := ob_eq he
  obtain ⟨l, hl, he⟩ := ob_eq he
  obtain ⟨hh, hhh, he⟩ := ob_eq he
  obtain ⟨b, off, hveq, he1⟩ := AV.onPtr_some he
  clear he; subst hveq
  obtain ⟨ob1, hob, he2⟩ := ob_eq he1
  clear he1
  obtain ⟨et, m, cs, hveq, he3⟩ := onCells_some he2
  clear he2; subst hveq
  obtain ⟨hb, he4⟩ := bt_none he3
  clear he3
  obtain ⟨b1, hb⟩ := bt3 hb
  obtain ⟨b2, b3⟩ := bt3 hb
  rw [forceN_eq, forceN_eq, forceN_eq] at he4
  cases he4
  have b1 := Nat.le_of_ble_eq_true b1
  have b2 := Nat.le_of_ble_eq_true b2
  have b3 : off + n * i.size ≤ m := Nat.le_of_ble_eq_true b3
  have h1 := cX_ok hc ht hv
  simp only [VR] at h1
  obtain ⟨p, hp1, h1⟩ := h1
  obtain ⟨p', hp', hobj⟩ := hr.obj b _ hob
  rw [hp1] at hp'; cases hp'
  obtain ⟨arr, lo', hi'', e0, q1, q2, _⟩ := hobj
  have q3 := toVal (evN_ok hcl ht hl)
  have q4 := toVal (evN_ok hch ht hhh)
  have hbd := run_bounds (P := E.P) (w := w) false n n (lo.map a.eval) (hi.map a.eval) none l hh n (.inl ⟨rfl, rfl⟩)
    (q4.elim (fun q => .inl ⟨q.1, rfl, q.2.2⟩) .inr) (q3.elim (fun q => .inl ⟨q.1, q.2.2⟩) .inr) b1 b2 (Nat.le_refl _)
  refine ⟨.slice (some (if n = l then ⟨p.blk, p.disp + off, none⟩ else ⟨p.blk, p.disp + off + l * i.size, none⟩)) (hh - l) (n - l), ?_, p, (if n = l then p.disp + off else p.disp + off + l * i.size), n - l, hp1, ?_, (show hh - l ≤ n - l by omega), ?_, ?_⟩
  · simp [execOp, ho, h1, Instr.sliceAt, Instr.sureAddr, ud, hbd, run_size hi', addr_add]
  · by_cases hcl' : n = l <;> simp [hcl']
  · intro k hk; cases hk; rfl
  · by_cases hcl' : n = l
    · exact .inl (by omega)
    · refine .inr ⟨?_, ?_⟩
      · rw [if_neg hcl']; show _ = p.disp + (off + l * i.size); omega
      · have e3 : l * i.size + (n - l) * i.size = n * i.size := by rw [← Nat.add_mul]; congr 1; omega
        show p.disp + (off + l * i.size) + (n - l) * i.size ≤ p.size
        omega

noncomputable def cRead (E : Env) (o : Oper) : Option ReadF :=
  match o.op with
  | .load t x => rLoad E t x
  | .lookup t x i ok => Option.rec (motive := fun _ => Option ReadF) (rLookupS E t x i ok) some (rLookup E t x i ok)
  | .convert s d x => rConv E s d x
  | .entry x => ob (rEntry x) fun f => ob (rEntryA x) fun g => some fun tm h => Option.rec (motive := fun _ => Option AV) (g tm h) some (f tm h)
  | .slice t x l h m => rSliceArr E t x l h m
  | .call c => match c.callee with
    | .builtin .len => rLenMap E c.argTypes c.args
    | _ => none
  | _ => none
theorem cRead_ok {f : ReadF} (h : cRead E o = some f) : ReadOk E o f := by
  unfold cRead at h
  split at h <;> rename_i ho
  · exact rLoad_ok h ho
  · rename_i t x i ok
    cases hn : rLookup E t x i ok with
    | some g => rw [hn] at h; cases h; exact rLookup_ok hn ho
    | none => rw [hn] at h; exact rLookupS_ok h ho
  · exact rConv_ok h ho
  · obtain ⟨f1, h1, h⟩ := ob_eq h
    obtain ⟨f2, h2, h⟩ := ob_eq h
    cases h
    intro B ρ tm a w H nx av hr hg ht he
    have he : (Option.rec (motive := fun _ => Option AV) (f2 tm H) some (f1 tm H)) = some av := he
    cases hf : f1 tm H with
    | none => rw [hf] at he; exact rEntryA_ok h2 ho B ρ tm a w H nx av hr hg ht he
    | some v => rw [hf] at he; cases he; exact rEntry_ok h1 ho B ρ tm a w H nx _ hr hg ht hf
  · exact rSliceArr_ok h ho
  · split at h <;> rename_i hc
    · exact rLenMap_ok h hc ho
    · cases h
  · cases h
end
end Go.Vm

namespace Go.Vm

theorem pathF_fuel : ∀ (f g n : Nat), n ≤ f → n ≤ g → pathF f n = pathF g n := by
  intro f
  induction f with
  | zero => intro g n h _; have : n = 0 := by omega
            subst this; cases g <;> rfl
  | succ f ih =>
    intro g n h hg
    cases n with
    | zero => cases g <;> rfl
    | succ m =>
      cases g with
      | zero => omega
      | succ g =>
        show (Nat.beq (Nat.mod m 2) 1) :: pathF f (Nat.div m 2) = (Nat.beq (Nat.mod m 2) 1) :: pathF g (Nat.div m 2)
        have hd : Nat.div m 2 = m / 2 := rfl
        rw [hd, ih g (m / 2) (by omega) (by omega)]
theorem path_zero : path 0 = [] := rfl
theorem path_succ (m : Nat) : path (m + 1) = (Nat.beq (m % 2) 1) :: path (m / 2) := by
  show (Nat.beq (Nat.mod m 2) 1) :: pathF m (Nat.div m 2) = _
  have hd : Nat.div m 2 = m / 2 := rfl
  rw [hd, pathF_fuel m (m / 2) (m / 2) (by omega) (Nat.le_refl _)]; rfl

/-- n times the same, written out only where it is looked at -/
noncomputable def rep (a : AV) (f : Nat) : Nat → T AV :=
  Nat.rec (motive := fun _ => Nat → T AV) (fun _ => .nil) (fun _ ih n => Nat.rec (motive := fun _ => T AV) .nil (fun m _ => .node (ih (Nat.div (Nat.succ m) 2)) (some a) (ih (Nat.div m 2))) n) f
theorem rep_get (a : AV) : ∀ (f n i : Nat), n ≤ f → (rep a f n).get i = if i < n then some a else none := by
  intro f
  induction f with
  | zero => intro n i h; have : n = 0 := by omega
            subst this; rfl
  | succ f ih =>
    intro n i h
    cases n with
    | zero => rfl
    | succ m =>
      show T.getP (.node (rep a f ((m + 1) / 2)) (some a) (rep a f (m / 2))) (path i) = _
      cases i with
      | zero => rw [path_zero]; simp
      | succ i =>
        rw [path_succ, T.getP_node_cons]
        have e1 := ih ((m + 1) / 2) (i / 2) (by omega)
        have e2 := ih (m / 2) (i / 2) (by omega)
        unfold T.get at e1 e2
        rw [e1, e2, nat_beq_eq]
        rcases Nat.mod_two_eq_zero_or_one i with h0 | h0
        · rw [h0]; simp only [decide_eq_true_eq, Nat.zero_ne_one, if_false]
          by_cases hc : i < m
          · rw [if_pos (by omega), if_pos (by omega)]
          · rw [if_neg (by omega), if_neg (by omega)]
        · rw [h0]; simp only [decide_true, if_true]
          by_cases hc : i < m
          · rw [if_pos (by omega), if_pos (by omega)]
          · rw [if_neg (by omega), if_neg (by omega)]

/-- a row of cells out of a list -/
noncomputable def mkK {β : Type} (l : List AV) : Nat → T AV → (T AV → β) → β :=
  List.rec (motive := fun _ => Nat → T AV → (T AV → β) → β) (fun _ t k => k t) (fun a _ ih i t k => forceN (Nat.succ i) fun j => T.setK (some a) (path i) t fun t => ih j t k) l
noncomputable def mkT (l : List AV) (i : Nat) (t : T AV) : T AV := mkK l i t id
theorem mkK_eq {β : Type} : ∀ (l : List AV) (i : Nat) (t : T AV) (k : T AV → β), mkK l i t k = k (mkT l i t) := by
  intro l
  induction l with
  | nil => intro i t k; rfl
  | cons a l ih =>
    intro i t k
    have h1 : mkK (a :: l) i t k = mkK l (i + 1) (T.setP (some a) (path i) t) k := by
      show forceN (Nat.succ i) (fun j => T.setK (some a) (path i) t fun t => mkK l j t k) = _
      rw [forceN_eq, T.setK_eq]
    have h2 : mkT (a :: l) i t = mkT l (i + 1) (T.setP (some a) (path i) t) := by
      show forceN (Nat.succ i) (fun j => T.setK (some a) (path i) t fun t => mkK l j t id) = _
      rw [forceN_eq, T.setK_eq]; rfl
    rw [h1, h2, ih]
theorem mkT_cons (a : AV) (l : List AV) (i : Nat) (t : T AV) : mkT (a :: l) i t = mkT l (i + 1) (T.set (some a) i t) := by
  show forceN (Nat.succ i) (fun j => T.setK (some a) (path i) t fun t => mkK l j t id) = _
  rw [forceN_eq, T.setK_eq]; rfl
theorem mkT_get : ∀ (l : List AV) (i : Nat) (t : T AV) (j : Nat), (mkT l i t).get j = if i ≤ j ∧ j < i + l.length then l[j - i]? else t.get j := by
  intro l
  induction l with
  | nil => intro i t j; rw [if_neg (by simp)]; rfl
  | cons a l ih =>
    intro i t j
    rw [mkT_cons, ih]
    by_cases h1 : i + 1 ≤ j ∧ j < i + 1 + l.length
    · rw [if_pos h1, if_pos (by simp; omega)]
      have : j - i = (j - (i + 1)) + 1 := by omega
      rw [this]; simp
    · rw [if_neg h1, T.get_set]
      by_cases h2 : i = j
      · subst h2; simp
      · rw [if_neg h2, if_neg (by simp; omega)]

noncomputable def allOne (l : List AV) : Bool := List.rec (motive := fun _ => Bool) true (fun a _ ih => bt a.oneF ih false) l
theorem allOne_ok : ∀ {l : List AV}, allOne l = true → ∀ a ∈ l, a.one = true := by
  intro l
  induction l with
  | nil => intro _ a ha; cases ha
  | cons b l ih =>
    intro h a ha
    have h : bt b.oneF (allOne l) false = true := h
    obtain ⟨h1, h2⟩ := bt3 h
    cases ha with
    | head => rw [← AV.oneF_eq]; exact h1
    | tail _ hm => exact ih h2 a hm

/-- a new block of cells -/
noncomputable def newCells (et : TypeId) (l : List AV) : Option AObj := bt (allOne l) (forceN (lenL l) fun n => mkK l 0 .nil fun t => some (.cells et n t)) none
theorem newCells_eq (et : TypeId) (l : List AV) : newCells et l = bt (allOne l) (some (.cells et l.length (mkT l 0 .nil))) none := by
  simp [newCells, lenL_eq, mkK_eq]

theorem cellsObj {ρ : Ren} {l : List AV} {arr : Array Value} (et : TypeId) (h : VRs ρ l arr.toList) (h1 : ∀ a ∈ l, a.one = true) (c : Nat) :
    ObjR ρ (.cells et l.length (mkT l 0 .nil)) ⟨c, 0, arr.size⟩ (some (.cells arr et)) := by
  have hlen : arr.size = l.length := by rw [← h.length]; simp
  refine ⟨arr, 0, 0, rfl, rfl, by simp [hlen], fun i _ => by omega, ⟨fun i hi => ?_, fun _ => ⟨rfl, hlen⟩⟩, fun i a hi => ?_⟩
  · rw [mkT_get, if_neg (by omega)]; rfl
  · rw [mkT_get] at hi
    by_cases hc : 0 ≤ i ∧ i < 0 + l.length
    · rw [if_pos hc] at hi
      simp only [Nat.sub_zero] at hi
      obtain ⟨v, hv, hr⟩ := h.get hi
      exact ⟨v, by simpa using hv, hr, h1 a (List.mem_of_getElem? hi)⟩
    · rw [if_neg hc] at hi; cases hi

abbrev AllocF := T AV → Nat → Option (AObj × AV)
def AllocOk (E : Env) (o : Oper) (f : AllocF) : Prop :=
  ∀ (ρ : Ren) (tm : T AV) (a : Act) (w : World) (id : Nat) (obj : AObj) (av : AV), TmR ρ tm a.tmps → f tm id = some (obj, av) →
    ∃ v w' oc S, (execOp a.eval o).run E.P w = .ok (.value v) w' ∧ w'.heap = w.heap.push oc ∧ w'.os = w.os ∧ w'.tape = w.tape ∧ w'.output = w.output ∧
      ∀ ρ', Ren.le ρ ρ' → ρ' id = some ⟨w.heap.size, 0, S⟩ → ObjR ρ' obj ⟨w.heap.size, 0, S⟩ (some oc) ∧ VR ρ' av v

section
variable {E : Env} {o : Oper}

noncomputable def aAlloc (E : Env) (t : TypeId) : Option AllocF :=
  ob (E.info t) fun i => ob (zeroL i) fun z => ob (newCells t z) fun x => some fun _ id => some (x, .ptr id 0)
theorem aAlloc_ok {t : TypeId} {f : AllocF} (h : aAlloc E t = some f) (ho : o.op = .alloc t) : AllocOk E o f := by
  obtain ⟨i, hi, h⟩ := ob_eq h
  obtain ⟨z, hz, h⟩ := ob_eq h
  obtain ⟨x, hx, h⟩ := ob_eq h
  cases h
  intro ρ tm a w id obj av ht he
  cases he
  rw [newCells_eq] at hx
  obtain ⟨h1, hx⟩ := bt_none hx
  cases hx
  obtain ⟨zv, hzv, _⟩ := zeroL_ok (ρ := ρ) hz
  refine ⟨.pointer (some ⟨w.heap.size, 0, none⟩), w.alloc (.cells zv.cells t), .cells zv.cells t, zv.cells.size, by simp [execOp, ho, Instr.alloc, run_zero hi hzv, newVar, newRow], rfl, rfl, rfl, rfl, fun ρ' hle hid => ⟨?_, ?_⟩⟩
  · obtain ⟨zv', hzv', hr⟩ := zeroL_ok (ρ := ρ') hz
    rw [hzv] at hzv'; cases hzv'
    exact cellsObj t hr (allOne_ok h1) _
  · exact ⟨_, hid, by simp⟩

noncomputable def aBox (t : TypeId) (x : Operand) : Option AllocF :=
  ob (cX x) fun c => some fun tm id => ob (c.ev tm) fun v => ob (cellsF v) fun l => ob (newCells t l) fun x => some (x, .ptr id 0)
theorem aBox_ok {t : TypeId} {x : Operand} {f : AllocF} (h : aBox t x = some f) (ho : o.op = .box t x) : AllocOk E o f := by
  obtain ⟨c, hc, h⟩ := ob_eq h
  cases h
  intro ρ tm a w id obj av ht he
  obtain ⟨v, hv, he⟩ := ob_eq he
  obtain ⟨l, hl, he⟩ := ob_eq he
  obtain ⟨x', hx, he⟩ := ob_eq he
  cases he
  rw [newCells_eq] at hx
  obtain ⟨h1, hx⟩ := bt_none hx
  cases hx
  obtain ⟨rfl, hnt⟩ := cellsF_ok hl
  have h2 := (cX_ok hc ht hv).cells hnt
  refine ⟨.pointer (some ⟨w.heap.size, 0, none⟩), w.alloc (.cells (a.eval x).cells t), .cells (a.eval x).cells t, (a.eval x).cells.size, by simp [execOp, ho, Instr.box, newVar, newRow], rfl, rfl, rfl, rfl, fun ρ' hle hid => ⟨?_, ?_⟩⟩
  · exact cellsObj t (h2.mono hle) (allOne_ok h1) _
  · exact ⟨_, hid, by simp⟩

/-- n times a list -/
noncomputable def repL (z : List AV) (n : Nat) : List AV := Nat.rec (motive := fun _ => List AV) [] (fun _ ih => appF z ih) n
theorem repL_len (z : List AV) (n : Nat) : (repL z n).length = n * z.length := by
  induction n with
  | zero => show ([] : List AV).length = _; simp
  | succ n ih => show (appF z (repL z n)).length = _; rw [appF_eq, List.length_append, ih, Nat.succ_mul]; omega
theorem repL_get (z : List AV) : ∀ (n i : Nat), i < n * z.length → (repL z n)[i]? = z[i % z.length]? := by
  intro n
  induction n with
  | zero => intro i h; omega
  | succ n ih =>
    intro i h
    show (appF z (repL z n))[i]? = _
    rw [appF_eq]
    rw [Nat.succ_mul] at h
    by_cases hi : i < z.length
    · rw [List.getElem?_append_left hi, Nat.mod_eq_of_lt hi]
    · rw [List.getElem?_append_right (by omega), ih _ (by omega)]
      congr 1
      rw [Nat.mod_eq_sub_mod (by omega : i ≥ z.length)]

/-- what 'make' lays: zeros over and over -/
theorem repR {ρ : Ren} {z : List AV} {zs : Array Value} (h : VRs ρ z zs.toList) (n : Nat) : VRs ρ (repL z n) ((Array.range (n * z.length)).map (zs[· % zs.size]!)).toList := by
  have hl : zs.size = z.length := by rw [← h.length]; simp
  have key : ∀ (l : List AV) (vs : List Value), l.length = vs.length → (∀ (i : Nat) (a : AV), l[i]? = some a → ∃ v : Value, vs[i]? = some v ∧ VR ρ a v) → VRs ρ l vs := by
    intro l
    induction l with
    | nil => intro vs hl _; cases vs with | nil => exact VRs.nil | cons v vs => simp at hl
    | cons a l ih =>
      intro vs hl hg
      cases vs with
      | nil => simp at hl
      | cons v vs =>
        obtain ⟨u, hu, hr⟩ := hg 0 a rfl
        simp at hu; subst hu
        exact VRs.cons hr (ih vs (by simpa using hl) (fun i b hb => by simpa using hg (i + 1) b (by simpa using hb)))
  refine key _ _ (by simp [repL_len]) (fun i a hi => ?_)
  have hlt : i < n * z.length := by
    have := (List.getElem?_eq_some_iff.1 hi).1; rw [repL_len] at this; exact this
  rw [repL_get z n i hlt] at hi
  obtain ⟨v, hv, hr⟩ := h.get hi
  refine ⟨v, ?_, hr⟩
  have hm : i % zs.size < zs.size := by
    rcases Nat.eq_zero_or_pos z.length with h0 | h0
    · rw [h0] at hlt; omega
    · rw [hl]; exact Nat.mod_lt _ h0
  have hv' : zs[i % zs.size]? = some v := by rw [hl]; simpa using hv
  simp [hlt]
  rw [getElem!_pos zs _ hm]
  rw [Array.getElem?_eq_getElem hm] at hv'
  exact Option.some.inj hv'

noncomputable def aBuildSlice (E : Env) (t : TypeId) (len : Nat) (parts : Array (Nat × Operand)) : Option AllocF :=
  ob (E.under t) fun d => match d with
    | .slice e => ob (E.info e) fun i => ob (zeroL i) fun z => ob (fillC (fun k => some (Nat.mul k i.size, i.size)) parts.toList) fun r => forceL (repL z len) fun zs => forceN (lenL zs) fun n =>
        bt (bt (Nat.beq (lenL z) i.size) (Nat.ble (Nat.mul len i.size) (nat_lit 65536)) false) (some fun tm id => ob (fillF n r tm zs) fun l => ob (newCells e l) fun x => some (x, .slice id 0 len (some len) i.size)) none
    | _ => none
theorem aBuildSlice_ok {t : TypeId} {len : Nat} {parts : Array (Nat × Operand)} {f : AllocF} (h : aBuildSlice E t len parts = some f) (ho : o.op = .buildSlice t len parts) : AllocOk E o f := by
  obtain ⟨d, hd, h⟩ := ob_eq h
  have ud := run_under hd
  split at h
  · rename_i e
    obtain ⟨i, hi, h⟩ := ob_eq h
    obtain ⟨z, hz, h⟩ := ob_eq h
    obtain ⟨r, hr, h⟩ := ob_eq h
    rw [forceL_eq, forceN_eq] at h
    obtain ⟨hb, h⟩ := bt_none h
    obtain ⟨b1, b2⟩ := bt3 hb
    cases h
    have b1 := Nat.eq_of_beq_eq_true b1
    have b2 : len * i.size ≤ 65536 := Nat.le_of_ble_eq_true b2
    rw [lenL_eq] at b1
    intro ρ tm a w id obj av ht he
    obtain ⟨l, hl, he⟩ := ob_eq he
    obtain ⟨x, hx, he⟩ := ob_eq he
    cases he
    rw [newCells_eq] at hx
    obtain ⟨h1, hx⟩ := bt_none hx
    cases hx
    obtain ⟨zv, hzv, hzr⟩ := zeroL_ok (ρ := ρ) hz
    have hzs : zv.cells.size = i.size := by rw [← b1, ← hzr.length]; simp
    have hrep := repR hzr len
    rw [b1] at hrep
    rw [lenL_eq, repL_len, b1] at hl
    obtain ⟨arr', hf, hsz, hv⟩ := fill_ok ht parts.toList r hr (repL z len) l ((Array.range (len * i.size)).map (zv.cells[· % zv.cells.size]!)) (by simp) hrep hl
    have hll : l.length = len * i.size := by rw [← hv.length]; simpa using hsz
    refine ⟨.slice (some ⟨w.heap.size, 0, none⟩) len len, w.alloc (.cells arr' e), .cells arr' e, arr'.size, ?_, rfl, rfl, rfl, rfl, fun ρ' hle hid => ⟨?_, ?_⟩⟩
    · have hf' : Instr.fill (fun i_1 => some (i_1 * i.size, i.size)) ((Array.range (len * i.size)).map (zv.cells[· % zv.cells.size]!)) (parts.toList.map fun x => (x.1, a.eval x.2)) = some arr' := hf
      have hnb : ¬ (16777216 : Nat) < len * i.size := by omega
      by_cases h0 : len * i.size = 0
      · have hf0 : Instr.fill (fun i_1 => some (i_1 * i.size, i.size)) #[] (parts.toList.map fun x => (x.1, a.eval x.2)) = some arr' := by
          rw [← hf]; congr 1; rw [h0]; simp
        have hr0 : ∀ g : Nat → Value, (Array.range 0).map g = #[] := by intro g; simp
        simp only [execOp, ho, Instr.buildSlice, Sem.run_bind, ud, Result.andThen_ok, run_size hi]
        simp only [h0, hr0]
        simp only [gt_iff_lt, if_true]
        simp [hf0, newRow]
      · simp only [execOp, ho, Instr.buildSlice, Sem.run_bind, ud, Result.andThen_ok, run_size hi]
        simp [hnb, h0, run_zero hi hzv, hf', newRow]
    · exact cellsObj e (hv.mono hle) (allOne_ok h1) _
    · exact ⟨_, 0, len, hid, rfl, Nat.le_refl _, fun k hk => by cases hk; rfl, .inr ⟨rfl, by simp [hsz]⟩⟩
  · cases h

/-- a row of zeros -/
noncomputable def zeroRow (et : TypeId) (z : List AV) (n : Nat) : Option AObj :=
  bt (Nat.beq (lenL z) 1) (List.rec (motive := fun _ => Option AObj) none (fun a _ _ => bt a.oneF (some (.cells et n (rep a n n))) none) z) (newCells et (repL z n))

theorem zeroRow_ok {et : TypeId} {z : List AV} {n : Nat} {x : AObj} (h : zeroRow et z n = some x) {zs : Array Value} {ρ : Ren} (hr : VRs ρ z zs.toList) (c : Nat) :
    ObjR ρ x ⟨c, 0, n * z.length⟩ (some (.cells ((Array.range (n * z.length)).map (zs[· % zs.size]!)) et)) := by
  have hrep := repR hr n
  have hsz : ((Array.range (n * z.length)).map (zs[· % zs.size]!)).size = n * z.length := by simp
  unfold zeroRow at h
  cases hq : Nat.beq (lenL z) 1
  · rw [hq, bt_false, newCells_eq] at h
    obtain ⟨h1, h⟩ := bt_none h
    cases h
    have := cellsObj et hrep (allOne_ok h1) c
    rw [hsz] at this; exact this
  · rw [hq, bt_true] at h
    have hq := Nat.eq_of_beq_eq_true hq
    rw [lenL_eq] at hq
    match z, hq with
    | [a], _ =>
      dsimp only at h
      obtain ⟨h1, h⟩ := bt_none h
      cases h
      rw [AV.oneF_eq] at h1
      refine ⟨_, 0, 0, rfl, hsz, by simp, fun i _ => by omega, ⟨fun i hi => ?_, fun _ => ⟨rfl, by simp⟩⟩, fun i b hi => ?_⟩
      · rw [rep_get a n n i (Nat.le_refl _), if_neg (by omega)]
      · rw [rep_get a n n i (Nat.le_refl _)] at hi
        by_cases hc : i < n
        · rw [if_pos hc] at hi; cases hi
          have hg : (repL [a] n)[i]? = some a := by rw [repL_get [a] n i (by simpa using hc)]; simp [Nat.mod_one]
          obtain ⟨v, hv, hvr⟩ := hrep.get hg
          exact ⟨v, by rw [← Array.getElem?_toList]; simpa using hv, hvr, h1⟩
        · rw [if_neg hc] at hi; cases hi

noncomputable def aMakeSlice (E : Env) (t : TypeId) (l c : Operand) : Option AllocF :=
  ob (cX l) fun cl => ob (cX c) fun cc => ob (E.under t) fun d => match d with
    | .slice e => ob (E.info e) fun i => ob (zeroL i) fun z => bt (Nat.beq (lenL z) i.size) (some fun tm id => ob (cl.ev tm) fun lv => ob (cc.ev tm) fun cv => lv.onInt none fun _ l => natI l none fun l => cv.onInt none fun _ c => natI c none fun c =>
        bt (bt (Nat.ble l c) (bt (Nat.ble (Nat.mul i.bytes c) (nat_lit 1099511627776)) (Nat.ble c (nat_lit 1099511627776)) false) false) (ob (zeroRow e z c) fun x => some (x, .slice id 0 l (some c) i.size)) none) none
    | _ => none
theorem aMakeSlice_ok {t : TypeId} {l c : Operand} {f : AllocF} (h : aMakeSlice E t l c = some f) (ho : o.op = .makeSlice t l c) : AllocOk E o f := by
  obtain ⟨cl, hcl, h⟩ := ob_eq h
  obtain ⟨cc, hcc, h⟩ := ob_eq h
  obtain ⟨d, hd, h⟩ := ob_eq h
  have ud := run_under hd
  split at h
  · rename_i e
    obtain ⟨i, hi, h⟩ := ob_eq h
    obtain ⟨z, hz, h⟩ := ob_eq h
    obtain ⟨b1, h⟩ := bt_none h
    cases h
    have b1 := Nat.eq_of_beq_eq_true b1
    rw [lenL_eq] at b1
    intro ρ tm a w id obj av ht he
    obtain ⟨lv, hlv, he⟩ := ob_eq he
    obtain ⟨cv, hcv, he⟩ := ob_eq he
    obtain ⟨kl, ln, hveq, he'⟩ := AV.onInt_some he; clear he; subst hveq; have he := he'; clear he'
    obtain ⟨ln, hveq, he'⟩ := natI_some he; clear he; subst hveq; have he := he'; clear he'
    obtain ⟨kc, cn, hveq, he'⟩ := AV.onInt_some he; clear he; subst hveq; have he := he'; clear he'
    obtain ⟨cn, hveq, he'⟩ := natI_some he; clear he; subst hveq; have he := he'; clear he'
    obtain ⟨hb, he⟩ := bt_none he
    obtain ⟨q1, hb⟩ := bt3 hb
    obtain ⟨q2, q3⟩ := bt3 hb
    have q1 : ln ≤ cn := Nat.le_of_ble_eq_true q1
    have q2 : i.bytes * cn ≤ 1099511627776 := Nat.le_of_ble_eq_true q2
    have q3 : cn ≤ 1099511627776 := Nat.le_of_ble_eq_true q3
    obtain ⟨x, hx, he⟩ := ob_eq he
    cases he
    obtain ⟨zv, hzv, hzr⟩ := zeroL_ok (ρ := ρ) hz
    have h1 := cX_ok hcl ht hlv
    have h2 := cX_ok hcc ht hcv
    simp only [VR] at h1 h2
    have w1 : IntKind.i64.wrap (ln : Int) = ln := wrap_in .i64 _ (by simp [nlim]) (by simp [lim]; omega)
    have w2 : IntKind.i64.wrap (cn : Int) = cn := wrap_in .i64 _ (by simp [nlim]) (by simp [lim]; omega)
    have c1 : ¬ ((i.bytes : Int) * (cn : Int) > 281474976710656) := by
      have : (i.bytes : Int) * (cn : Int) = ((i.bytes * cn : Nat) : Int) := by simp
      omega
    refine ⟨.slice (some ⟨w.heap.size, 0, none⟩) ln cn, w.alloc (.cells ((Array.range (cn * z.length)).map (zv.cells[· % zv.cells.size]!)) e), .cells ((Array.range (cn * z.length)).map (zv.cells[· % zv.cells.size]!)) e, cn * z.length, ?_, rfl, rfl, rfl, rfl, fun ρ' hle hid => ⟨?_, ?_⟩⟩
    · have c2 : ¬ ((cn : Int) < (ln : Int)) := by omega
      have c4 : ¬ ((ln : Int) < 0) := by omega
      have c5 : ¬ ((cn : Int) < 0) := by omega
      have c3 : (decide ((cn : Int) < 0) || decide ((i.bytes : Int) * (cn : Int) > 2 ^ 48) || decide ((ln : Int) < 0) || decide ((ln : Int) > (cn : Int))) = false := by
        simp; omega
      by_cases h0 : cn * i.size = 0
      · have hrange : ∀ g : Nat → Value, (Array.range 0).map g = #[] := by intro g; simp
        simp only [execOp, ho, Instr.makeSlice, Sem.run_bind, ud, Result.andThen_ok, h1, h2, asInt, asIntOf, Sem.run_pure, run_info hi, w1, w2, c3, Bool.false_eq_true, if_false, run_askRoom, Int.toNat_natCast, run_size hi, h0, if_true, Sem.run_ite]
        simp [newRow, b1, hrange, h0]
      · simp only [execOp, ho, Instr.makeSlice, Sem.run_bind, ud, Result.andThen_ok, h1, h2, asInt, asIntOf, Sem.run_pure, run_info hi, w1, w2, c3, Bool.false_eq_true, if_false, run_askRoom, Int.toNat_natCast, run_size hi, h0, Sem.run_ite, run_zero hi hzv]
        simp [newRow, b1]
    · obtain ⟨zv', hzv', hr'⟩ := zeroL_ok (ρ := ρ') hz
      rw [hzv] at hzv'; cases hzv'
      exact zeroRow_ok hx hr' _
    · exact ⟨_, 0, cn, hid, rfl, q1, fun k hk => by cases hk; rfl, .inr ⟨rfl, by simp [b1]⟩⟩
  · cases h

noncomputable def aMakeMap (E : Env) (t : TypeId) (r : Option Operand) : Option AllocF :=
  match r with
  | none => some fun _ id => some (.map [], .map id)
  | some x => ob (cX x) fun c => ob (E.under t) fun d => match d with
    | .map _ _ => some fun tm id => ob (c.ev tm) fun v => v.onInt none fun _ _ => some (.map [], .map id)
    | _ => none
theorem aMakeMap_ok {t : TypeId} {r : Option Operand} {f : AllocF} (h : aMakeMap E t r = some f) (ho : o.op = .makeMap t r) : AllocOk E o f := by
  have hobj : ∀ (ρ' : Ren) (c : Nat), ObjR ρ' (.map []) ⟨c, 0, 0⟩ (some (.map #[] 0)) := fun ρ' c => ⟨#[], rfl, rfl, rfl, fun i e hi => by simp at hi⟩
  cases r with
  | none =>
    cases h
    intro ρ tm a w id obj av ht he
    cases he
    exact ⟨.map (some w.heap.size), w.alloc (.map #[] 0), .map #[] 0, 0, by simp [execOp, ho, Instr.makeMap], rfl, rfl, rfl, rfl, fun ρ' hle hid => ⟨hobj _ _, _, hid, rfl⟩⟩
  | some x =>
    obtain ⟨c, hc, h⟩ := ob_eq h
    obtain ⟨d, hd, h⟩ := ob_eq h
    have ud := run_under hd
    split at h
    · cases h
      intro ρ tm a w id obj av ht he
      obtain ⟨v, hv, he⟩ := ob_eq he
      obtain ⟨k, n, hveq, he'⟩ := AV.onInt_some he; clear he; subst hveq; have he := he'; clear he'
      cases he
      have h1 := cX_ok hc ht hv
      simp only [VR] at h1
      exact ⟨.map (some w.heap.size), w.alloc (.map #[] 0), .map #[] 0, 0, by simp [execOp, ho, Instr.makeMap, ud, h1, asInt, asIntOf], rfl, rfl, rfl, rfl, fun ρ' hle hid => ⟨hobj _ _, _, hid, rfl⟩⟩
    · cases h

noncomputable def aRange (E : Env) (t : TypeId) (x : Operand) : Option AllocF :=
  ob (cX x) fun c => ob (E.under t) fun d => match d with
    | .string => some fun tm id => ob (c.ev tm) fun v => v.onStr none fun n m => some (.siter n m 0, .ptr id 0)
    | _ => none
theorem aRange_ok {t : TypeId} {x : Operand} {f : AllocF} (h : aRange E t x = some f) (ho : o.op = .range t x) : AllocOk E o f := by
  obtain ⟨c, hc, h⟩ := ob_eq h
  obtain ⟨d, hd, h⟩ := ob_eq h
  have ud := run_under hd
  split at h
  · cases h
    intro ρ tm a w id obj av ht he
    obtain ⟨v, hv, he⟩ := ob_eq he
    obtain ⟨n, m, hveq, he'⟩ := AV.onStr_some he; clear he; subst hveq; have he := he'; clear he'
    cases he
    have h1 := cX_ok hc ht hv
    simp only [VR] at h1
    obtain ⟨s, h1, hs⟩ := h1
    exact ⟨.pointer (some ⟨w.heap.size, 0, none⟩), w.alloc (.stringIter s 0), .stringIter s 0, 0, by simp [execOp, ho, Instr.range, ud, h1], rfl, rfl, rfl, rfl, fun ρ' hle hid => ⟨⟨s, rfl, rfl, hs⟩, _, hid, rfl⟩⟩
  · cases h

/-- the bytes of a packed string -/
noncomputable def bytesOf (n : Nat) : Nat → List AV := Nat.rec (motive := fun _ => Nat → List AV) (fun _ => []) (fun _ ih m => forceN (Nat.mod m 256) fun b => .int .u8 (.ofNat b) :: ih (Nat.div m 256)) n
theorem bytesOf_ok {ρ : Ren} : ∀ (l : List UInt8), VRs ρ (bytesOf l.length (pack l)) (l.map fun b => Value.int .u8 b.toNat) ∧ ∀ a ∈ bytesOf l.length (pack l), a.one = true := by
  intro l
  induction l with
  | nil => exact ⟨VRs.nil, fun a h => by cases h⟩
  | cons b l ih =>
    have hb := b.toNat_lt
    have e : bytesOf (b :: l).length (pack (b :: l)) = .int .u8 (.ofNat b.toNat) :: bytesOf l.length (pack l) := by
      show forceN (Nat.mod (pack (b :: l)) 256) (fun c => AV.int .u8 (.ofNat c) :: bytesOf l.length (Nat.div (pack (b :: l)) 256)) = _
      rw [forceN_eq]
      have e1 : Nat.mod (pack (b :: l)) 256 = b.toNat := by show (b.toNat + 256 * pack l) % 256 = _; omega
      have e2 : Nat.div (pack (b :: l)) 256 = pack l := by show (b.toNat + 256 * pack l) / 256 = _; omega
      rw [e1, e2]
    rw [e]
    refine ⟨VRs.cons rfl ih.1, fun a ha => ?_⟩
    cases ha with
    | head => rfl
    | tail _ hm => exact ih.2 a hm

noncomputable def aBytes (E : Env) (src dst : TypeId) (x : Operand) : Option AllocF :=
  ob (cX x) fun c => ob (E.under src) fun s => ob (E.under dst) fun d => match d with
    | .slice e => ob (E.under e) fun de => match s with
     | .string => match de with
      | .int .u8 => bt (exactTy e) none (some fun tm id => ob (c.ev tm) fun v => v.onStr none fun n m => forceL (bytesOf n m) fun l => mkK l 0 .nil fun t => some (.cells e n t, .slice id 0 n none 1))
      | _ => none
     | _ => none
    | _ => none
theorem aBytes_ok {src dst : TypeId} {x : Operand} {f : AllocF} (h : aBytes E src dst x = some f) (ho : o.op = .convert src dst x) : AllocOk E o f := by
  obtain ⟨c, hc, h⟩ := ob_eq h
  obtain ⟨s, hs, h⟩ := ob_eq h
  obtain ⟨d, hd, h⟩ := ob_eq h
  split at h
  · rename_i _e0
    obtain ⟨de, hde, h⟩ := ob_eq h
    split at h <;> try (cases h; done)
    split at h
    · cases hex : exactTy _e0 with
      | true => rw [hex] at h; cases h
      | false =>
      rw [hex, bt_false] at h
      cases h
      intro ρ tm a w id obj av ht he
      obtain ⟨v, hv, he⟩ := ob_eq he
      obtain ⟨n, m, hveq, he'⟩ := AV.onStr_some he; clear he; subst hveq; have he := he'; clear he'
      rw [forceL_eq, mkK_eq] at he
      cases he
      have h1 := cX_ok hc ht hv
      simp only [VR] at h1
      obtain ⟨s', h1, hs1, hs2⟩ := h1
      have hrun := run_bytes_of_string (P := E.P) w src dst _ s' (E.under_ok hs) (E.under_ok hd) (E.under_ok hde)
      have hcap := grownCap_ge w s'.size 0
      have hlen : s'.data.toList.length = n := (size_toList s').trans hs1
      refine ⟨.slice (some ⟨w.heap.size, 0, none⟩) s'.size (grownCap w s'.size 0 _e0), w.drew.alloc (.cells (bytesRow s' (grownCap w s'.size 0 _e0)) _e0 ((bytesRow s' (grownCap w s'.size 0 _e0)).size, (bytesRow s' (grownCap w s'.size 0 _e0)).size + 1)), _, (bytesRow s' (grownCap w s'.size 0 _e0)).size, by simp [execOp, ho, h1, hrun], rfl, rfl, rfl, rfl, fun ρ' hle hid => ⟨?_, ?_⟩⟩
      · obtain ⟨b1, b2⟩ := bytesOf_ok (ρ := ρ') s'.data.toList
        rw [hlen, hs2] at b1 b2
        have hbl : (bytesOf n m).length = n := by rw [← b1.length]; simp [hlen]
        have hsz : ∀ k, s'.size ≤ k → (bytesRow s' k).size = k := by intro k hk; simp only [bytesRow]; simp; have : s'.data.size = s'.size := rfl; omega
        refine ⟨_, _, _, rfl, rfl, ?_, fun i hi => (by simp only at hi; omega), ⟨fun i hi => ?_, fun hx => (by rw [hex] at hx; cases hx)⟩, fun i b hi => ?_⟩
        · show 0 + n ≤ (bytesRow s' (grownCap w s'.size 0 _e0)).size; rw [hsz _ (hcap _)]; show 0 + n ≤ _; rw [← hs1, Nat.zero_add]; exact hcap _
        · rw [mkT_get, if_neg (by omega)]; rfl
        · rw [mkT_get] at hi
          by_cases hcc : 0 ≤ i ∧ i < 0 + (bytesOf n m).length
          · rw [if_pos hcc] at hi
            simp only [Nat.sub_zero] at hi
            obtain ⟨u, hu, hur⟩ := b1.get hi
            refine ⟨u, ?_, hur, b2 _ (List.mem_of_getElem? hi)⟩
            simp only [bytesRow, Nat.zero_add]
            rw [Array.getElem?_append_left (by simp; have : s'.data.size = s'.size := rfl; omega)]
            simpa using hu
          · rw [if_neg hcc] at hi; cases hi
      · refine ⟨⟨w.heap.size, 0, (bytesRow s' (grownCap w s'.size 0 _e0)).size⟩, 0, grownCap w s'.size 0 _e0, hid, by rw [hs1], by rw [← hs1]; exact hcap _, (fun k hk => by cases hk), ?_⟩
        refine .inr ⟨rfl, ?_⟩
        have hc2 := hcap _e0
        have hd2 : s'.data.size = s'.size := rfl
        simp only [bytesRow]; simp
        omega
    · cases h
  · cases h

noncomputable def cAlloc (E : Env) (o : Oper) : Option AllocF :=
  match o.op with
  | .alloc t => aAlloc E t
  | .box t x => aBox t x
  | .buildSlice t n ps => aBuildSlice E t n ps
  | .makeSlice t l c => aMakeSlice E t l c
  | .makeMap t r => aMakeMap E t r
  | .range t x => aRange E t x
  | .convert s d x => aBytes E s d x
  | _ => none
theorem cAlloc_ok {f : AllocF} (h : cAlloc E o = some f) : AllocOk E o f := by
  unfold cAlloc at h
  split at h <;> rename_i ho
  · exact aAlloc_ok h ho
  · exact aBox_ok h ho
  · exact aBuildSlice_ok h ho
  · exact aMakeSlice_ok h ho
  · exact aMakeMap_ok h ho
  · exact aRange_ok h ho
  · exact aBytes_ok h ho
  · cases h
end
end Go.Vm

namespace Go.Vm

/-- cells from (c, o) on have been written -/
structure Wrote (w w' : World) (c o : Nat) (vs : List Value) : Prop where
  other : ∀ k, k ≠ c → w'.heap[k]? = w.heap[k]?
  at_ : ∀ arr et fr, w.heap[c]? = some (.cells arr et fr) → ∃ arr', w'.heap[c]? = some (.cells arr' et fr) ∧ arr'.size = arr.size ∧
    ∀ j, arr'[j]? = if o ≤ j ∧ j < o + vs.length ∧ j < arr.size then vs[j - o]? else arr[j]?
  size : w'.heap.size = w.heap.size
  os : w'.os = w.os
  tape : w'.tape = w.tape
  output : w'.output = w.output

theorem Wrote.nil (w : World) (c o : Nat) : Wrote w w c o [] :=
  ⟨fun _ _ => rfl, fun arr et fr h => ⟨arr, h, rfl, fun j => by rw [if_neg (by simp; omega)]⟩, rfl, rfl, rfl, rfl⟩

theorem setCell_heap_same {w : World} {c o : Nat} {v : Value} {arr : Array Value} {et : TypeId} {fr : Nat × Nat} (h : w.heap[c]? = some (.cells arr et fr)) :
    (w.setCell ⟨c, o, none⟩ v).heap[c]? = some (.cells (arr.setIfInBounds o v) et fr) := by
  have hlt : c < w.heap.size := (Array.getElem?_eq_some_iff.1 h).1
  have hv : w.heap[c] = .cells arr et fr := (Array.getElem?_eq_some_iff.1 h).2
  unfold World.setCell
  rw [Array.getElem?_eq_getElem (by simpa using hlt), Array.getElem_modify]
  simp [hv]

theorem Wrote.cons {w w' : World} {c o : Nat} {v : Value} {vs : List Value} (h : Wrote (w.setCell ⟨c, o, none⟩ v) w' c (o + 1) vs) : Wrote w w' c o (v :: vs) where
  other := fun k hk => by rw [h.other k hk]; simp only [World.setCell, Array.getElem?_modify]; rw [if_neg (by simpa using (Ne.symm hk))]
  at_ := fun arr et fr hc => by
    obtain ⟨arr', h1, h2, h3⟩ := h.at_ _ et fr (setCell_heap_same hc)
    refine ⟨arr', h1, by simpa using h2, fun j => ?_⟩
    rw [h3 j]
    simp only [Array.size_setIfInBounds, List.length_cons]
    by_cases hj : o + 1 ≤ j ∧ j < o + 1 + vs.length ∧ j < arr.size
    · rw [if_pos hj, if_pos (by omega)]
      have : j - o = (j - (o + 1)) + 1 := by omega
      rw [this]; simp
    · rw [if_neg hj]
      by_cases he : o = j
      · subst he
        by_cases hlt : o < arr.size
        · rw [if_pos (by omega)]; simp [hlt]
        · rw [if_neg (by omega)]; simp [hlt]
      · rw [if_neg (by omega), Array.getElem?_setIfInBounds_ne he]
  size := by rw [h.size]; simp
  os := h.os
  tape := h.tape
  output := h.output

theorem run_storeCells {P : Program} {c : Nat} : ∀ (vs : List Value) (o : Nat) (a : Addr) (i : Nat) (w : World) (arr : Array Value) (et : TypeId) (lo hi : Nat), a.add i = ⟨c, o, none⟩ → a.spot = none → w.heap[c]? = some (.cells arr et (lo, hi)) → o + vs.length ≤ arr.size →
    (∀ j, j < arr.size → ¬ (lo ≤ j ∧ j < hi)) → (∀ v ∈ vs, Value.one v = true) → ∃ w', (storeCells a vs i).run P w = .ok () w' ∧ Wrote w w' c o vs := by
  intro vs
  induction vs with
  | nil => intro o a i w arr et lo hi _ _ _ _ _ _; exact ⟨w, rfl, Wrote.nil w c o⟩
  | cons v vs ih =>
    intro o a i w arr et lo hi ha hsp hc hl hf h1
    simp only [List.length_cons] at hl
    have hone : v.oneCell' = true := by have := h1 v (by simp); cases v <;> first | rfl | exact absurd this (by simp [Value.one])
    have hcell : w.cell? ⟨c, o, none⟩ = arr[o]? := by simp [World.cell?, hc]
    have ho : o < arr.size := by omega
    have hcell' : w.cell? ⟨c, o, none⟩ = some arr[o] := by rw [hcell]; simp [ho]
    have hfz : w.frozen? ⟨c, o, none⟩ = false := by
      have := hf o ho
      simp only [World.frozen?, hc]
      simp; omega
    have hstore : (store (a.add i) v).run P w = .ok () (w.setCell ⟨c, o, none⟩ v) := by
      rw [run_store P w _ v .plain hone, ha, hcell']; simp [hfz]
    have hnext : a.add (i + 1) = ⟨c, o + 1, none⟩ := by
      obtain ⟨b, off, sp⟩ := a
      simp only at hsp; subst hsp
      rw [addr_add] at ha ⊢
      simp only [Addr.mk.injEq, and_true] at ha ⊢
      exact ⟨ha.1, by omega⟩
    obtain ⟨w', hw', hwr⟩ := ih (o + 1) a (i + 1) (w.setCell ⟨c, o, none⟩ v) _ et lo hi hnext hsp (setCell_heap_same hc) (by simp; omega) (by simpa using hf) (fun u hu => h1 u (by simp [hu]))
    exact ⟨w', by simp [storeCells, hstore, hw'], hwr.cons⟩

theorem HR.put {B : Nat} {ρ : Ren} {h h' : Heap} {nx : Nat} {w w' : World} (k : HR B ρ h nx w) {b : Nat} {p : Place} (hb : (h b).isSome) (hp : ρ b = some p) (ho : ∀ c, c ≠ p.blk → w'.heap[c]? = w.heap[c]?)
    (hsz : w'.heap.size = w.heap.size) {x : Option AObj} (hx : ∀ o, x = some o → ObjR ρ o p w'.heap[p.blk]?) (hh : ∀ y, h' y = if y = b then x else h y) : HR B ρ h' nx w' where
  fresh := k.fresh
  low := fun y q hq => by rw [hsz]; exact k.low y q hq
  obj := fun y o hy => by
    rw [hh] at hy
    by_cases hyb : y = b
    · subst hyb; rw [if_pos rfl] at hy; exact ⟨p, hp, hx o hy⟩
    · rw [if_neg hyb] at hy
      obtain ⟨q, hq, hqr⟩ := k.obj y o hy
      obtain ⟨ob, hob⟩ := Option.isSome_iff_exists.1 hb
      have hne : q.blk ≠ p.blk := fun e => hyb (k.inj y b o ob q p hy hob hq hp e)
      exact ⟨q, hq, by rw [ho _ hne]; exact hqr⟩
  inj := fun y y' o o' q q' h1 h2 h3 h4 h5 => by
    obtain ⟨ob, hob⟩ := Option.isSome_iff_exists.1 hb
    rw [hh] at h1 h2
    by_cases e1 : y = b <;> by_cases e2 : y' = b
    · rw [e1, e2]
    · rw [if_neg e2] at h2; subst e1; exact k.inj _ _ _ _ _ _ hob h2 h3 h4 h5
    · rw [if_neg e1] at h1; subst e2; exact k.inj _ _ _ _ _ _ h1 hob h3 h4 h5
    · rw [if_neg e1] at h1; rw [if_neg e2] at h2; exact k.inj _ _ _ _ _ _ h1 h2 h3 h4 h5

theorem Ext.put {B : Nat} {ρ : Ren} {h h' : Heap} {nx : Nat} {w w' : World} (k : HR B ρ h nx w) {b : Nat} {p : Place} (hb : (h b).isSome) (hp : ρ b = some p) (ho : ∀ c, c ≠ p.blk → w'.heap[c]? = w.heap[c]?)
    (hs : Same w w') (hsz : w'.heap.size = w.heap.size) {x : Option AObj} (hx : ∀ o, x = some o → ObjR ρ o p w'.heap[p.blk]?) (hh : ∀ y, h' y = if y = b then x else h y) (hnm : ∀ m c n, x ≠ some (.mitat m c n) := by intro _ _ _ hc; cases hc) : Ext B ρ h nx w ρ h' nx w' where
  le := Ren.le_refl _
  old := fun _ _ => rfl
  at_ := fun y m c n e => by
    rw [hh] at e
    by_cases hyb : y = b
    · rw [if_pos hyb] at e; exact absurd e (hnm m c n)
    · rw [if_neg hyb] at e
      refine .inr ⟨e, fun q hq => ho _ fun e2 => ?_⟩
      obtain ⟨ob, hob⟩ := Option.isSome_iff_exists.1 hb
      exact hyb (k.inj y b _ _ q p e hob hq hp e2)
  nx := Nat.le_refl _
  hr := k.put hb hp ho hsz hx hh
  own := fun c ⟨y, o, q, hy, hq, hqc⟩ => by
    rw [hh] at hy
    by_cases hyb : y = b
    · subst hyb
      obtain ⟨ob, hob⟩ := Option.isSome_iff_exists.1 hb
      exact .inr ⟨y, ob, q, hob, hq, hqc⟩
    · rw [if_neg hyb] at hy; exact .inr ⟨y, o, q, hy, hq, hqc⟩
  keep := fun c hc hn => ho c (fun e => hn (by
    obtain ⟨ob, hob⟩ := Option.isSome_iff_exists.1 hb
    exact ⟨b, ob, p, hob, hp, e.symm⟩))
  same := hs

noncomputable def Ren.upd (ρ : Ren) (id : Nat) (p : Place) : Ren := fun b => if b = id then some p else ρ b
theorem Ren.le_upd {ρ : Ren} {id : Nat} {p : Place} (h : ρ id = none) : Ren.le ρ (ρ.upd id p) := fun b q hb => by
  unfold Ren.upd
  by_cases e : b = id
  · subst e; rw [h] at hb; cases hb
  · rw [if_neg e]; exact hb
theorem Ren.upd_same {ρ : Ren} {id : Nat} {p : Place} : ρ.upd id p id = some p := by simp [Ren.upd]

/-- a new block, under a name that is still free -/
theorem HR.new {B : Nat} {ρ : Ren} {h h' : Heap} {nx : Nat} {w w' : World} (k : HR B ρ h nx w) {id : Nat} (hid : ρ id = none) (hlt : id < nx) {oc : Obj} (hw : w'.heap = w.heap.push oc) (hB : B ≤ w.heap.size) {S d : Nat} {x : AObj}
    (hx : ObjR (ρ.upd id ⟨w.heap.size, d, S⟩) x ⟨w.heap.size, d, S⟩ (some oc)) (hh : ∀ y, h' y = if y = id then some x else h y) : HR B (ρ.upd id ⟨w.heap.size, d, S⟩) h' nx w' where
  fresh := fun b hb => by unfold Ren.upd; rw [if_neg (by omega)]; exact k.fresh b hb
  low := fun b p hp => by
    unfold Ren.upd at hp
    rw [hw]
    by_cases e : b = id
    · rw [if_pos e] at hp; cases hp; simp; omega
    · rw [if_neg e] at hp; have := k.low b p hp; simp; omega
  obj := fun y o hy => by
    rw [hh] at hy
    by_cases e : y = id
    · subst e
      rw [if_pos rfl] at hy; cases hy
      refine ⟨_, Ren.upd_same, ?_⟩
      rw [hw]; simpa using hx
    · rw [if_neg e] at hy
      obtain ⟨q, hq, hqr⟩ := k.obj y o hy
      refine ⟨q, Ren.le_upd hid _ _ hq, ?_⟩
      have hl := (k.low y q hq).2
      rw [hw, Array.getElem?_push, if_neg (by omega)]
      exact hqr.mono (Ren.le_upd hid)
  inj := fun y y' o o' q q' h1 h2 h3 h4 h5 => by
    rw [hh] at h1 h2
    unfold Ren.upd at h3 h4
    by_cases e1 : y = id <;> by_cases e2 : y' = id
    · rw [e1, e2]
    · rw [if_pos e1] at h3; rw [if_neg e2] at h4; cases h3; have := (k.low _ _ h4).2; simp at h5; omega
    · rw [if_neg e1] at h3; rw [if_pos e2] at h4; cases h4; have := (k.low _ _ h3).2; simp at h5; omega
    · rw [if_neg e1] at h1 h3; rw [if_neg e2] at h2 h4; exact k.inj _ _ _ _ _ _ h1 h2 h3 h4 h5

theorem HR.grow {B : Nat} {ρ : Ren} {h : Heap} {nx nx' : Nat} {w : World} (k : HR B ρ h nx w) (hn : nx ≤ nx') : HR B ρ h nx' w :=
  ⟨fun b hb => k.fresh b (by omega), k.low, k.obj, k.inj⟩
theorem HR.world {B : Nat} {ρ : Ren} {h : Heap} {nx : Nat} {w w' : World} (k : HR B ρ h nx w) (hw : w'.heap = w.heap) : HR B ρ h nx w' :=
  ⟨k.fresh, fun b p hp => by rw [hw]; exact k.low b p hp, fun b o hb => by rw [hw]; exact k.obj b o hb, k.inj⟩

/-- a new block of a call's own -/
theorem Ext.new {B : Nat} {ρ : Ren} {h h' : Heap} {nx : Nat} {w w' : World} (k : HR B ρ h nx w) {oc : Obj} (hw : w'.heap = w.heap.push oc) (hB : B ≤ w.heap.size) (hos : w'.os = w.os) (ht : w'.tape = w.tape) (hou : w'.output = w.output) {S d : Nat} {x : AObj}
    (hx : ObjR (ρ.upd nx ⟨w.heap.size, d, S⟩) x ⟨w.heap.size, d, S⟩ (some oc)) (hh : ∀ y, h' y = if y = nx then some x else h y) : Ext B ρ h nx w (ρ.upd nx ⟨w.heap.size, d, S⟩) h' (nx + 1) w' where
  le := Ren.le_upd (k.fresh nx (Nat.le_refl _))
  old := fun b hb => by unfold Ren.upd; rw [if_neg (by omega)]
  at_ := fun y m c n e => by
    rw [hh] at e
    by_cases hy : y = nx
    · exact .inl (by omega)
    · rw [if_neg hy] at e
      refine .inr ⟨e, fun p hp => ?_⟩
      have := (k.low y p hp).2
      rw [hw, Array.getElem?_push, if_neg (by omega)]
  nx := by omega
  hr := (k.grow (by omega : nx ≤ nx + 1)).new (k.fresh nx (Nat.le_refl _)) (by omega) hw hB hx hh
  own := fun c ⟨y, o, q, hy, hq, hqc⟩ => by
    rw [hh] at hy
    unfold Ren.upd at hq
    by_cases e : y = nx
    · rw [if_pos e] at hq; cases hq; exact .inl (by simp at hqc; omega)
    · rw [if_neg e] at hy hq; exact .inr ⟨y, o, q, hy, hq, hqc⟩
  keep := fun c hc _ => by rw [hw, Array.getElem?_push, if_neg (by omega)]
  same := ⟨hos, ht, hou, by rw [hw]; simp⟩

/-- a block that goes on under a new name, from a place in it on; the old name is dead -/
theorem Ext.rename {B : Nat} {ρ : Ren} {h h' : Heap} {nx : Nat} {w w' : World} (k : HR B ρ h nx w) {b : Nat} {p : Place} (hb : (h b).isSome) (hp : ρ b = some p) (ho : ∀ c, c ≠ p.blk → w'.heap[c]? = w.heap[c]?)
    (hs : Same w w') (hsz : w'.heap.size = w.heap.size) {d : Nat} {x : AObj} (hx : ObjR (ρ.upd nx ⟨p.blk, d, p.size⟩) x ⟨p.blk, d, p.size⟩ w'.heap[p.blk]?) (hh : ∀ y, h' y = if y = nx then some x else if y = b then none else h y) :
    Ext B ρ h nx w (ρ.upd nx ⟨p.blk, d, p.size⟩) h' (nx + 1) w' := by
  have hfr := k.fresh nx (Nat.le_refl _)
  obtain ⟨ob, hob⟩ := Option.isSome_iff_exists.1 hb
  have hbn : b ≠ nx := fun e => by subst e; rw [hfr] at hp; cases hp
  refine ⟨Ren.le_upd hfr, fun c hc => by unfold Ren.upd; rw [if_neg (by omega)], fun y m c n e => ?_, by omega, ⟨fun c hc => ?_, fun c q hq => ?_, fun y o hy => ?_, fun y y' o o' q q' h1 h2 h3 h4 h5 => ?_⟩, fun c ⟨y, o, q, hy, hq, hqc⟩ => ?_, fun c hc hn => ?_, hs⟩
  · rw [hh] at e
    by_cases hy : y = nx
    · exact .inl (by omega)
    · rw [if_neg hy] at e
      by_cases hyb : y = b
      · rw [if_pos hyb] at e; cases e
      · rw [if_neg hyb] at e
        exact .inr ⟨e, fun q hq => ho _ fun e2 => hyb (k.inj y b _ _ q p e hob hq hp e2)⟩
  · unfold Ren.upd; rw [if_neg (by omega)]; exact k.fresh c (by omega)
  · unfold Ren.upd at hq; rw [hsz]
    by_cases e : c = nx
    · rw [if_pos e] at hq; cases hq; exact k.low b p hp
    · rw [if_neg e] at hq; exact k.low c q hq
  · rw [hh] at hy
    by_cases e : y = nx
    · subst e; rw [if_pos rfl] at hy; cases hy; exact ⟨_, Ren.upd_same, hx⟩
    · rw [if_neg e] at hy
      by_cases e2 : y = b
      · rw [if_pos e2] at hy; cases hy
      · rw [if_neg e2] at hy
        obtain ⟨q, hq, hqr⟩ := k.obj y o hy
        have hne : q.blk ≠ p.blk := fun e => e2 (k.inj y b o ob q p hy hob hq hp e)
        exact ⟨q, Ren.le_upd hfr _ _ hq, by rw [ho _ hne]; exact hqr.mono (Ren.le_upd hfr)⟩
  · rw [hh] at h1 h2
    unfold Ren.upd at h3 h4
    by_cases e1 : y = nx <;> by_cases e2 : y' = nx
    · rw [e1, e2]
    · rw [if_pos e1] at h3; rw [if_neg e2] at h2 h4; cases h3
      by_cases e3 : y' = b
      · rw [if_pos e3] at h2; cases h2
      · rw [if_neg e3] at h2; exact absurd (k.inj y' b o' ob q' p h2 hob h4 hp h5.symm) e3
    · rw [if_neg e1] at h1 h3; rw [if_pos e2] at h4; cases h4
      by_cases e3 : y = b
      · rw [if_pos e3] at h1; cases h1
      · rw [if_neg e3] at h1; exact absurd (k.inj y b o ob q p h1 hob h3 hp h5) e3
    · rw [if_neg e1] at h1 h3; rw [if_neg e2] at h2 h4
      by_cases e3 : y = b
      · rw [if_pos e3] at h1; cases h1
      · by_cases e4 : y' = b
        · rw [if_pos e4] at h2; cases h2
        · rw [if_neg e3] at h1; rw [if_neg e4] at h2; exact k.inj _ _ _ _ _ _ h1 h2 h3 h4 h5
  · rw [hh] at hy
    unfold Ren.upd at hq
    by_cases e : y = nx
    · rw [if_pos e] at hq; cases hq; exact .inr ⟨b, ob, p, hob, hp, hqc⟩
    · rw [if_neg e] at hy hq
      by_cases e2 : y = b
      · rw [if_pos e2] at hy; cases hy
      · rw [if_neg e2] at hy; exact .inr ⟨y, o, q, hy, hq, hqc⟩
  · exact ho c (fun e => hn ⟨b, ob, p, hob, hp, e.symm⟩)

/-- the object behind a write -/
theorem ObjR.wrote {ρ : Ren} {et : TypeId} {n : Nat} {cs : T AV} {p : Place} {w w' : World} (k : ObjR ρ (.cells et n cs) p w.heap[p.blk]?) {off : Nat} {l : List AV} {vs : List Value} (hw : Wrote w w' p.blk (p.disp + off) vs)
    (hl : VRs ρ l vs) (h1 : ∀ a ∈ l, a.one = true) (hn : off + l.length ≤ n) : ObjR ρ (.cells et n (mkT l off cs)) p w'.heap[p.blk]? := by
  obtain ⟨arr, lo, hi, e, q1, q2, q3, q4, q5⟩ := k
  obtain ⟨arr', e', s', g'⟩ := hw.at_ arr et (lo, hi) e
  have hlen := hl.length
  refine ⟨arr', lo, hi, e', by rw [s', q1], q2, q3, ⟨fun i hi' => ?_, q4.2⟩, fun i a hi' => ?_⟩
  · rw [mkT_get, if_neg (by omega)]; exact q4.1 i hi'
  · rw [mkT_get] at hi'
    rw [g']
    by_cases hc : off ≤ i ∧ i < off + l.length
    · rw [if_pos hc] at hi'
      rw [if_pos (by omega)]
      obtain ⟨v, hv, hvr⟩ := hl.get hi'
      refine ⟨v, ?_, hvr, h1 _ (List.mem_of_getElem? hi')⟩
      have : p.disp + i - (p.disp + off) = i - off := by omega
      rw [this]; exact hv
    · rw [if_neg hc] at hi'
      rw [if_neg (by omega)]
      exact q5 i a hi'

theorem one_values {ρ : Ren} : ∀ {l : List AV} {vs : List Value}, VRs ρ l vs → (∀ a ∈ l, a.one = true) → ∀ v ∈ vs, Value.one v = true := by
  intro l
  induction l with
  | nil => intro vs h _ v hv; rw [VRs.nil_iff] at h; subst h; cases hv
  | cons a l ih =>
    intro vs h h1 v hv
    obtain ⟨x, xs, rfl, h2, h3⟩ := VRs.cons_iff.1 h
    cases hv with
    | head => exact h2.one (h1 a (by simp))
    | tail _ hm => exact ih h3 (fun b hb => h1 b (by simp [hb])) v hm

/-- a write into a block of one's own -/
theorem write_ok {P : Program} {B : Nat} {ρ : Ren} {h : T AObj} {nx : Nat} {w : World} (k : HR B ρ h.get nx w) {b : Nat} {et : TypeId} {n : Nat} {cs : T AV} (hb : h.get b = some (.cells et n cs)) {p : Place} (hp : ρ b = some p) {off : Nat} {l : List AV} {vs : List Value}
    (hl : VRs ρ l vs) (h1 : ∀ a ∈ l, a.one = true) (hn : off + l.length ≤ n) {a : Addr} (ha : a = ⟨p.blk, p.disp + off, none⟩) :
    ∃ w', (storeCells a vs).run P w = .ok () w' ∧ Ext B ρ h.get nx w ρ (T.set (some (.cells et n (mkT l off cs))) b h).get nx w' ∧ Wrote w w' p.blk (p.disp + off) vs := by
  obtain ⟨p', hp', hobj⟩ := k.obj b _ hb
  rw [hp] at hp'; cases hp'
  have hobj' := hobj
  obtain ⟨arr, lo, hi, e, q1, q2, q3, q4, q5⟩ := hobj
  have hlen := hl.length
  obtain ⟨w', hw', hwr⟩ := run_storeCells (P := P) (c := p.blk) vs (p.disp + off) a 0 w arr et lo hi (by rw [ha, addr_add]; rfl) (by rw [ha]) e (by omega) (by rw [q1]; exact q3) (one_values hl h1)
  refine ⟨w', hw', Ext.put k (by rw [hb]; rfl) hp hwr.other ⟨hwr.os, hwr.tape, hwr.output, by rw [hwr.size]; exact Nat.le_refl _⟩ hwr.size (x := some (.cells et n (mkT l off cs))) (fun o ho => by cases ho; exact hobj'.wrote hwr hl h1 hn) (fun y => ?_), hwr⟩
  rw [T.get_set]
  by_cases e : b = y
  · rw [if_pos e, if_pos e.symm]
  · rw [if_neg e, if_neg (Ne.symm e)]
end Go.Vm

namespace Go.Vm

/-- whoever may; in a round of a loop over a function, or in none -/
abbrev Fr (rd : Option Nat) : Fence := { Fence.wide with round := rd }

theorem Fr.room (rd : Option Nat) (n : Nat) : (Fr rd).room n := fun d h => by cases h

/-- who is called: a function, or the rounds of a loop -/
inductive Cal where
  | fn (f : Nat)
  | yield (b : Nat)

/-- a callee: who, arguments, heap, next name -/
abbrev CF := Cal → List AV → T AObj → Nat → Option (AV × T AObj × Nat)

/-- the slots of a round -/
def roundTmps (r : Loop) (args : Array Value) : Array Value := (r.params.zip args).foldl (fun tmps (t, a) => tmps.setIfInBounds t a) r.tmps

structure CfOk (E : Env) (B : Nat) (cf : CF) : Prop where
  fn : ∀ (f : Nat) (args : List AV) (h : T AObj) (nx : Nat) (av : AV) (h' : T AObj) (nx' : Nat), cf (.fn f) args h nx = some (av, h', nx') →
    ∀ (ρ : Ren) (w : World) (vargs : Array Value), B ≤ w.heap.size → HR B ρ h.get nx w → GR E.glob B w → VRs ρ args vargs.toList →
      Calls E.P f vargs w fun e w' => ∃ v ρ', e = .returned v ∧ Ext B ρ h.get nx w ρ' h'.get nx' w' ∧ VR ρ' av v
  yield : ∀ (b : Nat) (args : List AV) (h : T AObj) (nx : Nat) (av : AV) (h' : T AObj) (nx' : Nat), cf (.yield b) args h nx = some (av, h', nx') →
    ∀ (ρ : Ren) (w : World) (vargs : Array Value) (p : Place), B ≤ w.heap.size → HR B ρ h.get nx w → GR E.glob B w → VRs ρ args vargs.toList → ρ b = some p →
      ∃ r : Loop, w.heap[p.blk]? = some (.loop r) ∧ vargs.size = r.params.size ∧
        RoundIn (Fr none) 0 E.P p.blk r.fn (roundTmps r vargs) r.assign r.body w fun e w' => ∃ v ρ', e = .returned v ∧ Ext B ρ h.get nx w ρ' h'.get nx' w' ∧ VR ρ' av v

abbrev LoudF := CF → T AV → T AObj → Nat → Option (AV × T AObj × Nat)
def LoudOk (E : Env) (o : Oper) (f : LoudF) : Prop :=
  ∀ (rd : Option Nat) (B : Nat) (cf : CF), CfOk E B cf → ∀ (ρ : Ren) (tm : T AV) (a : Act) (w : World) (h : T AObj) (nx : Nat) (av : AV) (h' : T AObj) (nx' : Nat), B ≤ w.heap.size → HR B ρ h.get nx w → GR E.glob B w → TmR ρ tm a.tmps → f cf tm h nx = some (av, h', nx') →
    ∀ (next : Act → World → Prop) (Q : Exit → Act → World → Prop), (∀ v w' ρ', Ext B ρ h.get nx w ρ' h'.get nx' w' → VR ρ' av v → next (a.put o.dst v) w') → o.wpIn (Fr rd) 0 E.P a w next Q

/-- an operation that is carried out as everywhere -/
theorem semAt_of_run {P : Program} {o : Oper} {ρ : Operand → Value} {w w' : World} {x : Next} (rd : Option Nat) (h : (execOp ρ o).run P w = .ok x w') (hx : ∀ d, x ≠ .defer d) : o.semAt rd ρ = execOp ρ o := by
  refine Oper.semAt_eq rd ρ o fun c hc => ?_
  simp only [execOp, hc, Sem.run_bind] at h
  cases hr : (resolve ρ c o.type).run P w with
  | ok d w1 =>
    rw [hr] at h
    simp only [Result.andThen] at h
    first
      | (injection h with h1 _; exact hx d h1.symm)
      | (simp at h; exact hx d h.1.symm)
  | halt s w1 => rw [hr] at h; cases h

/-- by a run that gives a value -/
theorem wp_of_run {rd : Option Nat} {P : Program} {o : Oper} {a : Act} {w w' : World} {v : Value} {next : Act → World → Prop} {Q : Exit → Act → World → Prop} (h : (execOp a.eval o).run P w = .ok (.value v) w') (k : next (a.put o.dst v) w') : o.wpIn (Fr rd) 0 P a w next Q := by
  unfold Oper.wpIn
  refine ⟨fun _ _ => trivial, ?_⟩
  rw [show (Fr rd).round = rd from rfl, semAt_of_run rd h (fun d hd => by cases hd), h]; exact k
theorem wp_of_skip {rd : Option Nat} {P : Program} {o : Oper} {a : Act} {w w' : World} {next : Act → World → Prop} {Q : Exit → Act → World → Prop} (h : (execOp a.eval o).run P w = .ok .skip w') (k : next (a.put o.dst undef) w') : o.wpIn (Fr rd) 0 P a w next Q := by
  unfold Oper.wpIn
  refine ⟨fun _ _ => trivial, ?_⟩
  rw [show (Fr rd).round = rd from rfl, semAt_of_run rd h (fun d hd => by cases hd), h]; exact k
theorem Calls.inFr {rd : Option Nat} {P : Program} {f : FuncId} {args : Array Value} {w : World} {R : Ending → World → Prop} (h : Calls P f args w R) : CallsIn (Fr rd) 0 P f args w R := callsIn_wide.2 h
theorem wp_of_enter {rd : Option Nat} {P : Program} {o : Oper} {a : Act} {w : World} {f : FuncId} {args : Array Value} {next : Act → World → Prop} {Q : Exit → Act → World → Prop} {R : Ending → World → Prop} (h : (execOp a.eval o).run P w = .ok (.enter f args) w)
    (c : Calls P f args w R) (k : ∀ e w', R e w' → ∃ v, e = .returned v ∧ next (a.put o.dst v) w') : o.wpIn (Fr rd) 0 P a w next Q := by
  unfold Oper.wpIn
  refine ⟨fun _ _ => trivial, ?_⟩
  rw [show (Fr rd).round = rd from rfl, semAt_of_run rd h (fun d hd => by cases hd), h]
  refine ⟨fun hd => (by cases hd), Calls.inFr (c.mono fun e w' hr => ?_)⟩
  obtain ⟨v, rfl, hk⟩ := k e w' hr
  exact hk
theorem wp_of_round {rd : Option Nat} {P : Program} {o : Oper} {a : Act} {w : World} {l : Nat} {f : FuncId} {tmps : Array Value} {assign body : Code} {next : Act → World → Prop} {Q : Exit → Act → World → Prop} {R : Ending → World → Prop} (h : (execOp a.eval o).run P w = .ok (.round l f tmps assign body) w)
    (c : RoundIn (Fr none) 0 P l f tmps assign body w R) (k : ∀ e w', R e w' → ∃ v, e = .returned v ∧ next (a.put o.dst v) w') : o.wpIn (Fr rd) 0 P a w next Q := by
  unfold Oper.wpIn
  refine ⟨fun _ _ => trivial, ?_⟩
  rw [show (Fr rd).round = rd from rfl, semAt_of_run rd h (fun d hd => by cases hd), h]
  refine ⟨fun hd => (by cases hd), ?_⟩
  have c' : RoundIn (Fr rd) 0 P l f tmps assign body w R := c
  refine c'.mono fun e w' hr => ?_
  obtain ⟨v, rfl, hk⟩ := k e w' hr
  exact hk

section
variable {E : Env} {o : Oper}

noncomputable def setH {β : Type} (b : Nat) (x : Option AObj) (h : T AObj) (k : T AObj → β) : β := T.setK x (path b) h k
@[simp] theorem setH_eq {β : Type} (b : Nat) (x : Option AObj) (h : T AObj) (k : T AObj → β) : setH b x h k = k (T.set x b h) := T.setK_eq _ _ _ _

/-- write cells into a block -/
noncomputable def wCells (b off : Nat) (l : List AV) (h : T AObj) (k : T AObj → Option (AV × T AObj × Nat)) : Option (AV × T AObj × Nat) :=
  ob (h.get b) fun x => onCells x none fun et n cs => bt (bt (allOne l) (Nat.ble (Nat.add off (lenL l)) n) false) (mkK l off cs fun cs => setH b (some (.cells et n cs)) h k) none
theorem wCells_some {b off : Nat} {l : List AV} {h : T AObj} {k : T AObj → Option (AV × T AObj × Nat)} {r : AV × T AObj × Nat} (e : wCells b off l h k = some r) :
    ∃ et n cs, h.get b = some (.cells et n cs) ∧ (∀ a ∈ l, a.one = true) ∧ off + l.length ≤ n ∧ k (T.set (some (.cells et n (mkT l off cs))) b h) = some r := by
  obtain ⟨x, hx, e⟩ := ob_eq e
  obtain ⟨et, n, cs, rfl, e⟩ := onCells_some e
  obtain ⟨hb, e⟩ := bt_none e
  obtain ⟨b1, b2⟩ := bt3 hb
  rw [mkK_eq, setH_eq] at e
  have b2 : off + lenL l ≤ n := Nat.le_of_ble_eq_true b2
  rw [lenL_eq] at b2
  exact ⟨et, n, cs, hx, allOne_ok b1, b2, e⟩

noncomputable def lStore (E : Env) (t : TypeId) (x y : Operand) : Option LoudF :=
  ob (cX x) fun cx => ob (cX y) fun cy => ob (E.info t) fun i => some fun _ tm h nx => ob (cx.ev tm) fun p => ob (cy.ev tm) fun v => ob (cellsF v) fun l => bt (Nat.beq (lenL l) i.size)
    (p.onPtr none fun b off => wCells b off l h fun h => some (.undef, h, nx)) none
theorem lStore_ok {t : TypeId} {x y : Operand} {f : LoudF} (h : lStore E t x y = some f) (ho : o.op = .store t x y) : LoudOk E o f := by
  obtain ⟨cx, hcx, h⟩ := ob_eq h
  obtain ⟨cy, hcy, h⟩ := ob_eq h
  obtain ⟨i, hi, h⟩ := ob_eq h
  cases h
  intro rd B cf _ ρ tm a w hp nx av h' nx' hB hr hg ht he next Q hk
  obtain ⟨p, hpv, he⟩ := ob_eq he
  obtain ⟨v, hv, he⟩ := ob_eq he
  obtain ⟨l, hl, he⟩ := ob_eq he
  obtain ⟨b1, he⟩ := bt_none he
  obtain ⟨b, off, hveq, he'⟩ := AV.onPtr_some he; clear he; subst hveq; have he := he'; clear he'
  obtain ⟨et, n, cs, hb, h1, hn, he⟩ := wCells_some he
  cases he
  have b1 := Nat.eq_of_beq_eq_true b1
  rw [lenL_eq] at b1
  obtain ⟨rfl, hnt⟩ := cellsF_ok hl
  have e1 := cX_ok hcx ht hpv
  have e2 := (cX_ok hcy ht hv).cells hnt
  simp only [VR] at e1
  obtain ⟨q, hq, e1⟩ := e1
  obtain ⟨w', hw', hext, _⟩ := write_ok (P := E.P) hr hb hq e2 h1 hn (a := ⟨q.blk, q.disp + off, none⟩) rfl
  have hsz : (a.eval y).cells.size = i.size := by rw [← b1, ← e2.length]; simp
  refine wp_of_skip (w' := w') ?_ (hk _ _ _ hext VR.undef)
  simp [execOp, ho, Instr.storeAt, e1, Instr.sureAddr, storeVar, run_size hi, hsz, hw']

/-- what an append or a copy takes from: how many, and their cells -/
noncomputable def srcF (size : Nat) (x : AV) (h : T AObj) (most : Nat) : Option (Nat × List AV) :=
  x.onStr (x.onSlice none (some (0, [])) fun b off len _ esz => forceN (minN len most) fun n => bt (Nat.beq n 0) (some (0, [])) (bt (Nat.beq esz size) (ob (h.get b) fun x => onCells x none fun _ _ cs => ob (loadN cs (Nat.mul n size) off) fun l => some (n, l)) none))
    (fun n m => bt (Nat.beq size 1) (forceN (minN n most) fun k => forceL (takeF k (bytesOf n m)) fun l => some (k, l)) none)

theorem onSlice_cases {β : Type} {v : AV} {n : Option β} {k : Nat → Nat → Nat → Option Nat → Nat → Option β} {r : β} (h : v.onSlice none n k = some r) :
    (v = .nilslice ∧ n = some r) ∨ ∃ a b c d e, v = .slice a b c d e ∧ k a b c d e = some r := AV.onSlice_some h

/-- the length of what is taken from -/
def lenV : Value → Nat
  | .slice _ n _ => n
  | .string s => s.size
  | _ => 0

theorem srcF_ok {P : Program} {B : Nat} {ρ : Ren} {w : World} {h : T AObj} {nx : Nat} (hr : HR B ρ h.get nx w) {size most n : Nat} {x : AV} {l : List AV} (e : srcF size x h most = some (n, l)) {v : Value} (hv : VR ρ x v) :
    (∀ w, (Builtin.lenOf v).run P w = .ok (lenV v) w) ∧ n = min (lenV v) most ∧ ∃ vs : List Value, vs.length = n * size ∧ VRs ρ l vs ∧ ∀ w', w'.heap = w.heap → (Builtin.firstCells size n v).run P w' = .ok vs.toArray w' := by
  rcases onStr_cases e with ⟨a, b, hveq, e'⟩ | e'
  · clear e; subst hveq
    obtain ⟨hsz, e⟩ := bt_none e'; clear e'
    have hsz := Nat.eq_of_beq_eq_true hsz
    rw [forceN_eq, forceL_eq, takeF_eq, minN_eq] at e
    cases e
    simp only [VR] at hv
    obtain ⟨s, rfl, hs1, hs2⟩ := hv
    have hl : s.data.toList.length = a := (size_toList s).trans hs1
    obtain ⟨b1, _⟩ := bytesOf_ok (ρ := ρ) s.data.toList
    rw [hl, hs2] at b1
    subst hsz
    refine ⟨fun w => by simp [Builtin.lenOf, lenV], by rw [lenV, hs1], (s.data.toList.map fun b => Value.int .u8 b.toNat).take (min a most), ?_, b1.take _, fun w' _ => ?_⟩
    · simp [hl]
    · simp only [Builtin.firstCells, Sem.run_pure]
      congr 1
      apply Array.ext'
      simp
  · clear e
    rcases onSlice_cases e' with ⟨hveq, e⟩ | ⟨b, off, len, cap, esz, hveq, e⟩ <;> clear e' <;> subst hveq
    · cases e
      simp only [VR] at hv
      subst hv
      exact ⟨fun w => by simp [Builtin.lenOf, lenV], by simp [lenV], [], by simp, VRs.nil, fun w' _ => by simp [Builtin.firstCells]⟩
    · rw [forceN_eq, minN_eq] at e
      simp only [VR] at hv
      obtain ⟨p, oo, cp, hp, rfl, hle, hcap, hor⟩ := hv
      by_cases hz : Nat.beq (min len most) 0 = true
      · rw [hz, bt_true] at e; cases e
        have hz := Nat.eq_of_beq_eq_true hz
        exact ⟨fun w => by simp [Builtin.lenOf, lenV], by simp [lenV, hz], [], by simp, VRs.nil, fun w' _ => by simp [Builtin.firstCells, loadCells, loadCellsFrom]⟩
      · rw [Bool.not_eq_true] at hz
        rw [hz, bt_false] at e
        have hz := Nat.ne_of_beq_eq_false hz
        obtain ⟨he, e⟩ := bt_none e
        have he := Nat.eq_of_beq_eq_true he
        subst he
        obtain ⟨x, hx, e⟩ := ob_eq e
        obtain ⟨et, m, cs, rfl, e⟩ := onCells_some e
        obtain ⟨l', hl', e⟩ := ob_eq e
        cases e
        obtain ⟨l1, l2⟩ := loadN_ok _ _ _ _ hl'
        obtain ⟨p', hp', hobj⟩ := hr.obj b _ hx
        rw [hp] at hp'; cases hp'
        obtain ⟨arr, lo, hi, e0, q1, q2, q3, q4, q5⟩ := hobj
        obtain ⟨rfl, _⟩ := hor.resolve_left (by omega)
        obtain ⟨vs, v1, v2, v3⟩ := cellsAt_list (ρ := ρ) (w := w) (l := l) (p := ⟨p.blk, p.disp + off, none⟩) rfl (fun j a hj => by
          obtain ⟨u, hu, hur, _⟩ := q5 _ _ (l2 j a hj)
          refine ⟨u, ?_, hur⟩
          rw [addr_add]
          simp only [World.cell?, e0]
          simpa [Nat.add_assoc] using hu)
        refine ⟨fun w => by simp [Builtin.lenOf, lenV], by simp [lenV], vs, by rw [v1, l1]; rfl, v3, fun w' hw' => ?_⟩
        have : vs.length = min len most * esz := by rw [v1, l1]; rfl
        have hc : ∀ (a : Addr), w'.cell? a = w.cell? a := fun a => by simp [World.cell?, hw']
        have hrun := run_loadCells_list (P := P) w' ⟨p.blk, p.disp + off, none⟩ vs (fun j v hj => by rw [hc]; exact v2 j v hj)
        rw [this] at hrun
        simpa [Builtin.firstCells] using hrun

/-- a new block with old and new cells; a block whose going on is open is dead -/
noncomputable def growF (e : TypeId) (size bytes : Nat) (kill : Option Nat) (old new : List AV) (len n : Nat) (h : T AObj) (nx : Nat) : Option (AV × T AObj × Nat) :=
  forceN (Nat.add len n) fun need => bt (bt (Nat.ble (Nat.mul need bytes) (nat_lit 70368744177664)) (Nat.ble need (nat_lit 70368744177664)) false)
    (ob (newCells e (appF old new)) fun o => forceN (Nat.succ nx) fun nx' =>
      Option.rec (motive := fun _ => Option (AV × T AObj × Nat)) (setH nx (some o) h fun h => some (.slice nx 0 need none size, h, nx'))
        (fun b => setH b none h fun h => setH nx (some o) h fun h => some (.slice nx 0 need none size, h, nx')) kill) none

/-- what is appended: the cells of a slice or a string, or zeros -/
noncomputable def srcQ (zs : Bool) (size bytes : Nat) (z : List AV) (x : AV) (h : T AObj) : Option (Nat × List AV) :=
  bt zs (x.onInt none fun _ k => natI k none fun n => bt (bt (Nat.blt 0 n) (bt (Nat.blt 0 size) (Nat.ble (Nat.mul n bytes) (nat_lit 70368744177664)) false) false) (some (n, repL z n)) none) (srcF size x h (nat_lit 1099511627776))

noncomputable def appendF (zs : Bool) (e : TypeId) (size bytes : Nat) (z : List AV) (s x : AV) (h : T AObj) (nx : Nat) : Option (AV × T AObj × Nat) :=
  ob (srcQ zs size bytes z x h) fun r => bt (Nat.blt r.1 (nat_lit 1099511627776)) (bt (Nat.beq r.1 0) (s.onSlice none (some (.nilslice, h, nx)) fun b off len cap esz => some (.slice b off len cap esz, h, nx))
    (s.onSlice none (growF e size bytes none [] r.2 0 r.1 h nx)
      fun b off len cap esz => bt (Nat.beq esz size) (ob (h.get b) fun o => onCells o none fun et _ cs =>
        Option.rec (motive := fun _ => Option (AV × T AObj × Nat))
          (bt (Nat.beq et e) (ob (loadN cs (Nat.mul len size) off) fun old => growF e size bytes (some b) old r.2 len r.1 h nx) none)
          (fun c => bt (Nat.ble (Nat.add len r.1) c) (forceN (Nat.add off (Nat.mul len size)) fun at_ => forceN (Nat.add len r.1) fun need => wCells b at_ r.2 h fun h => some (.slice b off need (some c) size, h, nx))
            (ob (loadN cs (Nat.mul len size) off) fun old => growF e size bytes none old r.2 len r.1 h nx)) cap) none)) none

theorem bigObj {ρ : Ren} {l : List AV} {vs rest : List Value} {arr : Array Value} (et : TypeId) (hex : exactTy et = false) (h : VRs ρ l vs) (h1 : ∀ a ∈ l, a.one = true) (ha : arr.toList = vs ++ rest) (c : Nat) :
    ObjR ρ (.cells et l.length (mkT l 0 .nil)) ⟨c, 0, arr.size⟩ (some (.cells arr et)) := by
  have hlen := h.length
  have hsz : arr.size = vs.length + rest.length := by rw [← Array.length_toList, ha, List.length_append]
  refine ⟨arr, 0, 0, rfl, rfl, by simp; omega, fun i _ => by omega, ⟨fun i hi => ?_, fun hx => (by rw [hex] at hx; cases hx)⟩, fun i a hi => ?_⟩
  · rw [mkT_get, if_neg (by omega)]; rfl
  · rw [mkT_get] at hi
    by_cases hc : 0 ≤ i ∧ i < 0 + l.length
    · rw [if_pos hc] at hi
      simp only [Nat.sub_zero] at hi
      obtain ⟨v, hv, hr⟩ := h.get hi
      refine ⟨v, ?_, hr, h1 a (List.mem_of_getElem? hi)⟩
      rw [← Array.getElem?_toList, ha, Nat.zero_add, List.getElem?_append_left (by omega)]; exact hv
    · rw [if_neg hc] at hi; cases hi

def isIntD : TypeDesc → Bool
  | .int _ => true
  | _ => false
theorem run_append_none {P : Program} {w : World} {st xt ty e : TypeId} {dx : TypeDesc} {size : Nat} {vx : Value}
    (h1 : ∀ w, (underlying st).run P w = .ok (.slice e) w) (h2 : ∀ w, (underlying xt).run P w = .ok dx w) (h3 : isIntD dx = false) (h4 : ∀ w, (sizeOf e).run P w = .ok size w)
    (h5 : ∀ w, (Builtin.lenOf vx).run P w = .ok 0 w) (h7 : (Builtin.firstCells size 0 vx).run P w = .ok #[] w) :
    (Builtin.append_ #[st, xt] ty #[.slice none 0 0, vx]).run P w = .ok (.slice none 0 0) w := by
  simp only [Builtin.append_]
  simp [h1, h2, h4, h5]
  split
  · simp [isIntD] at h3
  · simp [h7]

theorem run_append_room {P : Program} {w w' : World} {st xt ty e : TypeId} {dx : TypeDesc} {size n : Nat} {base : Addr} {sLen sCap : Nat} {vx : Value} {vs : List Value}
    (h1 : ∀ w, (underlying st).run P w = .ok (.slice e) w) (h2 : ∀ w, (underlying xt).run P w = .ok dx w) (h3 : isIntD dx = false) (h4 : ∀ w, (sizeOf e).run P w = .ok size w)
    (h5 : ∀ w, (Builtin.lenOf vx).run P w = .ok n w) (h6 : sLen + n ≤ sCap) (h7 : (Builtin.firstCells size n vx).run P w = .ok vs.toArray w) (h8 : (storeCells (base.add (sLen * size)) vs).run P w = .ok () w') :
    (Builtin.append_ #[st, xt] ty #[.slice (some base) sLen sCap, vx]).run P w = .ok (.slice (some base) (sLen + n) sCap) w' := by
  simp only [Builtin.append_]
  simp [h1, h2, h4, h5, h6]
  split
  · simp [isIntD] at h3
  · simp [h7, h8]

theorem run_append_big {P : Program} {w : World} {st xt ty e : TypeId} {dx : TypeDesc} {i : TypeInfo} {z : Value} {n sLen sCap : Nat} {s vx : Value} {base : Option Addr} {os vs : List Value} (hs : s = .slice base sLen sCap)
    (h1 : ∀ w, (underlying st).run P w = .ok (.slice e) w) (h2 : ∀ w, (underlying xt).run P w = .ok dx w) (h3 : isIntD dx = false) (h4 : ∀ w, (sizeOf e).run P w = .ok i.size w) (h9 : ∀ w, (typeInfo e).run P w = .ok i w) (h10 : ∀ w, (zeroValue e).run P w = .ok z w)
    (h5 : ∀ w, (Builtin.lenOf vx).run P w = .ok n w) (h6 : sCap < sLen + n) (h7 : (Builtin.firstCells i.size n vx).run P w.drew = .ok vs.toArray w.drew) (h8 : (Builtin.firstCells i.size sLen s).run P w.drew = .ok os.toArray w.drew)
    (b1 : (sLen + n) * i.bytes ≤ 70368744177664) (b2 : sLen + n ≤ 70368744177664) :
    (Builtin.append_ #[st, xt] ty #[s, vx]).run P w = .ok (.slice (some ⟨w.heap.size, 0, none⟩) (sLen + n) (grownCap w (sLen + n) sCap e))
      (w.drew.alloc (.cells (os.toArray ++ vs.toArray ++ Builtin.zeroCells z.cells (grownCap w (sLen + n) sCap e - (sLen + n))) e)) := by
  subst hs
  have c1 : ¬ (sLen + n ≤ sCap) := by omega
  have c2 : ¬ (9223372036854775807 < ((sLen : Int) + (n : Int))) := by omega
  have c3 : ¬ (281474976710656 < Builtin.nextslicecap (sLen + n) sCap * i.bytes) := by
    have := growslice_fits (need := sLen + n) (old := sCap) (bytes := i.bytes) h6 (by omega)
    omega
  simp only [Builtin.append_]
  simp [h1, h2, h4, h5, h9, h10, c1, c2, c3, Question.forced, newRow, grownCap]
  split
  · simp [isIntD] at h3
  · simp [h7, h8]
    congr 2
    apply Array.ext'
    simp

/-- what an append does, whatever it appends -/
structure SrcRun (P : Program) (st xt ty e : TypeId) (i : TypeInfo) (z : Value) (w : World) (vx : Value) (n : Nat) (vs : List Value) : Prop where
  none0 : n = 0 → (Builtin.append_ #[st, xt] ty #[.slice none 0 0, vx]).run P w = .ok (.slice none 0 0) w
  room : ∀ (base : Addr) (sLen sCap : Nat) (w' : World), sLen + n ≤ sCap → (storeCells (base.add (sLen * i.size)) vs).run P w = .ok () w' →
    (Builtin.append_ #[st, xt] ty #[.slice (some base) sLen sCap, vx]).run P w = .ok (.slice (some base) (sLen + n) sCap) w'
  big : ∀ (s : Value) (base : Option Addr) (sLen sCap : Nat) (os : List Value), s = .slice base sLen sCap → sCap < sLen + n → (Builtin.firstCells i.size sLen s).run P w.drew = .ok os.toArray w.drew →
    (sLen + n) * i.bytes ≤ 70368744177664 → sLen + n ≤ 70368744177664 →
    (Builtin.append_ #[st, xt] ty #[s, vx]).run P w = .ok (.slice (some ⟨w.heap.size, 0, none⟩) (sLen + n) (grownCap w (sLen + n) sCap e))
      (w.drew.alloc (.cells (os.toArray ++ vs.toArray ++ Builtin.zeroCells z.cells (grownCap w (sLen + n) sCap e - (sLen + n))) e))

theorem SrcRun.of_cells {P : Program} {w : World} {st xt ty e : TypeId} {dx : TypeDesc} {i : TypeInfo} {z : Value} {n : Nat} {vx : Value} {vs : List Value}
    (h1 : ∀ w, (underlying st).run P w = .ok (.slice e) w) (h2 : ∀ w, (underlying xt).run P w = .ok dx w) (h3 : isIntD dx = false) (h4 : ∀ w, (sizeOf e).run P w = .ok i.size w) (h9 : ∀ w, (typeInfo e).run P w = .ok i w) (h10 : ∀ w, (zeroValue e).run P w = .ok z w)
    (h5 : ∀ w, (Builtin.lenOf vx).run P w = .ok n w) (hl : vs.length = n * i.size) (h7 : ∀ w', w'.heap = w.heap → (Builtin.firstCells i.size n vx).run P w' = .ok vs.toArray w') : SrcRun P st xt ty e i z w vx n vs where
  none0 := fun h0 => by
    subst h0
    have : vs = [] := List.eq_nil_of_length_eq_zero (by rw [hl]; simp)
    subst this
    exact run_append_none h1 h2 h3 h4 h5 (h7 w rfl)
  room := fun base sLen sCap w' q1 q2 => run_append_room h1 h2 h3 h4 h5 q1 (h7 w rfl) q2
  big := fun s base sLen sCap os q1 q2 q3 q4 q5 => run_append_big q1 h1 h2 h3 h4 h9 h10 h5 q2 (h7 w.drew rfl) q3 q4 q5

theorem SrcRun.of_zeros {P : Program} {w : World} {st xt ty e : TypeId} {k kx : IntKind} {i : TypeInfo} {z : Value} {n : Nat} {vs : List Value}
    (h1 : ∀ w, (underlying st).run P w = .ok (.slice e) w) (h2 : ∀ w, (underlying xt).run P w = .ok (.int kx) w) (h4 : ∀ w, (sizeOf e).run P w = .ok i.size w) (h9 : ∀ w, (typeInfo e).run P w = .ok i w) (h10 : ∀ w, (zeroValue e).run P w = .ok z w)
    (hn : 0 < n) (hsz : 0 < i.size) (hb : n * i.bytes ≤ 70368744177664) (hm : n < 1099511627776) (hz : vs.toArray = Builtin.zeroCells z.cells n) : SrcRun P st xt ty e i z w (.int k n) n vs := by
  have hw : IntKind.i64.wrap (n : Int) = n := wrap_in .i64 n (by have : (nlim .i64 : Int) = 9223372036854775808 := rfl; omega) (by have : (lim .i64 : Int) = 9223372036854775808 := rfl; omega)
  have c0 : ¬ ((n : Int) < 0) := by omega
  have c1 : ¬ ((281474976710656 : Int) < (n : Int) * (i.bytes : Int)) := by
    have : ((n * i.bytes : Nat) : Int) = (n : Int) * (i.bytes : Int) := by simp
    omega
  have c2 : n * i.size ≠ 0 := by have := Nat.mul_pos hn hsz; omega
  refine ⟨fun h => by omega, fun base sLen sCap w' q1 q2 => ?_, fun s base sLen sCap os q1 q2 q3 q4 q5 => ?_⟩
  · simp only [Builtin.append_]
    have hs : vs = (Builtin.zeroCells z.cells n).toList := by rw [← hz]
    rw [hs] at q2
    simp [h1, h2, h4, h9, h10, asInt, asIntOf, hw, c0, c1, c2, q1, q2]
  · subst q1
    have d1 : ¬ (sLen + n ≤ sCap) := by omega
    have d2 : ¬ (9223372036854775807 < ((sLen : Int) + (n : Int))) := by omega
    have d3 : ¬ (281474976710656 < Builtin.nextslicecap (sLen + n) sCap * i.bytes) := by
      have := growslice_fits (need := sLen + n) (old := sCap) (bytes := i.bytes) q2 (by omega)
      omega
    simp only [Builtin.append_]
    simp [h1, h2, h4, h9, h10, asInt, asIntOf, hw, c0, c1, c2, d1, d2, d3, Question.forced, newRow, grownCap]
    simp [q3]
    congr 2
    apply Array.ext'
    simp [← hz]

noncomputable def onSliceD {β : Type} (d : TypeDesc) (k : TypeId → Option β) : Option β := match d with
  | .slice e => k e
  | _ => none
theorem onSliceD_some {β : Type} {d : TypeDesc} {k : TypeId → Option β} {r : β} (h : onSliceD d k = some r) : ∃ e, d = .slice e ∧ k e = some r := by
  unfold onSliceD at h; split at h
  · exact ⟨_, rfl, h⟩
  · cases h

noncomputable def lAppend (E : Env) (ts : Array TypeId) (args : Array Operand) : Option LoudF :=
  match args.toList, ts.toList with
  | [s, x], [st, xt] => ob (cX s) fun cs => ob (cX x) fun cx => ob (E.under st) fun d => ob (E.under xt) fun dx => onSliceD d fun e =>
      ob (E.info e) fun i => ob (zeroL i) fun z => bt (bt (exactTy e) false (Nat.beq (lenL z) i.size))
        (some fun _ tm h nx => ob (cs.ev tm) fun s => ob (cx.ev tm) fun x => appendF (isIntD dx) e i.size i.bytes z s x h nx) none
  | _, _ => none

theorem two_args {α : Type} {args : Array α} {x y : α} (h : args.toList = [x, y]) : args = #[x, y] := by
  cases args with | mk l => simp at h; subst h; rfl

theorem HR.low0 {B : Nat} {ρ : Ren} {h : Heap} {nx : Nat} {w : World} (k : HR B ρ h nx w) {b : Nat} {p : Place} (hp : ρ b = some p) : p.blk < w.heap.size := (k.low b p hp).2

/-- the new block of an append -/
theorem grow_ok {B : Nat} {ρ : Ren} {h : T AObj} {nx : Nat} {w : World} (hB : B ≤ w.heap.size) (hr : HR B ρ h.get nx w) {e : TypeId} (hex : exactTy e = false) {old new : List AV} {os vs rest : List Value} {cap size need : Nat} {arr : Array Value} (hos : VRs ρ old os) (hvs : VRs ρ new vs)
    (h1 : ∀ a ∈ old ++ new, a.one = true) (harr : arr.toList = os ++ vs ++ rest) (hcap : need ≤ cap) (hroom : cap * size ≤ arr.size) {h' : T AObj} (hh : ∀ y, h'.get y = if y = nx then some (.cells e (old ++ new).length (mkT (old ++ new) 0 .nil)) else h.get y) :
    ∃ ρ', Ext B ρ h.get nx w ρ' h'.get (nx + 1) (w.drew.alloc (.cells arr e)) ∧ VR ρ' (.slice nx 0 need none size) (.slice (some ⟨w.heap.size, 0, none⟩) need cap) := by
  have hfr := hr.fresh nx (Nat.le_refl _)
  have hle : Ren.le ρ (ρ.upd nx ⟨w.heap.size, 0, arr.size⟩) := Ren.le_upd hfr
  refine ⟨ρ.upd nx ⟨w.heap.size, 0, arr.size⟩, Ext.new (w' := w.drew.alloc (.cells arr e)) hr (oc := .cells arr e) rfl hB rfl rfl rfl (x := .cells e (old ++ new).length (mkT (old ++ new) 0 .nil)) ?_ hh, ?_⟩
  · exact bigObj e hex ((hos.mono hle).append (hvs.mono hle)) h1 harr _
  · exact ⟨_, 0, cap, Ren.upd_same, rfl, hcap, (fun k hk => by cases hk), .inr ⟨rfl, by simpa using hroom⟩⟩

theorem growF_some {e : TypeId} {size bytes : Nat} {kill : Option Nat} {old new : List AV} {len n : Nat} {h : T AObj} {nx : Nat} {r : AV × T AObj × Nat} (q : growF e size bytes kill old new len n h nx = some r) :
    (len + n) * bytes ≤ 70368744177664 ∧ len + n ≤ 70368744177664 ∧ (∀ a ∈ old ++ new, a.one = true) ∧ r.1 = .slice nx 0 (len + n) none size ∧ r.2.2 = nx + 1 ∧
      r.2.1 = T.set (some (.cells e (old ++ new).length (mkT (old ++ new) 0 .nil))) nx (match kill with | none => h | some b => T.set none b h) := by
  unfold growF at q
  rw [forceN_eq] at q
  obtain ⟨hb, q⟩ := bt_none q
  obtain ⟨b1, b2⟩ := bt3 hb
  obtain ⟨o, ho, q⟩ := ob_eq q
  rw [forceN_eq] at q
  rw [newCells_eq, appF_eq] at ho
  obtain ⟨h1, ho⟩ := bt_none ho
  cases ho
  refine ⟨Nat.le_of_ble_eq_true b1, Nat.le_of_ble_eq_true b2, allOne_ok h1, ?_⟩
  cases kill with
  | none => simp only [setH_eq, Option.some.injEq] at q; subst q; exact ⟨rfl, rfl, rfl⟩
  | some b => simp only [setH_eq, Option.some.injEq] at q; subst q; exact ⟨rfl, rfl, rfl⟩

theorem zeroCells_size (z : Array Value) (n : Nat) : (Builtin.zeroCells z n).size = n * z.size := by simp [Builtin.zeroCells]

theorem bt_and' {a b : Bool} (h : bt a b false = true) : a = true ∧ b = true := by cases a <;> simp_all

theorem lAppend_ok {c : Call} {f : LoudF} (h : lAppend E c.argTypes c.args = some f) (hb : c.callee = .builtin .append) (ho : o.op = .call c) : LoudOk E o f := by
  unfold lAppend at h
  split at h
  · rename_i s x st xt hxs hts
    have hxs := two_args hxs
    have hts := two_args hts
    obtain ⟨cs, hcs, h⟩ := ob_eq h
    obtain ⟨cx, hcx, h⟩ := ob_eq h
    obtain ⟨d, hd, h⟩ := ob_eq h
    obtain ⟨dx, hdx, h⟩ := ob_eq h
    obtain ⟨e, hde, h⟩ := onSliceD_some h
    subst hde
    · obtain ⟨i, hi, h⟩ := ob_eq h
      obtain ⟨z, hz, h⟩ := ob_eq h
      obtain ⟨b1, h⟩ := bt_none h
      have hex : exactTy e = false := by
        cases hx : exactTy e with
        | false => rfl
        | true => rw [hx] at b1; cases b1
      rw [hex, bt_false] at b1
      have b1 := Nat.eq_of_beq_eq_true b1
      rw [lenL_eq] at b1
      cases h
      have u1 := run_under hd
      have u2 := run_under hdx
      have u4 := run_size hi
      have u9 := run_info hi
      intro rd B cf _ ρ tm a w H nx av h' nx' hB hr hg ht he next Q hk
      obtain ⟨sv, hsv, he⟩ := ob_eq he
      obtain ⟨xv, hxv, he⟩ := ob_eq he
      have e1 := cX_ok hcs ht hsv
      have e2 := cX_ok hcx ht hxv
      obtain ⟨zv, hzv, hzr⟩ := zeroL_ok (ρ := ρ) hz
      have u10 := run_zero hi hzv
      have hzs : zv.cells.size = i.size := by rw [← b1, ← hzr.length]; simp
      obtain ⟨⟨n, l⟩, hsrc, he⟩ := ob_eq he
      obtain ⟨hmost, he⟩ := bt_none he
      have hmost := blt_lt hmost
      have hso : ∃ vs : List Value, vs.length = n * i.size ∧ VRs ρ l vs ∧ SrcRun E.P st xt o.type e i zv w (a.eval x) n vs := by
        cases hni : isIntD dx with
        | false =>
          rw [hni] at hsrc
          obtain ⟨hlen, hn, vs, v1, v2, v3⟩ := srcF_ok (P := E.P) hr hsrc e2
          have hn' : lenV (a.eval x) = n := by
            have hm : n < 1099511627776 := hmost
            have : n = min (lenV (a.eval x)) 1099511627776 := hn
            omega
          rw [hn'] at hlen
          exact ⟨vs, v1, v2, SrcRun.of_cells u1 u2 hni u4 u9 u10 hlen v1 v3⟩
        | true =>
          rw [hni] at hsrc
          have hsrc : (xv.onInt none fun _ k => natI k none fun n => bt (bt (Nat.blt 0 n) (bt (Nat.blt 0 i.size) (Nat.ble (Nat.mul n i.bytes) (nat_lit 70368744177664)) false) false) (some (n, repL z n)) none) = some (n, l) := hsrc
          obtain ⟨k, m, rfl, hsrc⟩ := AV.onInt_some hsrc
          obtain ⟨n', rfl, hsrc⟩ := natI_some hsrc
          obtain ⟨hc, hsrc⟩ := bt_none hsrc
          obtain ⟨c1, c2⟩ := bt_and' hc
          obtain ⟨c2, c3⟩ := bt_and' c2
          injection hsrc with hsrc
          injection hsrc with hs1 hs2
          subst hs1 hs2
          have hdx : ∃ kx, dx = .int kx := by cases dx <;> first | exact ⟨_, rfl⟩ | cases hni
          obtain ⟨kx, rfl⟩ := hdx
          have hzl := hzr.length
          simp only [Array.length_toList] at hzl
          have hrep := repR hzr n'
          refine ⟨(Builtin.zeroCells zv.cells n').toList, by rw [Array.length_toList, zeroCells_size, hzs], ?_, ?_⟩
          · rw [← hzl] at hrep; exact hrep
          · simp only [VR] at e2
            rw [e2]
            exact SrcRun.of_zeros u1 u2 u4 u9 u10 (blt_lt c1) (blt_lt c2) (Nat.le_of_ble_eq_true c3) hmost (by simp)
      obtain ⟨vs, v1, v2, so⟩ := hso
      -- the operation, given the built-in's run
      have fin : ∀ (v : Value) (w' : World) (ρ' : Ren), (Builtin.append_ #[st, xt] o.type #[a.eval s, a.eval x]).run E.P w = .ok v w' → Ext B ρ H.get nx w ρ' h'.get nx' w' → VR ρ' av v → o.wpIn (Fr rd) 0 E.P a w next Q := by
        intro v w' ρ' hrun hext hv
        refine wp_of_run (w' := w') (v := v) ?_ (hk v w' ρ' hext hv)
        simp [execOp, ho, resolve, hb, hxs, hts, invoke, builtin, hrun]
      by_cases hz0 : Nat.beq n 0 = true
      · rw [hz0, bt_true] at he
        have hn0 := Nat.eq_of_beq_eq_true hz0
        have hvs : vs = [] := by apply List.eq_nil_of_length_eq_zero; rw [v1, hn0]; simp
        rcases AV.onSlice_some he with ⟨hveq, he'⟩ | ⟨b, off, len, cap, esz, hveq, he'⟩ <;> clear he <;> subst hveq <;> cases he'
        · refine fin (.slice none 0 0) w ρ ?_ (Ext.refl hr) rfl
          simp only [VR] at e1
          rw [e1]
          exact so.none0 hn0
        · refine fin (a.eval s) w ρ ?_ (Ext.refl hr) e1
          simp only [VR] at e1
          obtain ⟨p, oo, cp, hp, e1, hle, hcap, hor⟩ := e1
          rw [e1]
          have := so.room ⟨p.blk, oo, none⟩ len cp w (by rw [hn0]; exact hle) (by rw [hvs]; rfl)
          rw [hn0] at this; exact this
      · rw [Bool.not_eq_true] at hz0
        rw [hz0, bt_false] at he
        have hn0 := Nat.ne_of_beq_eq_false hz0
        -- a new array
        have big : ∀ (base : Option Addr) (sLen sCap : Nat) (old : List AV) (os : List Value) (h2 : T AObj), a.eval s = .slice base sLen sCap → sCap < sLen + n → (sLen + n) * i.bytes ≤ 70368744177664 → sLen + n ≤ 70368744177664 → VRs ρ old os → os.length = sLen * i.size →
            (∀ w', w'.heap = w.heap → (Builtin.firstCells i.size sLen (a.eval s)).run E.P w' = .ok os.toArray w') → (∀ q ∈ old ++ l, q.one = true) → HR B ρ h2.get nx w → Ext B ρ H.get nx w ρ h2.get nx w →
            av = .slice nx 0 (sLen + n) none i.size → nx' = nx + 1 → h' = T.set (some (.cells e (old ++ l).length (mkT (old ++ l) 0 .nil))) nx h2 → o.wpIn (Fr rd) 0 E.P a w next Q := by
          intro base sLen sCap old os h2 q1 q2 q3 q4 q5 q6 q7 q8 q9 q10 q11 q12 q13
          have hrun := so.big (a.eval s) base sLen sCap os q1 q2 (q7 w.drew rfl) q3 q4
          subst q11 q12 q13
          have hcap := grownCap_ge w (sLen + n) sCap e
          obtain ⟨ρ', hext, hvr⟩ := grow_ok hB q9 hex (e := e) (cap := grownCap w (sLen + n) sCap e) (size := i.size) (need := sLen + n) (arr := os.toArray ++ vs.toArray ++ Builtin.zeroCells zv.cells (grownCap w (sLen + n) sCap e - (sLen + n))) q5 v2 q8 (by simp; rfl) hcap (by
            simp only [Array.size_append, List.size_toArray, zeroCells_size, hzs, q6, v1]
            rw [← Nat.add_mul, ← Nat.add_mul]
            exact Nat.mul_le_mul_right _ (by omega)) (fun y => by rw [T.get_set]; by_cases e : nx = y; (· rw [if_pos e, if_pos e.symm]); (· rw [if_neg e, if_neg (Ne.symm e)]))
          exact fin _ _ ρ' hrun (q10.trans hext) hvr
        rcases AV.onSlice_some he with ⟨hveq, he'⟩ | ⟨b, off, len, cap, esz, hveq, he'⟩ <;> clear he <;> subst hveq
        · obtain ⟨g1, g2, g3, g4, g5, g6⟩ := growF_some he'
          simp only [VR] at e1
          exact big none 0 0 [] [] H e1 (by omega) g1 g2 VRs.nil (by simp) (fun w' _ => by rw [e1]; simp [Builtin.firstCells]) g3 hr (Ext.refl hr) g4 g5 g6
        · obtain ⟨hes, hA1⟩ := bt_none he'
          clear he'
          have hes := Nat.eq_of_beq_eq_true hes
          subst hes
          obtain ⟨ob', hob, hA2⟩ := ob_eq hA1
          obtain ⟨et, m, cells, hveq, he'⟩ := onCells_some hA2
          clear hA1 hA2
          subst hveq
          simp only [VR] at e1
          obtain ⟨p, oo, cp, hp, e1, hle, hcap, hor⟩ := e1
          obtain ⟨p', hp', hobj⟩ := hr.obj b _ hob
          rw [hp] at hp'; cases hp'
          have hobj' := hobj
          obtain ⟨arr, lo, hi', a0, a1, a2, a3, a4, a5⟩ := hobj
          -- the old cells
          have oldc : ∀ old, loadN cells (Nat.mul len i.size) off = some old → (len = 0 ∨ oo = p.disp + off) → old.length = len * i.size ∧ ∃ os : List Value, os.length = len * i.size ∧ VRs ρ old os ∧ (∀ w', w'.heap = w.heap → (Builtin.firstCells i.size len (a.eval s)).run E.P w' = .ok os.toArray w') ∧ (∀ (j : Nat) (v : Value), os[j]? = some v → arr[p.disp + off + j]? = some v) ∧ ∀ q ∈ old, q.one = true := by
            intro old hl hoo
            obtain ⟨l1, l2⟩ := loadN_ok _ _ _ _ hl
            obtain ⟨os, o1, o2, o3⟩ := cellsAt_list (ρ := ρ) (w := w) (l := old) (p := ⟨p.blk, p.disp + off, none⟩) rfl (fun j q hj => by
              obtain ⟨u, hu, hur, _⟩ := a5 _ _ (l2 j q hj)
              refine ⟨u, ?_, hur⟩
              rw [addr_add]
              simp only [World.cell?, a0]
              simpa [Nat.add_assoc] using hu)
            refine ⟨l1, os, by rw [o1, l1]; rfl, o3, fun w' hw' => ?_, fun j v hj => ?_, fun q hq => ?_⟩
            · have hol : os.length = len * i.size := by rw [o1, l1]; rfl
              rw [e1]
              rcases hoo with h0 | h0
              · subst h0
                have : os = [] := List.eq_nil_of_length_eq_zero (by rw [hol]; simp)
                subst this
                simp [Builtin.firstCells, loadCells, loadCellsFrom]
              · subst h0
                have hc : ∀ (a : Addr), w'.cell? a = w.cell? a := fun a => by simp [World.cell?, hw']
                have hrun := run_loadCells_list (P := E.P) w' ⟨p.blk, p.disp + off, none⟩ os (fun j v hj => by rw [hc]; exact o2 j v hj)
                rw [hol] at hrun
                simpa [Builtin.firstCells] using hrun
            · have := o2 j v hj
              rw [addr_add] at this
              simpa [World.cell?, a0] using this
            · obtain ⟨j, hj⟩ := List.getElem?_of_mem hq
              obtain ⟨_, _, _, h1⟩ := a5 _ _ (l2 j q hj)
              exact h1
          cases cap with
          | some c =>
            have hcc : cp = c := hcap c rfl
            subst hcc
            dsimp only at he'
            cases hroom : Nat.ble (Nat.add len n) cp
            · rw [hroom, bt_false] at he'
              obtain ⟨old, hold, he⟩ := ob_eq he'
              obtain ⟨g1, g2, g3, g4, g5, g6⟩ := growF_some he
              have hlt : cp < len + n := by
                apply Nat.lt_of_not_le; intro hle'
                have hA : Nat.ble (len + n) cp = false := hroom
                rw [Nat.ble_eq_true_of_le hle'] at hA; cases hA
              have hoo : len = 0 ∨ oo = p.disp + off := by
                rcases hor with h0 | ⟨h0, _⟩
                · exact .inl (by omega)
                · exact .inr h0
              obtain ⟨_, os, o1, o2, o3, _, _⟩ := oldc old hold hoo
              exact big (some ⟨p.blk, oo, none⟩) len cp old os H e1 hlt g1 g2 o2 o1 o3 g3 hr (Ext.refl hr) g4 g5 g6
            · rw [hroom, bt_true, forceN_eq, forceN_eq] at he'
              have hroom : len + n ≤ cp := Nat.le_of_ble_eq_true hroom
              obtain ⟨et', n', cs', hb', h1', hn', he⟩ := wCells_some he'
              rw [hob] at hb'; cases hb'
              cases he
              obtain ⟨rfl, hbd⟩ := hor.resolve_left (by omega)
              obtain ⟨w', hw', hext, _⟩ := write_ok (P := E.P) hr hob hp v2 h1' hn' (a := Addr.add ⟨p.blk, p.disp + off, none⟩ (len * i.size)) (by rw [addr_add]; simp [Nat.add_assoc])
              refine fin (.slice (some ⟨p.blk, p.disp + off, none⟩) (len + n) cp) w' ρ ?_ hext ⟨p, _, cp, hp, rfl, hroom, (fun k hk => by cases hk; rfl), .inr ⟨rfl, hbd⟩⟩
              rw [e1]
              exact so.room _ _ _ _ hroom hw'
          | none =>
            dsimp only at he'
            obtain ⟨het, he⟩ := bt_none he'
            have het := Nat.eq_of_beq_eq_true het
            subst het
            obtain ⟨old, hold, he⟩ := ob_eq he
            obtain ⟨g1, g2, g3, g4, g5, g6⟩ := growF_some he
            dsimp only at g6
            have hoo : len = 0 ∨ oo = p.disp + off := by
              rcases hor with h0 | ⟨h0, _⟩
              · exact .inl (by omega)
              · exact .inr h0
            obtain ⟨hol, os, o1, o2, o3, o4, o5⟩ := oldc old hold hoo
            by_cases hroom : len + n ≤ cp
            · obtain ⟨rfl, hbd⟩ := hor.resolve_left (by omega)
              have hnl := v2.length
              have hfit : (len + n) * i.size ≤ cp * i.size := Nat.mul_le_mul_right _ hroom
              rw [Nat.add_mul] at hfit
              have hones : ∀ v ∈ vs, Value.one v = true := one_values v2 (fun q hq => g3 q (by simp [hq]))
              obtain ⟨w', hw', hwr⟩ := run_storeCells (P := E.P) (c := p.blk) vs (p.disp + off + len * i.size) (Addr.add ⟨p.blk, p.disp + off, none⟩ (len * i.size)) 0 w arr et lo hi' (by rw [addr_add, addr_add]; rfl) (by rw [addr_add]) a0 (by rw [v1, a1]; omega) (by rw [a1]; exact a3) hones
              have hrun := so.room ⟨p.blk, p.disp + off, none⟩ len cp w' hroom hw'
              subst g4 g5 g6
              obtain ⟨arr', r1, r2, r3⟩ := hwr.at_ arr et (lo, hi') a0
              have hfr := hr.fresh nx (Nat.le_refl _)
              have hle2 : Ren.le ρ (ρ.upd nx ⟨p.blk, p.disp + off, p.size⟩) := Ren.le_upd hfr
              have hbn : b ≠ nx := fun e => by subst e; rw [hfr] at hp; cases hp
              refine fin (.slice (some ⟨p.blk, p.disp + off, none⟩) (len + n) cp) w' (ρ.upd nx ⟨p.blk, p.disp + off, p.size⟩) (by rw [e1]; exact hrun)
                (Ext.rename hr (by rw [hob]; rfl) hp hwr.other ⟨hwr.os, hwr.tape, hwr.output, by rw [hwr.size]; exact Nat.le_refl _⟩ hwr.size (x := .cells et (old ++ l).length (mkT (old ++ l) 0 .nil)) ?_ (fun y => ?_))
                ⟨_, p.disp + off, cp, Ren.upd_same, rfl, hroom, (fun k hk => by cases hk), .inr ⟨rfl, by simpa using hbd⟩⟩
              · have hll : (old ++ l).length = len * i.size + n * i.size := by rw [List.length_append, hol, ← hnl, v1]
                refine ⟨arr', lo, hi', r1, by rw [r2, a1], by rw [hll]; simp only; omega, a3, ⟨fun j hj => ?_, fun hx => (by rw [hex] at hx; cases hx)⟩, fun j q hj => ?_⟩
                · rw [mkT_get, if_neg (by omega)]; rfl
                · rw [mkT_get] at hj
                  by_cases hc : 0 ≤ j ∧ j < 0 + (old ++ l).length
                  · rw [if_pos hc] at hj
                    simp only [Nat.sub_zero] at hj
                    rw [hll] at hc
                    simp only
                    rw [r3]
                    by_cases hjo : j < len * i.size
                    · rw [List.getElem?_append_left (by omega)] at hj
                      obtain ⟨v, hv, hvr⟩ := o2.get hj
                      rw [if_neg (by omega)]
                      exact ⟨v, o4 j v hv, hvr.mono hle2, o5 q (List.mem_of_getElem? hj)⟩
                    · rw [List.getElem?_append_right (by omega)] at hj
                      obtain ⟨v, hv, hvr⟩ := v2.get hj
                      rw [if_pos (by omega)]
                      refine ⟨v, ?_, hvr.mono hle2, g3 q (by simp [List.mem_of_getElem? hj])⟩
                      rw [← hv]; congr 1; omega
                  · rw [if_neg hc] at hj; cases hj
              · rw [T.get_set, T.get_set]
                by_cases e : nx = y
                · rw [if_pos e, if_pos e.symm]
                · rw [if_neg e, if_neg (Ne.symm e)]
                  by_cases e2 : b = y
                  · rw [if_pos e2, if_pos e2.symm]
                  · rw [if_neg e2, if_neg (Ne.symm e2)]
            · have hkill : Ext B ρ H.get nx w ρ (T.set none b H).get nx w := Ext.put hr (by rw [hob]; rfl) hp (fun _ _ => rfl) (Same.refl w) rfl (x := none) (fun o ho => by cases ho) (fun y => by
                rw [T.get_set]
                by_cases e : b = y
                · rw [if_pos e, if_pos e.symm]
                · rw [if_neg e, if_neg (Ne.symm e)])
              exact big (some ⟨p.blk, oo, none⟩) len cp old os (T.set none b H) e1 (by omega) g1 g2 o2 o1 o3 g3 hkill.hr hkill g4 g5 g6
  · cases h
end
end Go.Vm

namespace Go.Vm
section
variable {E : Env} {o : Oper}

noncomputable def lCopy (E : Env) (ts : Array TypeId) (args : Array Operand) : Option LoudF :=
  match args.toList, ts.toList with
  | [d, x], t :: _ => ob (cX d) fun cd => ob (cX x) fun cx => ob (E.under t) fun td => onSliceD td fun e => ob (E.info e) fun i =>
      some fun _ tm h nx => ob (cd.ev tm) fun dv => ob (cx.ev tm) fun xv => dv.onSlice none none fun b off len _ esz => bt (Nat.beq esz i.size) (ob (srcF i.size xv h len) fun r =>
        bt (Nat.beq r.1 0) (some (.int .i64 (.ofNat 0), h, nx)) (wCells b off r.2 h fun h => some (.int .i64 (.ofNat r.1), h, nx))) none
  | _, _ => none

theorem lCopy_ok {c : Call} {f : LoudF} (h : lCopy E c.argTypes c.args = some f) (hb : c.callee = .builtin .copy) (ho : o.op = .call c) : LoudOk E o f := by
  unfold lCopy at h
  split at h
  · rename_i d x t ts hxs hts
    have hxs := two_args hxs
    obtain ⟨cd, hcd, h⟩ := ob_eq h
    obtain ⟨cx, hcx, h⟩ := ob_eq h
    obtain ⟨td, htd, h⟩ := ob_eq h
    obtain ⟨e, hde, h⟩ := onSliceD_some h
    subst hde
    obtain ⟨i, hi, h⟩ := ob_eq h
    cases h
    have u1 := run_under htd
    have u4 := run_size hi
    have hty : c.argTypes[0]? = some t := by rw [← Array.getElem?_toList, hts]; rfl
    intro rd B cf _ ρ tm a w H nx av h' nx' hB hr hg ht he next Q hk
    obtain ⟨dv, hdv, he⟩ := ob_eq he
    obtain ⟨xv, hxv, he⟩ := ob_eq he
    have e1 := cX_ok hcd ht hdv
    have e2 := cX_ok hcx ht hxv
    rcases AV.onSlice_some he with ⟨hveq, he'⟩ | ⟨b, off, len, cap, esz, hveq, he'⟩
    · cases he'
    · clear he
      subst hveq
      obtain ⟨hes, hA⟩ := bt_none he'
      clear he'
      have hes := Nat.eq_of_beq_eq_true hes
      subst hes
      obtain ⟨⟨n, l⟩, hsrc, hA2⟩ := ob_eq hA
      clear hA
      obtain ⟨hlen, hn, vs, v1, v2, v3⟩ := srcF_ok (P := E.P) hr hsrc e2
      simp only [VR] at e1
      obtain ⟨p, oo, cp, hp, e1, hle, hcap, hor⟩ := e1
      have fin : ∀ (w' : World), (storeCells ⟨p.blk, oo, none⟩ vs).run E.P w = .ok () w' → (execOp a.eval o).run E.P w = .ok (.value (goInt n)) w' := by
        intro w' hst
        have hmin : Nat.min (lenV (a.eval x)) len = n := hn.symm
        simp [execOp, ho, resolve, hb, hxs, hty, invoke, builtin, Builtin.copy_, u1, u4, e1, hlen, hmin, v3 w rfl, hst]
      by_cases hz : Nat.beq n 0 = true
      · rw [hz, bt_true] at hA2; cases hA2
        have hz := Nat.eq_of_beq_eq_true hz
        have hvs : vs = [] := List.eq_nil_of_length_eq_zero (by rw [v1, hz]; simp)
        subst hz
        exact wp_of_run (fin w (by rw [hvs]; rfl)) (hk _ w ρ (Ext.refl hr) rfl)
      · rw [Bool.not_eq_true] at hz
        rw [hz, bt_false] at hA2
        have hz := Nat.ne_of_beq_eq_false hz
        obtain ⟨et, m, cs, hb', h1, hn', hA3⟩ := wCells_some hA2
        cases hA3
        obtain ⟨rfl, _⟩ := hor.resolve_left (by have : n = min (lenV (a.eval x)) len := hn; omega)
        obtain ⟨w', hw', hext, _⟩ := write_ok (P := E.P) hr hb' hp v2 h1 hn' (a := ⟨p.blk, p.disp + off, none⟩) rfl
        exact wp_of_run (fin w' hw') (hk _ w' ρ hext rfl)
  · cases h

/-- entries with another one at a place -/
noncomputable def setNth (es : List (AV × AV)) (v : AV × AV) : Nat → List (AV × AV) :=
  List.rec (motive := fun _ => Nat → List (AV × AV)) (fun _ => []) (fun e r ih i => Nat.rec (motive := fun _ => List (AV × AV)) (v :: r) (fun j _ => e :: ih j) i) es
theorem setNth_eq (v : AV × AV) : ∀ (es : List (AV × AV)) (i : Nat), setNth es v i = es.modify i fun _ => v := by
  intro es
  induction es with
  | nil => intro i; cases i <;> rfl
  | cons e es ih =>
    intro i
    cases i with
    | zero => rfl
    | succ i =>
      show e :: setNth es v i = _
      rw [ih, List.modify_succ_cons]

noncomputable def forceE {β : Type} (l : List (AV × AV)) : (List (AV × AV) → β) → β :=
  List.rec (motive := fun _ => (List (AV × AV) → β) → β) (fun k => k []) (fun a _ ih k => ih fun l => k (a :: l)) l
@[simp] theorem forceE_eq {β : Type} (l : List (AV × AV)) : ∀ (k : List (AV × AV) → β), forceE l k = k l := by
  induction l with
  | nil => intro k; rfl
  | cons a l ih => intro k; exact ih _

noncomputable def lMapSet (E : Env) (t : TypeId) (m k x : Operand) : Option LoudF :=
  ob (cX m) fun cm => ob (cX k) fun ck => ob (cX x) fun cx => ob (E.under t) fun d => match d with
    | .map kt _ => ob (E.under kt) fun kd => ob (keyEq kd) fun eq => some fun _ tm h nx => ob (cm.ev tm) fun mv => ob (ck.ev tm) fun kv => ob (cx.ev tm) fun xv =>
        mv.onMap none none fun b => ob (h.get b) fun o => onMapO o none fun es => ob (findA eq kv es) fun r =>
          Option.rec (motive := fun _ => Option (AV × T AObj × Nat)) (forceE (List.rec (motive := fun _ => List (AV × AV)) [(kv, xv)] (fun e _ ih => e :: ih) es) fun es => setH b (some (.map es)) h fun h => some (.undef, h, nx))
            (fun p => forceE (setNth es (kv, xv) p.1) fun es => setH b (some (.map es)) h fun h => some (.undef, h, nx)) r
    | _ => none

theorem snoc_eq (es : List (AV × AV)) (e : AV × AV) : List.rec (motive := fun _ => List (AV × AV)) [e] (fun e _ ih => e :: ih) es = es ++ [e] := by
  induction es with | nil => rfl | cons a es ih => exact congrArg (a :: ·) ih

theorem sameNow_bits {d : TypeDesc} {a b : Value} (h : Instr.sameNow d a b = some true) : Instr.sameBits 10000 a b = true := by
  cases d <;> simp only [Instr.sameNow] at h <;> (try (cases h; done))
  all_goals split at h <;> simp_all [Instr.sameBits]

theorem findNow_same {d : TypeDesc} {k : Value} : ∀ (es : List MapEntry) (i j : Nat) (v : Value), Instr.findNow d k es i = some (some (j, v)) → i ≤ j ∧ ∃ m, es[j - i]? = some m ∧ Instr.sameNow d k m.key = some true ∧ m.val = v := by
  intro es
  induction es with
  | nil => intro i j v h; simp [Instr.findNow] at h
  | cons m es ih =>
    intro i j v h
    simp only [Instr.findNow] at h
    split at h
    · rename_i hs
      simp only [Option.some.injEq, Prod.mk.injEq] at h
      obtain ⟨rfl, rfl⟩ := h
      exact ⟨Nat.le_refl _, m, by simp, hs, rfl⟩
    · obtain ⟨h1, m', h2, h3, h4⟩ := ih (i + 1) j v h
      refine ⟨by omega, m', ?_, h3, h4⟩
      have : j - i = (j - (i + 1)) + 1 := by omega
      rw [this]; simpa using h2
    · cases h

theorem sameBits_comm (n : Nat) : ∀ (d : TypeDesc) (a b : Value), Instr.sameNow d a b = some true → Instr.sameBits n b a = true := by
  intro d a b h
  cases d <;> simp only [Instr.sameNow] at h <;> (try (cases h; done))
  all_goals (split at h <;> (try simp_all [Instr.sameBits]))
  rw [beq_toListBytes] at h ⊢
  simp at h ⊢
  exact h.symm

theorem lMapSet_ok {t : TypeId} {m k x : Operand} {f : LoudF} (h : lMapSet E t m k x = some f) (ho : o.op = .mapUpdate t m k x ∨ o.op = .insert t m k x) : LoudOk E o f := by
  obtain ⟨cm, hcm, h⟩ := ob_eq h
  obtain ⟨ck, hck, h⟩ := ob_eq h
  obtain ⟨cx, hcx, h⟩ := ob_eq h
  obtain ⟨d, hd, h⟩ := ob_eq h
  split at h
  · rename_i kt et
    obtain ⟨kd, hkd, h⟩ := ob_eq h
    obtain ⟨eq, heq, h⟩ := ob_eq h
    cases h
    have ud := run_under hd
    have uk := run_under hkd
    intro rd B cf _ ρ tm a w H nx av h' nx' hB hr hg ht he next Q hkk
    obtain ⟨mv, hmv, he⟩ := ob_eq he
    obtain ⟨kv, hkv, he⟩ := ob_eq he
    obtain ⟨xv, hxv, he⟩ := ob_eq he
    have e1 := cX_ok hcm ht hmv
    have e2 := cX_ok hck ht hkv
    have e3 := cX_ok hcx ht hxv
    rcases AV.onMap_some he with ⟨hveq, he'⟩ | ⟨b, hveq, he'⟩
    · cases he'
    · clear he
      subst hveq
      obtain ⟨ob', hob, hA⟩ := ob_eq he'
      clear he'
      obtain ⟨es, hveq, hA2⟩ := onMapO_some hA
      clear hA
      subst hveq
      obtain ⟨r, hfr, hA3⟩ := ob_eq hA2
      clear hA2
      simp only [VR] at e1
      obtain ⟨p, hp, e1⟩ := e1
      obtain ⟨p', hp', hobj⟩ := hr.obj b _ hob
      rw [hp] at hp'; cases hp'
      obtain ⟨entries, o1, o2, o3, o4⟩ := hobj
      obtain ⟨r', hr1, hr2⟩ := findA_ok heq e2 es entries.toList 0 r (by simp [o3]) (fun j e hj => by
        obtain ⟨m, hm1, hm2, hm3, _⟩ := o4 j e hj
        exact ⟨m, by simpa using hm1, hm2, hm3⟩) hfr
      have hfk := run_findKey (P := E.P) (w := w) uk hr1
      have hck := run_checkKey (P := E.P) (w := w) (v := a.eval k) false uk (keyEq_basic heq)
      have hgo : (getObj p.blk).run E.P w = .ok (.map entries es.length) w := by simp [getObj, Sem.run, o1]
      have hso : ∀ ob2, (setObj p.blk ob2).run E.P w = .ok () { w with heap := w.heap.setIfInBounds p.blk ob2 } := by intro ob2; simp [setObj, Sem.run, o1]
      have hlt := hr.low0 hp
      -- the new object
      have fin : ∀ (es' : List (AV × AV)) (entries' : Array MapEntry), (execOp a.eval o).run E.P w = .ok .skip { w with heap := w.heap.setIfInBounds p.blk (.map entries' es'.length) } → entries'.size = es'.length → (∀ (j : Nat) (e : AV × AV), es'[j]? = some e → ∃ m, entries'[j]? = some m ∧ EntR ρ j e m) →
          (.undef, T.set (some (.map es')) b H, nx) = (av, h', nx') → o.wpIn (Fr rd) 0 E.P a w next Q := by
        intro es' entries' hrun hsz hent heq2
        cases heq2
        refine wp_of_skip hrun (hkk _ _ ρ (Ext.put hr (by rw [hob]; rfl) hp (fun c hc => ?_) ⟨rfl, rfl, rfl, by simp⟩ (by simp) (x := some (.map es')) (fun o ho => ?_) (fun y => ?_)) VR.undef)
        · show (w.heap.setIfInBounds p.blk _)[c]? = _; rw [Array.getElem?_setIfInBounds_ne (Ne.symm hc)]
        · cases ho
          exact ⟨entries', by simp [hlt], o2, hsz, hent⟩
        · rw [T.get_set]
          by_cases e : b = y
          · rw [if_pos e, if_pos e.symm]
          · rw [if_neg e, if_neg (Ne.symm e)]
      cases r with
      | none =>
        cases r' with
        | some q => exact hr2.elim
        | none =>
          dsimp only at hA3
          rw [forceE_eq, snoc_eq, setH_eq] at hA3
          refine fin (es ++ [(kv, xv)]) (entries.push { key := a.eval k, val := a.eval x, born := es.length }) ?_ (by simp [o3]) (fun j e hj => ?_) (Option.some.inj hA3)
          · have hl : (es ++ [(kv, xv)]).length = es.length + 1 := by simp
            rw [hl]
            rcases ho with ho | ho <;> simp [execOp, ho, Instr.mapUpdate, ud, e1, hgo, hck, hfk, hso]
          · by_cases hj2 : j < es.length
            · rw [List.getElem?_append_left hj2] at hj
              obtain ⟨m, hm, hmr⟩ := o4 j e hj
              exact ⟨m, by rw [Array.getElem?_push, if_neg (by omega)]; exact hm, hmr⟩
            · rw [List.getElem?_append_right (by omega)] at hj
              have hje : j - es.length = 0 := by
                have := (List.getElem?_eq_some_iff.1 hj).1; simp at this; omega
              rw [hje] at hj
              simp at hj; subst hj
              have : j = es.length := by omega
              subst this
              exact ⟨{ key := a.eval k, val := a.eval x, born := es.length }, by rw [Array.getElem?_push, if_pos (by omega)], e2, e3, rfl⟩
      | some q =>
        cases r' with
        | none => exact hr2.elim
        | some q' =>
          obtain ⟨j0, av0⟩ := q
          obtain ⟨j1, v1⟩ := q'
          obtain ⟨rfl, _, hjl, _⟩ := hr2
          dsimp only at hA3
          rw [forceE_eq, setNth_eq, setH_eq] at hA3
          obtain ⟨_, m0, hm0, hsame, _⟩ := findNow_same _ _ _ _ hr1
          have hm0' : entries[j0]? = some m0 := by simpa using hm0
          have hbits : Instr.sameBits 10000 m0.key (a.eval k) = true := sameBits_comm 10000 _ _ _ hsame
          have hkts : (Instr.keyThatStays m0.key (a.eval k)).run E.P w = .ok (a.eval k) w := by simp [Instr.keyThatStays, hbits]
          refine fin (es.modify j0 fun _ => (kv, xv)) (entries.modify j0 fun e => { e with key := a.eval k, val := a.eval x }) ?_ (by simp [o3]) (fun j e hj => ?_) (Option.some.inj hA3)
          · have hl : (es.modify j0 fun _ => (kv, xv)).length = es.length := by simp
            rw [hl]
            rcases ho with ho | ho <;> simp [execOp, ho, Instr.mapUpdate, ud, e1, hgo, hck, hfk, hm0', hkts, hso]
          · rw [List.getElem?_modify] at hj
            rw [Array.getElem?_modify]
            obtain ⟨e0, he0, rfl⟩ : ∃ e0, es[j]? = some e0 ∧ (if j0 = j then (kv, xv) else e0) = e := by
              cases hes : es[j]? with
              | none => rw [hes] at hj; cases hj
              | some e0 => rw [hes] at hj; exact ⟨e0, rfl, Option.some.inj hj⟩
            obtain ⟨m, hm, g1, g2, g3⟩ := o4 j e0 he0
            by_cases hjj : j0 = j
            · subst hjj
              rw [hm0'] at hm; cases hm
              exact ⟨{ m0 with key := a.eval k, val := a.eval x }, by simp [hm0'], by simpa using e2, by simpa using e3, g3⟩
            · refine ⟨m, by rw [if_neg hjj]; exact hm, ?_⟩
              show EntR ρ j (if j0 = j then (kv, xv) else e0) m
              rw [if_neg hjj]
              exact ⟨g1, g2, g3⟩
  · cases h

/-- a key of plain integers -/
noncomputable def intsL (l : List AV) : Bool := List.rec (motive := fun _ => Bool) true (fun a _ ih => a.onInt false fun _ _ => ih) l
noncomputable def intsEq : List AV → List AV → Bool
  | [], [] => true
  | .int k a :: l, .int k' b :: m => bt (kEq k k') (bt (eqI a b) (intsEq l m) false) false
  | _, _ => false
theorem intsEq_ok {ρ : Ren} : ∀ {l m : List AV} {vs us : List Value}, intsEq l m = true → VRs ρ l vs → VRs ρ m us → vs = us ∧ ∀ v ∈ vs, ∃ k n, v = .int k n := by
  intro l
  induction l with
  | nil => intro m vs us h hv hu; cases m with | nil => rw [VRs.nil_iff] at hv hu; subst hv hu; exact ⟨rfl, fun v hv => (by cases hv)⟩ | cons b m => simp [intsEq] at h
  | cons a l ih =>
    intro m vs us h hv hu
    cases m with
    | nil => cases a <;> simp [intsEq] at h
    | cons b m =>
      cases a <;> cases b <;> first | (simp [intsEq] at h; done) | skip
      rename_i k x k' y
      have h : bt (kEq k k') (bt (eqI x y) (intsEq l m) false) false = true := by simpa [intsEq] using h
      obtain ⟨h1, h⟩ := bt_and' h
      obtain ⟨h2, h⟩ := bt_and' h
      obtain ⟨v, vs', rfl, q1, q2⟩ := VRs.cons_iff.1 hv
      obtain ⟨u, us', rfl, r1, r2⟩ := VRs.cons_iff.1 hu
      obtain ⟨e1, e2⟩ := ih h q2 r2
      simp only [VR] at q1 r1
      rw [eqI_eq] at h2
      have h2 := eq_of_beq h2
      refine ⟨by rw [q1, r1, kEq_eq h1, h2, e1], fun w hw => ?_⟩
      rcases List.mem_cons.1 hw with rfl | hw
      · exact ⟨_, _, q1⟩
      · exact e2 w hw
theorem sameBits_ints {n : Nat} {vs : Array Value} (h : ∀ v ∈ vs.toList, ∃ k n, v = .int k n) : Instr.sameBits (n + 1) (.agg vs) (.agg vs) = true := by
  have hz : ∀ l : List Value, (∀ v ∈ l, ∃ k n, v = .int k n) → ((l.zip l).all fun (x, y) => Instr.sameBits n x y) = true := by
    intro l
    induction l with
    | nil => intro _; rfl
    | cons a l ih =>
      intro hl
      obtain ⟨k, m, rfl⟩ := hl a (by simp)
      simp only [List.zip_cons_cons, List.all_cons, Bool.and_eq_true]
      exact ⟨by cases n <;> simp [Instr.sameBits], ih fun v hv => hl v (by simp [hv])⟩
  simp [Instr.sameBits, hz vs.toList h]

noncomputable def lMapEntry (E : Env) (t : TypeId) (m k : Operand) : Option LoudF :=
  ob (cX m) fun cm => ob (cX k) fun ck => ob (E.under t) fun d => match d with
    | .map kt et => ob (keyEqS E kt) fun q => ob (E.info et) fun i => ob i.zero fun z => ob (constV z) fun z => some fun _ tm h nx => ob (cm.ev tm) fun mv => ob (ck.ev tm) fun kv => ob (q.2 kv) fun _ =>
        mv.onMap none none fun b => ob (h.get b) fun o => onMapO o none fun es => ob (findA q.1 kv es) fun r =>
          Option.rec (motive := fun _ => Option (AV × T AObj × Nat)) (forceN (lenL es) fun n => forceE (List.rec (motive := fun _ => List (AV × AV)) [(kv, z)] (fun e _ ih => e :: ih) es) fun es => setH b (some (.map es)) h fun h => some (.tuple [z, .int .i64 (.ofNat n)], h, nx))
            (fun p => ob (es[p.1]?) fun e => kv.onAgg none fun l => e.1.onAgg none fun l' => bt (intsEq l' l) (some (.tuple [p.2, .int .i64 (.ofNat p.1)], h, nx)) none) r
    | _ => none

theorem lMapEntry_ok {t : TypeId} {m k : Operand} {f : LoudF} (h : lMapEntry E t m k = some f) (ho : o.op = .mapEntry t m k) : LoudOk E o f := by
  obtain ⟨cm, hcm, h⟩ := ob_eq h
  obtain ⟨ck, hck, h⟩ := ob_eq h
  obtain ⟨d, hd, h⟩ := ob_eq h
  split at h <;> try (cases h; done)
  rename_i kt et
  obtain ⟨q, hq, h⟩ := ob_eq h
  obtain ⟨i, hi, h⟩ := ob_eq h
  obtain ⟨z, hz, h⟩ := ob_eq h
  obtain ⟨za, hza, h⟩ := ob_eq h
  cases h
  have ud := run_under hd
  intro rd B cf _ ρ tm a w H nx av h' nx' hB hr hg ht he next Q hkk
  obtain ⟨mv, hmv, he⟩ := ob_eq he
  obtain ⟨kv, hkv, he⟩ := ob_eq he
  obtain ⟨_, hck0, he⟩ := ob_eq he
  have e1 := cX_ok hcm ht hmv
  have e2 := cX_ok hck ht hkv
  have hck := keyEqS_check hq e2 hck0 false w
  rcases AV.onMap_some he with ⟨hveq, he'⟩ | ⟨b, hveq, he'⟩
  · cases he'
  · clear he
    subst hveq
    obtain ⟨ob', hob, hA⟩ := ob_eq he'
    clear he'
    obtain ⟨es, hveq, hA2⟩ := onMapO_some hA
    clear hA
    subst hveq
    obtain ⟨r, hfr, hA3⟩ := ob_eq hA2
    clear hA2
    simp only [VR] at e1
    obtain ⟨p, hp, e1⟩ := e1
    obtain ⟨p', hp', hobj⟩ := hr.obj b _ hob
    rw [hp] at hp'; cases hp'
    obtain ⟨entries, o1, o2, o3, o4⟩ := hobj
    obtain ⟨r', hfk, hr2⟩ := findS_ok hq e2 w es entries.toList r (by simp [o3]) (fun j e hj => by
      obtain ⟨m, hm1, hm2, hm3, _⟩ := o4 j e hj
      exact ⟨m, by simpa using hm1, hm2, hm3⟩) hfr
    have hgo : (getObj p.blk).run E.P w = .ok (.map entries es.length) w := by simp [getObj, Sem.run, o1]
    have hso : ∀ ob2, (setObj p.blk ob2).run E.P w = .ok () { w with heap := w.heap.setIfInBounds p.blk ob2 } := by intro ob2; simp [setObj, Sem.run, o1]
    have hlt := hr.low0 hp
    -- the new object
    have fin : ∀ (v : Value) (es' : List (AV × AV)) (entries' : Array MapEntry), (execOp a.eval o).run E.P w = .ok (.value v) { w with heap := w.heap.setIfInBounds p.blk (.map entries' es'.length) } → entries'.size = es'.length →
        (∀ j e, es'[j]? = some e → ∃ m, entries'[j]? = some m ∧ EntR ρ j e m) → VR ρ av v → h'.get = (T.set (some (.map es')) b H).get → nx' = nx → o.wpIn (Fr rd) 0 E.P a w next Q := by
      intro v es' entries' hrun hsz hent hv hh hn
      subst hn
      refine wp_of_run hrun (hkk _ _ ρ ?_ hv)
      rw [hh]
      refine Ext.put hr (by rw [hob]; rfl) hp (fun c hc => ?_) ⟨rfl, rfl, rfl, by simp⟩ (by simp) (x := some (.map es')) (fun o ho => ?_) (fun y => ?_)
      · show (w.heap.setIfInBounds p.blk _)[c]? = _; rw [Array.getElem?_setIfInBounds_ne (Ne.symm hc)]
      · cases ho
        exact ⟨entries', by simp [hlt], o2, hsz, hent⟩
      · rw [T.get_set]
        by_cases e : b = y
        · rw [if_pos e, if_pos e.symm]
        · rw [if_neg e, if_neg (Ne.symm e)]
    cases r with
    | none =>
      cases r' with
      | some q => exact hr2.elim
      | none =>
        dsimp only at hA3
        rw [forceN_eq, lenL_eq, forceE_eq, snoc_eq, setH_eq] at hA3
        cases hA3
        refine fin (.tuple #[z, goInt es.length]) (es ++ [(kv, za)]) (entries.push { key := a.eval k, val := z, born := es.length }) ?_ (by simp [o3]) (fun j e hj => ?_) ⟨_, rfl, VRs.cons (constV_ok hza) (VRs.cons rfl VRs.nil)⟩ rfl rfl
        · have hl : (es ++ [(kv, za)]).length = es.length + 1 := by simp
          rw [hl]
          simp [execOp, ho, Instr.mapEntry, ud, e1, hgo, hck, hfk, hso, run_zero hi hz]
        · by_cases hj2 : j < es.length
          · rw [List.getElem?_append_left hj2] at hj
            obtain ⟨m, hm, hmr⟩ := o4 j e hj
            exact ⟨m, by rw [Array.getElem?_push, if_neg (by omega)]; exact hm, hmr⟩
          · rw [List.getElem?_append_right (by omega)] at hj
            have hje : j - es.length = 0 := by
              have := (List.getElem?_eq_some_iff.1 hj).1; simp at this; omega
            rw [hje] at hj
            simp at hj; subst hj
            have : j = es.length := by omega
            subst this
            exact ⟨{ key := a.eval k, val := z, born := es.length }, by rw [Array.getElem?_push, if_pos (by omega)], e2, constV_ok hza, rfl⟩
    | some q =>
      cases r' with
      | none => exact hr2.elim
      | some q' =>
        obtain ⟨j0, av0⟩ := q
        obtain ⟨j1, v1⟩ := q'
        obtain ⟨rfl, hjl, hvr⟩ := hr2
        dsimp only at hA3
        obtain ⟨e, hej, hA4⟩ := ob_eq hA3
        clear hA3
        obtain ⟨l, hveq, hA5⟩ := AV.onAgg_some hA4
        clear hA4
        subst hveq
        obtain ⟨l', hle, hA6⟩ := AV.onAgg_some hA5
        clear hA5
        obtain ⟨hints, hA7⟩ := bt_none hA6
        clear hA6
        cases hA7
        obtain ⟨m0, hm0, g1, g2, g3⟩ := o4 j0 e hej
        rw [hle] at g1
        simp only [VR] at g1 e2
        obtain ⟨vs, g1e, g1⟩ := g1
        obtain ⟨us, e2e, e2'⟩ := e2
        obtain ⟨heq, hii⟩ := intsEq_ok hints g1 e2'
        have heq : vs = us := Array.toList_inj.1 heq
        subst heq
        have hbits : Instr.sameBits 10000 m0.key (a.eval k) = true := by rw [g1e, e2e]; exact sameBits_ints (n := 9999) hii
        have hkts : (Instr.keyThatStays m0.key (a.eval k)).run E.P w = .ok (a.eval k) w := by simp [Instr.keyThatStays, hbits]
        refine fin (.tuple #[v1, goInt j0]) es (entries.modify j0 fun e => { e with key := a.eval k }) ?_ (by simp [o3]) (fun j x hj => ?_) ⟨_, rfl, VRs.cons hvr (VRs.cons rfl VRs.nil)⟩ ?_ rfl
        · simp [execOp, ho, Instr.mapEntry, ud, e1, hgo, hck, hfk, hm0, hkts, hso, g3]
        · rw [Array.getElem?_modify]
          obtain ⟨m, hm, w1, w2, w3⟩ := o4 j x hj
          by_cases hjj : j0 = j
          · subst hjj
            rw [hm0] at hm; cases hm
            refine ⟨{ m0 with key := a.eval k }, by simp [hm0], ?_, w2, w3⟩
            show VR ρ x.1 (a.eval k)
            rw [e2e, ← g1e]; exact w1
          · exact ⟨m, by rw [if_neg hjj]; exact hm, w1, w2, w3⟩
        · funext y
          rw [T.get_set]
          by_cases e : b = y
          · rw [if_pos e, ← e, hob]
          · rw [if_neg e]

theorem findIdx_born {es : Array MapEntry} {n : Nat} (hb : ∀ (i : Nat) (m : MapEntry), es[i]? = some m → m.born = i) (hn : n < es.size) : es.findIdx? (fun e => ((e.born : Int) == (n : Int))) = some n := by
  rw [Array.findIdx?_eq_some_iff_getElem]
  refine ⟨hn, ?_, fun j hj => ?_⟩
  · have := hb n es[n] (by simp [hn])
    simp [this]
  · have := hb j es[j] (by simp)
    simp [this]
    omega

noncomputable def lEntryStore (m s x : Operand) : Option LoudF :=
  ob (cX m) fun cm => ob (cX s) fun cs => ob (cX x) fun cx => some fun _ tm h nx => ob (cm.ev tm) fun mv => ob (cs.ev tm) fun sv => ob (cx.ev tm) fun xv =>
    mv.onMap none none fun b => ob (h.get b) fun o => onMapO o none fun es => sv.onInt none fun _ k => natI k none fun j => ob (es[j]?) fun e =>
      forceE (setNth es (e.1, xv) j) fun es => setH b (some (.map es)) h fun h => some (.undef, h, nx)

theorem lEntryStore_ok {t : TypeId} {m s x : Operand} {f : LoudF} (h : lEntryStore m s x = some f) (ho : o.op = .entryStore t m s x) : LoudOk E o f := by
  obtain ⟨cm, hcm, h⟩ := ob_eq h
  obtain ⟨cs, hcs, h⟩ := ob_eq h
  obtain ⟨cx, hcx, h⟩ := ob_eq h
  cases h
  intro rd B cf _ ρ tm a w H nx av h' nx' hB hr hg ht he next Q hkk
  obtain ⟨mv, hmv, he⟩ := ob_eq he
  obtain ⟨sv, hsv, he⟩ := ob_eq he
  obtain ⟨xv, hxv, he⟩ := ob_eq he
  have e1 := cX_ok hcm ht hmv
  have e2 := cX_ok hcs ht hsv
  have e3 := cX_ok hcx ht hxv
  rcases AV.onMap_some he with ⟨hveq, he'⟩ | ⟨b, hveq, he'⟩
  · cases he'
  · clear he
    subst hveq
    obtain ⟨ob', hob, hA⟩ := ob_eq he'
    clear he'
    obtain ⟨es, hveq, hA2⟩ := onMapO_some hA
    clear hA
    subst hveq
    obtain ⟨kk, n0, hveq, hA3⟩ := AV.onInt_some hA2
    clear hA2
    subst hveq
    obtain ⟨j, hveq, hA4⟩ := natI_some hA3
    clear hA3
    subst hveq
    obtain ⟨e, hej, hA5⟩ := ob_eq hA4
    clear hA4
    rw [forceE_eq, setNth_eq, setH_eq] at hA5
    cases hA5
    simp only [VR] at e1 e2
    obtain ⟨p, hp, e1⟩ := e1
    obtain ⟨p', hp', hobj⟩ := hr.obj b _ hob
    rw [hp] at hp'; cases hp'
    obtain ⟨entries, o1, o2, o3, o4⟩ := hobj
    have hgo : (getObj p.blk).run E.P w = .ok (.map entries es.length) w := by simp [getObj, Sem.run, o1]
    have hso : ∀ ob2, (setObj p.blk ob2).run E.P w = .ok () { w with heap := w.heap.setIfInBounds p.blk ob2 } := by intro ob2; simp [setObj, Sem.run, o1]
    have hlt := hr.low0 hp
    have hjl : j < es.length := (List.getElem?_eq_some_iff.1 hej).1
    have hfi := findIdx_born (es := entries) (n := j) (fun i m hm => by
      have hil : i < es.length := by rw [← o3]; exact (Array.getElem?_eq_some_iff.1 hm).1
      obtain ⟨m', hm', _, _, hb⟩ := o4 i es[i] (by simp [hil])
      rw [hm] at hm'; cases hm'; exact hb) (by omega)
    have hrun : (execOp a.eval o).run E.P w = .ok .skip { w with heap := w.heap.setIfInBounds p.blk (.map (entries.modify j fun e => { e with val := a.eval x }) es.length) } := by
      simp [execOp, ho, Instr.entryStore, e1, e2, hgo, asInt, asIntOf]
      rw [hfi]
      simp [hso]
    refine wp_of_skip hrun (hkk _ _ ρ ?_ VR.undef)
    refine Ext.put hr (by rw [hob]; rfl) hp (fun c hc => ?_) ⟨rfl, rfl, rfl, by simp⟩ (by simp) (x := some (.map (es.modify j fun _ => (e.1, xv)))) (fun o ho => ?_) (fun y => ?_)
    · show (w.heap.setIfInBounds p.blk _)[c]? = _; rw [Array.getElem?_setIfInBounds_ne (Ne.symm hc)]
    · cases ho
      refine ⟨entries.modify j fun e => { e with val := a.eval x }, by simp [hlt], o2, by simp [o3], fun i y hy => ?_⟩
      rw [List.getElem?_modify] at hy
      rw [Array.getElem?_modify]
      obtain ⟨e0, he0, rfl⟩ : ∃ e0, es[i]? = some e0 ∧ (if j = i then (e.1, xv) else e0) = y := by
        cases hes : es[i]? with
        | none => rw [hes] at hy; cases hy
        | some e0 => rw [hes] at hy; exact ⟨e0, rfl, Option.some.inj hy⟩
      obtain ⟨m, hm, g1, g2, g3⟩ := o4 i e0 he0
      by_cases hji : j = i
      · subst hji
        rw [hej] at he0; cases he0
        exact ⟨{ m with val := a.eval x }, by simp [hm], by simpa using g1, by simpa using e3, g3⟩
      · refine ⟨m, by rw [if_neg hji]; exact hm, ?_⟩
        show EntR ρ i (if j = i then (e.1, xv) else e0) m
        rw [if_neg hji]
        exact ⟨g1, g2, g3⟩
    · rw [T.get_set]
      by_cases e : b = y
      · rw [if_pos e, if_pos e.symm]
      · rw [if_neg e, if_neg (Ne.symm e)]

noncomputable def lNext (x : Operand) (isString : Bool) : Option LoudF :=
  bt isString (ob (cX x) fun c => some fun _ tm h nx => ob (c.ev tm) fun v => v.onPtr none fun b off => bt (Nat.beq off 0) (ob (h.get b) fun o => onIter o none fun n m pos =>
    bt (Nat.blt pos n) (forceN (Nat.land (Nat.shiftRight m (Nat.mul 8 pos)) 255) fun c => bt (Nat.blt c 128) (forceN (Nat.succ pos) fun pos' => setH b (some (.siter n m pos')) h fun h => some (.tuple [.bool true, .int .i64 (.ofNat pos), .int .i32 (.ofNat c)], h, nx)) none)
      (some (.tuple [.bool false], h, nx))) none) none

theorem lNext_ok {x : Operand} {s : Bool} {f : LoudF} (h : lNext x s = some f) (ho : o.op = .next x s) : LoudOk E o f := by
  obtain ⟨hs, h⟩ := bt_none h
  subst hs
  obtain ⟨c, hc, h⟩ := ob_eq h
  cases h
  intro rd B cf _ ρ tm a w H nx av h' nx' hB hr hg ht he next Q hk
  obtain ⟨v, hv, he⟩ := ob_eq he
  have e1 := cX_ok hc ht hv
  obtain ⟨b, off, hveq, he'⟩ := AV.onPtr_some he
  clear he
  subst hveq
  obtain ⟨hz, hA⟩ := bt_none he'
  clear he'
  have hz := Nat.eq_of_beq_eq_true hz
  subst hz
  obtain ⟨ob', hob, hA2⟩ := ob_eq hA
  clear hA
  obtain ⟨n, m, pos, hveq, hA3⟩ := onIter_some hA2
  clear hA2
  subst hveq
  simp only [VR] at e1
  obtain ⟨p, hp, e1⟩ := e1
  obtain ⟨p', hp', hobj⟩ := hr.obj b _ hob
  rw [hp] at hp'; cases hp'
  obtain ⟨st, o1, o2, o3⟩ := hobj
  have hgo : (getObj p.blk).run E.P w = .ok (.stringIter st pos) w := by simp [getObj, Sem.run, o1]
  have hso : ∀ ob2, (setObj p.blk ob2).run E.P w = .ok () { w with heap := w.heap.setIfInBounds p.blk ob2 } := by intro ob2; simp [setObj, Sem.run, o1]
  have hlt := hr.low0 hp
  rw [o2] at e1
  cases hq : Nat.blt pos n
  · rw [hq, bt_false] at hA3; cases hA3
    have hq := blt_ge hq
    have hns : ¬ pos < st.size := by rw [o3.1]; omega
    refine wp_of_run (v := .tuple #[.bool false]) (w' := w) ?_ (hk _ w ρ (Ext.refl hr) ⟨_, rfl, VRs.cons rfl VRs.nil⟩)
    simp [execOp, ho, e1, Instr.next, hgo, hns]
  · rw [hq, bt_true, forceN_eq] at hA3
    have hq := blt_lt hq
    obtain ⟨hc128, hA4⟩ := bt_none hA3
    clear hA3
    have hc128 := blt_lt hc128
    rw [forceN_eq, setH_eq] at hA4
    cases hA4
    have hps : pos < st.size := by rw [o3.1]; exact hq
    obtain ⟨bb, hb1, hb2⟩ := o3.get pos hq
    have hdec : Utf8.decode st pos = (bb.toNat, 1) := by
      unfold Utf8.decode
      have hget : (st.get! (pos + 0)).toNat = bb.toNat := by
        rw [Nat.add_zero]
        have : st[pos]? = some st[pos] := ByteArray.getElem?_lt' st pos hps
        rw [this] at hb1
        have e2 : st[pos] = bb := Option.some.inj hb1
        rw [← e2]
        have hps' : pos < st.data.size := hps
        show (st.data[pos]!).toNat = (st.data[pos]).toNat
        rw [getElem!_pos st.data pos hps']
      show (if (st.get! (pos + 0)).toNat < 128 then ((st.get! (pos + 0)).toNat, 1) else _) = _
      rw [hget, if_pos (by rw [hb2]; exact hc128)]
    refine wp_of_run (v := .tuple #[.bool true, goInt pos, .int .i32 (bb.toNat : Int)]) (w' := { w with heap := w.heap.setIfInBounds p.blk (.stringIter st (pos + 1)) }) ?_ (hk _ _ ρ (Ext.put hr (by rw [hob]; rfl) hp (fun c hc => ?_) ⟨rfl, rfl, rfl, by simp⟩ (by simp) (x := some (.siter n m (Nat.succ pos))) (fun o ho => ?_) (fun y => ?_)) ⟨_, rfl, VRs.cons rfl (VRs.cons rfl (VRs.cons ?_ VRs.nil))⟩)
    · simp [execOp, ho, e1, Instr.next, hgo, hps, hdec, hso]
    · show (w.heap.setIfInBounds p.blk _)[c]? = _; rw [Array.getElem?_setIfInBounds_ne (Ne.symm hc)]
    · cases ho
      exact ⟨st, by simp [hlt], o2, o3⟩
    · rw [T.get_set]
      by_cases e : b = y
      · rw [if_pos e, if_pos e.symm]
      · rw [if_neg e, if_neg (Ne.symm e)]
    · simp only [VR, hb2]; rfl

/-- an iterator over a map -/
noncomputable def lRange (E : Env) (t : TypeId) (x : Operand) : Option LoudF :=
  ob (cX x) fun c => ob (E.under t) fun d => match d with
    | .map _ _ => some fun _ tm h nx => ob (c.ev tm) fun v => v.onMap none (forceN (Nat.succ nx) fun nx' => setH nx (some (.miter none 0 false)) h fun h => some (.ptr nx 0, h, nx'))
        (fun b => ob (h.get b) fun o => onMapO o none fun es => forceN (lenL es) fun n => forceN (Nat.succ nx) fun nx' => setH nx (some (.miter (some b) n false)) h fun h => some (.ptr nx 0, h, nx'))
    | _ => none

theorem lRange_ok {t : TypeId} {x : Operand} {f : LoudF} (h : lRange E t x = some f) (ho : o.op = .range t x) : LoudOk E o f := by
  obtain ⟨c, hc, h⟩ := ob_eq h
  obtain ⟨d, hd, h⟩ := ob_eq h
  have ud := run_under hd
  split at h
  · cases h
    intro rd B cf _ ρ tm a w H nx av h' nx' hB hr hg ht he next Q hk
    obtain ⟨v, hv, he⟩ := ob_eq he
    have e1 := cX_ok hc ht hv
    have hfr := hr.fresh nx (Nat.le_refl _)
    rcases AV.onMap_some he with ⟨hveq, he'⟩ | ⟨b, hveq, he'⟩ <;> clear he <;> subst hveq
    · rw [forceN_eq, setH_eq] at he'
      cases he'
      simp only [VR] at e1
      refine wp_of_run (v := .pointer (some ⟨w.heap.size, 0, none⟩)) (w' := w.alloc (.mapIter none 0 #[] 0)) ?_ (hk _ _ (ρ.upd nx ⟨w.heap.size, 0, 0⟩) (Ext.new (w' := w.alloc (.mapIter none 0 #[] 0)) hr (oc := .mapIter none 0 #[] 0) rfl hB rfl rfl rfl (x := .miter none 0 false) ⟨none, #[], 0, rfl, rfl, fun _ => ⟨rfl, Nat.le_refl _⟩, fun h => (by cases h), rfl⟩ (fun y => ?_)) ⟨_, Ren.upd_same, rfl⟩)
      · simp [execOp, ho, Instr.range, ud, e1]
      · rw [T.get_set]
        by_cases e : nx = y
        · rw [if_pos e, if_pos e.symm]
        · rw [if_neg e, if_neg (Ne.symm e)]
    · obtain ⟨ob', hob, he'⟩ := ob_eq he'
      obtain ⟨es, hveq, he⟩ := onMapO_some he'
      clear he'
      subst hveq
      rw [forceN_eq, forceN_eq, setH_eq, lenL_eq] at he
      cases he
      simp only [VR] at e1
      obtain ⟨p, hp, e1⟩ := e1
      obtain ⟨p', hp', hobj⟩ := hr.obj b _ hob
      rw [hp] at hp'; cases hp'
      obtain ⟨entries, o1, o2, o3, o4⟩ := hobj
      have hgo : (getObj p.blk).run E.P w = .ok (.map entries es.length) w := by simp [getObj, Sem.run, o1]
      refine wp_of_run (v := .pointer (some ⟨w.heap.size, 0, none⟩)) (w' := w.alloc (.mapIter (some p.blk) es.length #[] es.length)) ?_ (hk _ _ (ρ.upd nx ⟨w.heap.size, 0, 0⟩) (Ext.new (w' := w.alloc (.mapIter (some p.blk) es.length #[] es.length)) hr (oc := .mapIter (some p.blk) es.length #[] es.length) rfl hB rfl rfl rfl (x := .miter (some b) es.length false) ⟨some p.blk, #[], es.length, rfl, rfl, fun _ => ⟨rfl, Nat.le_refl _⟩, fun h => (by cases h), p, Ren.le_upd hfr _ _ hp, rfl⟩ (fun y => ?_)) ⟨_, Ren.upd_same, rfl⟩)
      · simp [execOp, ho, Instr.range, ud, e1, hgo]
      · rw [T.get_set]
        by_cases e : nx = y
        · rw [if_pos e, if_pos e.symm]
        · rw [if_neg e, if_neg (Ne.symm e)]
  · cases h

/-- the iterator over a map that holds one entry at most -/
noncomputable def nextMF (b : Nat) (h : T AObj) (nx : Nat) (m : Option Nat) (since : Nat) (seen : Bool) : Option (AV × T AObj × Nat) :=
  Option.rec (motive := fun _ => Option (AV × T AObj × Nat)) (some (.tuple [.bool false], h, nx)) (fun m => ob (h.get m) fun q => onMapO q none fun es => List.rec (motive := fun _ => Option (AV × T AObj × Nat)) (bt seen none (some (.tuple [.bool false], h, nx)))
      (fun e r _ => List.rec (motive := fun _ => Option (AV × T AObj × Nat)) (bt seen (some (.tuple [.bool false], h, nx)) (bt (Nat.blt 0 since) (setH b (some (.miter (some m) since true)) h fun h => some (.tuple [.bool true, e.1, e.2], h, nx)) none)) (fun _ _ _ => none) r) es) m
/-- what is said of an iterator that is told which entry comes (no block of the machine is such a one: it serves the loops that try each) -/
noncomputable def nextTF (b : Nat) (h : T AObj) (nx : Nat) (m k n : Nat) : Option (AV × T AObj × Nat) :=
  ob (h.get m) fun q => onMapO q none fun es => ob (nthE es k) fun e => setH b (some (.mitat m k n)) h fun h => some (.tuple [.bool true, e.1, e.2], h, nx)
noncomputable def lNextM (x : Operand) (isString : Bool) : Option LoudF :=
  bt isString none (ob (cX x) fun c => some fun _ tm h nx => ob (c.ev tm) fun v => v.onPtr none fun b off => bt (Nat.beq off 0) (ob (h.get b) fun o => onMNext o (onMIter o none (nextMF b h nx)) (nextTF b h nx)) none)

theorem lNextM_ok {x : Operand} {s : Bool} {f : LoudF} (h : lNextM x s = some f) (ho : o.op = .next x s) : LoudOk E o f := by
  cases s with
  | true => cases h
  | false =>
    have h : (ob (cX x) fun c => some fun (_ : CF) tm (h : T AObj) (nx : Nat) => ob (c.ev tm) fun v => v.onPtr none fun b off => bt (Nat.beq off 0) (ob (h.get b) fun o => onMNext o (onMIter o none (nextMF b h nx)) (nextTF b h nx)) none) = some f := h
    obtain ⟨c, hc, h⟩ := ob_eq h
    cases h
    intro rd B cf _ ρ tm a w H nx av h' nx' hB hr hg ht he next Q hk
    obtain ⟨v, hv, he⟩ := ob_eq he
    have e1 := cX_ok hc ht hv
    obtain ⟨b, off, hveq, he'⟩ := AV.onPtr_some he
    clear he
    subst hveq
    obtain ⟨hz, hA⟩ := bt_none he'
    clear he'
    have hz := Nat.eq_of_beq_eq_true hz
    subst hz
    obtain ⟨ob', hob, hA1⟩ := ob_eq hA
    clear hA
    have hA2 : onMIter ob' none (nextMF b H nx) = some (av, h', nx') := by
      cases ob' with
      | mnext _ _ _ => obtain ⟨_, _, hf⟩ := hr.obj b _ hob; exact hf.elim
      | _ => exact hA1
    clear hA1
    obtain ⟨m, since, seen, hveq, hA3⟩ := onMIter_some hA2
    clear hA2
    subst hveq
    simp only [VR] at e1
    obtain ⟨p, hp, e1⟩ := e1
    obtain ⟨p', hp', hobj⟩ := hr.obj b _ hob
    rw [hp] at hp'; cases hp'
    obtain ⟨mm, sa, last, o1, o2, s1, s2, o3⟩ := hobj
    have hgo : (getObj p.blk).run E.P w = .ok (.mapIter mm since sa last) w := by simp [getObj, Sem.run, o1]
    rw [o2] at e1
    cases m with
    | none =>
      cases hA3
      dsimp only at o3
      subst o3
      refine wp_of_run (v := .tuple #[.bool false]) (w' := w) ?_ (hk _ w ρ (Ext.refl hr) ⟨_, rfl, VRs.cons rfl VRs.nil⟩)
      simp [execOp, ho, e1, Instr.next, hgo]
    | some mb =>
      obtain ⟨qo, hqo, hA4⟩ := ob_eq hA3
      obtain ⟨es, hveq, hA5⟩ := onMapO_some hA4
      clear hA3 hA4
      subst hveq
      dsimp only at o3
      obtain ⟨q, hq, rfl⟩ := o3
      obtain ⟨q', hq', hmobj⟩ := hr.obj mb _ hqo
      rw [hq] at hq'; cases hq'
      obtain ⟨entries, m1, m2, m3, m4⟩ := hmobj
      have hgm : (getObj q.blk).run E.P w = .ok (.map entries es.length) w := by simp [getObj, Sem.run, m1]
      cases es with
      | nil =>
        have hA5 : bt seen none (some ((.tuple [.bool false] : AV), H, nx)) = some (av, h', nx') := hA5
        cases seen with
        | true => cases hA5
        | false =>
          cases hA5
          have hsa := (s1 rfl).1
          subst hsa
          have hent : entries = #[] := by simpa using m3
          subst hent
          refine wp_of_run (v := .tuple #[.bool false]) (w' := w) ?_ (hk _ w ρ (Ext.refl hr) ⟨_, rfl, VRs.cons rfl VRs.nil⟩)
          simp [execOp, ho, e1, Instr.next, hgo, hgm, Question.forced]
      | cons e es =>
        cases es with
        | cons e2 es => cases hA5
        | nil =>
          obtain ⟨m0, hm0, g1, g2, g3⟩ := m4 0 e rfl
          have hent : entries = #[m0] := by
            have h1 : entries.size = 1 := m3
            apply Array.ext
            · simpa using h1
            · intro i hi1 hi2
              have : i = 0 := by omega
              subst this
              have := hm0
              rw [Array.getElem?_eq_getElem hi1] at this
              simpa using this
          subst hent
          cases seen with
          | true =>
            cases hA5
            obtain ⟨hsa, hla⟩ := s2 rfl
            subst hsa hla
            refine wp_of_run (v := .tuple #[.bool false]) (w' := w) ?_ (hk _ w ρ (Ext.refl hr) ⟨_, rfl, VRs.cons rfl VRs.nil⟩)
            simp [execOp, ho, e1, Instr.next, hgo, hgm, Question.forced, g3]
          | false =>
            have hA5 : bt (Nat.blt 0 since) (setH b (some (.miter (some mb) since true)) H fun h => some ((.tuple [.bool true, e.1, e.2] : AV), h, nx)) none = some (av, h', nx') := hA5
            obtain ⟨hsi, hA6⟩ := bt_none hA5
            have hsi := blt_lt hsi
            rw [setH_eq] at hA6
            cases hA6
            have hsa := (s1 rfl).1
            subst hsa
            have hso : ∀ ob2, (setObj p.blk ob2).run E.P w = .ok () { w with heap := w.heap.setIfInBounds p.blk ob2 } := by intro ob2; simp [setObj, Sem.run, o1]
            have hlt := hr.low0 hp
            refine wp_of_run (v := .tuple #[.bool true, m0.key, m0.val]) (w' := { w with heap := w.heap.setIfInBounds p.blk (.mapIter (some q.blk) since #[0] 1) }) ?_ (hk _ _ ρ (Ext.put hr (by rw [hob]; rfl) hp (fun c hc => ?_) ⟨rfl, rfl, rfl, by simp⟩ (by simp) (x := some (.miter (some mb) since true)) (fun o ho => ?_) (fun y => ?_)) ⟨_, rfl, VRs.cons rfl (VRs.cons g1 (VRs.cons g2 VRs.nil))⟩)
            · have hs0 : ¬ since = 0 := by omega
              simp [execOp, ho, e1, Instr.next, hgo, hgm, Question.forced, g3, hsi, hso, hs0]
            · show (w.heap.setIfInBounds p.blk _)[c]? = _; rw [Array.getElem?_setIfInBounds_ne (Ne.symm hc)]
            · cases ho
              exact ⟨some q.blk, #[0], 1, by simp [hlt], o2, fun h => (by cases h), fun _ => ⟨rfl, rfl⟩, q, hq, rfl⟩
            · rw [T.get_set]
              by_cases e : b = y
              · rw [if_pos e, if_pos e.symm]
              · rw [if_neg e, if_neg (Ne.symm e)]

/-- clear, of a slice -/
noncomputable def lClear (E : Env) (ts : Array TypeId) (args : Array Operand) : Option LoudF :=
  match args.toList, ts.toList with
  | [x], [t] => ob (cX x) fun cx => ob (E.under t) fun td => onSliceD td fun e => ob (E.info e) fun i => ob (zeroL i) fun z => bt (Nat.beq (lenL z) i.size)
      (some fun _ tm h nx => ob (cx.ev tm) fun xv => xv.onSlice none (some (.undef, h, nx)) fun b off len _ esz => bt (Nat.beq esz i.size)
        (bt (Nat.beq len 0) (some (.undef, h, nx)) (forceL (repL z len) fun l => wCells b off l h fun h => some (.undef, h, nx))) none) none
  | _, _ => none

theorem lClear_ok {c : Call} {f : LoudF} (h : lClear E c.argTypes c.args = some f) (hb : c.callee = .builtin .clear) (ho : o.op = .call c) : LoudOk E o f := by
  unfold lClear at h
  split at h
  · rename_i x t hxs hts
    have hxs := one_arg hxs
    obtain ⟨cx, hcx, h⟩ := ob_eq h
    obtain ⟨td, htd, h⟩ := ob_eq h
    obtain ⟨e, hde, h⟩ := onSliceD_some h
    subst hde
    obtain ⟨i, hi, h⟩ := ob_eq h
    obtain ⟨z, hz, h⟩ := ob_eq h
    obtain ⟨hlz, h⟩ := bt_none h
    cases h
    have hlz := Nat.eq_of_beq_eq_true hlz
    rw [lenL_eq] at hlz
    have u1 := run_under htd
    have hty : c.argTypes[0]? = some t := by rw [← Array.getElem?_toList, hts]; rfl
    intro rd B cf _ ρ tm a w H nx av h' nx' hB hr hg ht he next Q hk
    obtain ⟨xv, hxv, he⟩ := ob_eq he
    have e1 := cX_ok hcx ht hxv
    obtain ⟨zv, hzv, hzr⟩ := zeroL_ok (ρ := ρ) hz
    rcases AV.onSlice_some he with ⟨hveq, he'⟩ | ⟨b, off, len, cap, esz, hveq, he'⟩
    · clear he
      subst hveq
      cases he'
      simp only [VR] at e1
      exact wp_of_run (by simp [execOp, ho, resolve, hb, hxs, hty, invoke, builtin, Builtin.clear_, u1, e1]; rfl) (hk _ w ρ (Ext.refl hr) VR.undef)
    · clear he
      subst hveq
      obtain ⟨hes, hA⟩ := bt_none he'
      clear he'
      have hes := Nat.eq_of_beq_eq_true hes
      subst hes
      simp only [VR] at e1
      obtain ⟨p, oo, cp, hp, e1, hle, hcap, hor⟩ := e1
      by_cases hz0 : Nat.beq len 0 = true
      · rw [hz0, bt_true] at hA; cases hA
        have hz0 := Nat.eq_of_beq_eq_true hz0
        subst hz0
        exact wp_of_run (by simp [execOp, ho, resolve, hb, hxs, hty, invoke, builtin, Builtin.clear_, u1, e1]; rfl) (hk _ w ρ (Ext.refl hr) VR.undef)
      · rw [Bool.not_eq_true] at hz0
        rw [hz0, bt_false, forceL_eq] at hA
        have hz0 := Nat.ne_of_beq_eq_false hz0
        obtain ⟨et, m, cs, hb', h1, hn', hA3⟩ := wCells_some hA
        cases hA3
        obtain ⟨rfl, _⟩ := hor.resolve_left (by omega)
        have hrep := repR hzr len
        obtain ⟨w', hw', hext, _⟩ := write_ok (P := E.P) hr hb' hp hrep h1 hn' (a := ⟨p.blk, p.disp + off, none⟩) rfl
        refine wp_of_run ?_ (hk _ w' ρ hext VR.undef)
        obtain ⟨len', rfl⟩ : ∃ k, len = k + 1 := ⟨len - 1, by omega⟩
        have hzl : zv.cells.size = z.length := by rw [← hzr.length]; simp
        simp only [execOp, ho, resolve, hb, hxs, invoke, builtin, Builtin.clear_]
        simp [hty, u1, e1, run_zero hi hzv, Builtin.zeroCells, hzl]
        simp [hzl] at hw'
        rw [hw']
        rfl
  · cases h

theorem liesAt_bytesOff {P : Program} {e : TypeId} (hc : P.cellsOf e = 1) (count off n : Nat) (hn : off + n ≤ count) : liesAt P P.depth e count off e n = true := by
  have hd : P.depth = (2 * (P.types.size + Made.depth) + 1) + 1 := rfl
  rw [hd]
  simp only [liesAt, Bool.or_eq_true]
  left
  rw [hd]
  simp [rowAt, hc, hn, sameLayout, Nat.mod_one]

theorem run_unsafeString_nil0 {P : Program} (w : World) (pt it ty : TypeId) (k : IntKind) : (Builtin.unsafeString_ #[pt, it] ty #[.pointer none, .int k 0]).run P w = .ok (.string .empty) w := by
  have hdef : Builtin.unsafeString_ #[pt, it] ty #[.pointer none, .int k 0] =
      (do
        let n ← asInt (.int k 0)
        if n < 0 then runtimePanic (.error "unsafe.String: len out of range")
        if n > IntKind.i64.max then unsupported (.unsafePointer "String: a length above the largest int")
        if n = 0 then pure (.string .empty)
        else runtimePanic (.error "unsafe.String: ptr is nil and len is not zero")) := rfl
  rw [hdef]
  have hmax : IntKind.i64.max = 9223372036854775807 := rfl
  simp [asInt, asIntOf, hmax]

theorem run_unsafeString_at {P : Program} (w : World) (pt it ty e : TypeId) (hp : P.underlying pt = some (.pointer e)) (hc : P.cellsOf e = 1) (g off cells : Nat) (hsh : w.shape? g = some (e, cells)) (l : List UInt8) (h0 : l ≠ []) (hn : off + l.length ≤ cells) (h63 : l.length ≤ 9223372036854775807)
    (hcell : ∀ j x, l[j]? = some x → w.cell? ((⟨g, off, none⟩ : Addr).add j) = some (.int .u8 x.toNat)) (k : IntKind) :
    (Builtin.unsafeString_ #[pt, it] ty #[.pointer (some ⟨g, off, none⟩), .int k l.length]).run P w = .ok (.string ⟨l.toArray⟩) (w.freeze ⟨g, off, none⟩ l.length) := by
  have hl : l.length ≠ 0 := by simpa using h0
  have hlb := Lib.run_loadBytes (P := P) w l ⟨g, off, none⟩ .empty hcell
  have hlies := liesAt_bytesOff (P := P) hc (cells / P.cellsOf e) off l.length (by rw [hc]; simpa using hn)
  have h63' : ¬ (9223372036854775807 : Int) < (l.length : Int) := by omega
  have hdef : Builtin.unsafeString_ #[pt, it] ty #[.pointer (some ⟨g, off, none⟩), .int k l.length] =
      (do
        let n ← asInt (.int k l.length)
        if n < 0 then runtimePanic (.error "unsafe.String: len out of range")
        if n > IntKind.i64.max then unsupported (.unsafePointer "String: a length above the largest int")
        if n = 0 then pure (.string .empty)
        else if ← variablesAt ⟨g, off, none⟩ (← elemOf pt) n.toNat then do
          let s ← loadBytes ⟨g, off, none⟩ .empty n.toNat
          freeze ⟨g, off, none⟩ n.toNat
          pure (.string s)
        else unsupported (.unsafePointer "String: not so many bytes at ptr")) := rfl
  rw [hdef]
  have hmax : IntKind.i64.max = 9223372036854775807 := rfl
  have hneg : ¬ (l.length : Int) < 0 := by omega
  simp [asInt, asIntOf, hmax, h63', hneg, hl, variablesAt, hsh, elemOf, run_underlying hp, hlies, hlb]

/-- a string's bytes taken over from a row: the row is dead behind it -/
noncomputable def lUnsafeString (E : Env) (ts : Array TypeId) (args : Array Operand) : Option LoudF :=
  match args.toList, ts.toList with
  | [x, y], [pt, _] => ob (cX x) fun cx => ob (cX y) fun cy => ob (E.under pt) fun td => match td with
    | .pointer e => ob (E.info e) fun i => bt (Nat.beq i.size 1) (some fun _ tm h nx => ob (cx.ev tm) fun xv => ob (cy.ev tm) fun yv => yv.onInt none fun _ k => natI k none fun n =>
        xv.onPtr (ob (nilP xv) fun z => bt (bt z (Nat.beq n 0) false) (some (.str 0 0, h, nx)) none) fun b off => ob (h.get b) fun o => onCells o none fun et m cs =>
          bt (bt (Nat.beq et e) (bt (Nat.blt 0 n) (bt (Nat.ble n (nat_lit 1099511627776)) (Nat.ble (Nat.add off n) m) false) false) false) (ob (packN cs n off) fun bits => setH b none h fun h => some (.str n bits, h, nx)) none) none
    | _ => none
  | _, _ => none

theorem lUnsafeString_ok {c : Call} {f : LoudF} (h : lUnsafeString E c.argTypes c.args = some f) (hb : c.callee = .builtin .unsafeString) (ho : o.op = .call c) : LoudOk E o f := by
  unfold lUnsafeString at h
  split at h <;> try (cases h; done)
  rename_i x y pt it hxs hts
  have hxs := two_args hxs
  have hts := two_args hts
  obtain ⟨cx, hcx, h⟩ := ob_eq h
  obtain ⟨cy, hcy, h⟩ := ob_eq h
  obtain ⟨td, htd, h⟩ := ob_eq h
  split at h <;> try (cases h; done)
  rename_i e
  obtain ⟨i, hi, h⟩ := ob_eq h
  obtain ⟨hsz, h⟩ := bt_none h
  have hsz := Nat.eq_of_beq_eq_true hsz
  cases h
  have hcell1 : E.P.cellsOf e = 1 := by simp [Program.cellsOf, E.ty_ok e i hi, hsz]
  intro rd B cf _ ρ tm a w H nx av h' nx' hB hr hg ht he next Q hk
  obtain ⟨xv, hxv, he⟩ := ob_eq he
  obtain ⟨yv, hyv, he⟩ := ob_eq he
  have e1 := cX_ok hcx ht hxv
  have e2 := cX_ok hcy ht hyv
  obtain ⟨kk, n0, hveq, he1⟩ := AV.onInt_some he
  clear he; subst hveq
  obtain ⟨n, hveq, he2⟩ := natI_some he1
  clear he1; subst hveq
  simp only [VR] at e2
  by_cases hptr : ∃ b off, xv = .ptr b off
  · obtain ⟨b, off, rfl⟩ := hptr
    have he2 : ob (H.get b) (fun o => onCells o none fun et m cs =>
          bt (bt (Nat.beq et e) (bt (Nat.blt 0 n) (bt (Nat.ble n (nat_lit 1099511627776)) (Nat.ble (Nat.add off n) m) false) false) false) (ob (packN cs n off) fun bits => setH b none H fun h => some (AV.str n bits, h, nx)) none) = some (av, h', nx') := he2
    obtain ⟨o', hob, he3⟩ := ob_eq he2
    clear he2
    obtain ⟨et, m, cs, hveq, he4⟩ := onCells_some he3
    clear he3; subst hveq
    obtain ⟨hc0, he5⟩ := bt_none he4
    clear he4
    obtain ⟨c1, hc0⟩ := bt_and' hc0
    obtain ⟨c2, hc0⟩ := bt_and' hc0
    obtain ⟨c3, c4⟩ := bt_and' hc0
    have c1 := Nat.eq_of_beq_eq_true c1
    subst c1
    have c2 := blt_lt c2
    have c3 : n ≤ 1099511627776 := Nat.le_of_ble_eq_true c3
    have c4 : off + n ≤ m := Nat.le_of_ble_eq_true c4
    obtain ⟨bits, hbits, he6⟩ := ob_eq he5
    clear he5
    rw [setH_eq] at he6
    cases he6
    obtain ⟨bs, b1, b2, b3⟩ := packN_ok _ _ _ _ hbits
    simp only [VR] at e1
    obtain ⟨p, hp, e1⟩ := e1
    obtain ⟨p', hp', hobj⟩ := hr.obj b _ hob
    rw [hp] at hp'; cases hp'
    obtain ⟨arr, lo, hi', q0, q1, q2, q3, q4, q5⟩ := hobj
    have hrun := run_unsafeString_at (P := E.P) w pt it o.type et (E.under_ok htd) hcell1 p.blk (p.disp + off) arr.size (by simp [World.shape?, q0]) bs (by intro hh; rw [hh] at b1; simp at b1; omega) (by rw [b1, q1]; omega) (by rw [b1]; omega) (fun j x hx => by
      obtain ⟨v, hv, hvr, _⟩ := q5 (off + j) _ (b3 j x hx)
      simp only [VR] at hvr
      rw [addr_add]
      simp only [World.cell?, q0]
      subst hvr
      simpa [Nat.add_assoc] using hv) kk
    rw [b1] at hrun
    have hn0 : ¬ n = 0 := by omega
    refine wp_of_run (v := .string ⟨bs.toArray⟩) (w' := w.freeze ⟨p.blk, p.disp + off, none⟩ n) ?_ (hk _ _ ρ (Ext.put hr (b := b) (by rw [hob]; rfl) hp (fun c hc => ?_) ⟨?_, ?_, ?_, ?_⟩ ?_ (x := none) (fun o ho => by cases ho) (fun y => ?_)) ⟨_, rfl, ?_⟩)
    · simp only [execOp, ho, resolve, hb, invoke, builtin]
      simp [hxs, hts, e1, e2, hrun]
    · simp [World.freeze, hn0, Array.getElem?_modify, Ne.symm hc]
    · simp [World.freeze, hn0]
    · simp [World.freeze, hn0]
    · simp [World.freeze, hn0]
    · simp [World.freeze, hn0]
    · simp [World.freeze, hn0]
    · rw [T.get_set]
      by_cases e : b = y
      · rw [if_pos e, if_pos e.symm]
      · rw [if_neg e, if_neg (Ne.symm e)]
    · refine ⟨?_, ?_⟩
      · show bs.toArray.size = n; simpa using b1
      · show pack bs.toArray.toList = bits; simpa using b2
  · have he2 : n = 0 ∧ (AV.str 0 0, H, nx) = (av, h', nx') ∧ xv = .nilptr := by
      have he2 : ob (nilP xv) (fun z => bt (bt z (Nat.beq n 0) false) (some (AV.str 0 0, H, nx)) none) = some (av, h', nx') := by
        cases xv <;> first | exact he2 | exact absurd ⟨_, _, rfl⟩ hptr
      obtain ⟨z, hz, he3⟩ := ob_eq he2
      obtain ⟨hz2, he4⟩ := bt_none he3
      obtain ⟨hz3, hz4⟩ := bt_and' hz2
      subst hz3
      refine ⟨Nat.eq_of_beq_eq_true hz4, Option.some.inj he4, ?_⟩
      cases xv <;> first | rfl | (exfalso; revert hz; simp [nilP])
    obtain ⟨rfl, heq, rfl⟩ := he2
    cases heq
    simp only [VR] at e1
    refine wp_of_run (v := .string .empty) (w' := w) ?_ (hk _ w ρ (Ext.refl hr) ⟨_, rfl, rfl, rfl⟩)
    have hrun := run_unsafeString_nil0 (P := E.P) w pt it o.type kk
    have e2 : a.eval y = .int kk 0 := e2
    simp only [execOp, ho, resolve, hb, invoke, builtin]
    simp [hxs, hts, e1, e2, hrun]

/-- a method of a type, where it takes the value as it stands -/
noncomputable def methodF (E : Env) (t : TypeId) (name : String) : Option Nat :=
  ob (E.info t) fun i => ob (i.methods.find? (·.name == name)) fun m => bt m.path.toList.isEmpty (ob m.func fun p => ob (E.under t) fun d => bt (match d with | .pointer _ => p.2 | _ => bt p.2 false true) (ob (E.fn.get p.1) fun _ => some p.1) none) none

theorem methodF_ok {t : TypeId} {name : String} {g : Nat} (hm : methodF E t name = some g) (yv : Value) (args : Array Value) (w : World) : (callMethod (.iface t yv) name args).run E.P w = .ok (.enter g (#[yv] ++ args)) w := by
  obtain ⟨i, hi, hm⟩ := ob_eq hm
  obtain ⟨m, hfind, hm⟩ := ob_eq hm
  obtain ⟨hpath, hm⟩ := bt_none hm
  obtain ⟨fp, hfp, hm⟩ := ob_eq hm
  obtain ⟨d, hd, hm⟩ := ob_eq hm
  obtain ⟨hrecv, hm⟩ := bt_none hm
  obtain ⟨fd, hfd, hm⟩ := ob_eq hm
  cases hm
  obtain ⟨g, pr⟩ := fp
  have hp0 : m.path.toList = [] := by simpa using hpath
  have hp1 : m.path = #[] := by simpa using hp0
  have hmeth : ∀ n, (method (n + 1) t yv name).run E.P w = .ok (g, yv) w := by
    intro n
    have ud := run_under hd
    have hat : (receiverAt t (.val yv) pr (if m.path.isEmpty then some ((name.splitOn ".").getLastD name) else none)).run E.P w = .ok yv w := by
      cases d <;> cases pr <;> simp at hrecv <;> simp [receiverAt, ud, Place.get]
    rw [hp1] at hat
    simp at hat
    simp [method, run_info hi, hfind, hp1, follow, hfp, hat]
  have hdep : ∃ n, E.P.types.size + Made.depth = n + 1 := ⟨E.P.types.size + 99, by simp [Made.depth]⟩
  obtain ⟨n, hn⟩ := hdep
  have hfd : E.fn.get g = some fd := hfd
  simp only [callMethod]
  simp only [Sem.run_bind, run_program, Result.andThen_ok, hn, hmeth]
  exact E.call_ok g fd hfd _ _

/-- a call by name -/
noncomputable def lCall (E : Env) (c : Call) : Option LoudF :=
  match c.callee with
  | .value (.func f) => ob (E.fn.get f) fun _ => ob (cXs c.args.toList) fun cs => some fun cf tm h nx => ob (evs cs tm) fun l => cf (.fn f) l h nx
  | .value x => ob (cX x) fun cx => ob (cXs c.args.toList) fun cs => some fun cf tm h nx => ob (cx.ev tm) fun v => ob (evs cs tm) fun l => v.onFunc none fun fn first cap =>
      Fn.rec (motive := fun _ => Option (AV × T AObj × Nat)) (fun f => ob (E.fn.get f) fun _ => forceL (appF first (appF l cap)) fun l => cf (.fn f) l h nx)
        (fun name => bt (Nat.beq (lenL cap) 0) (List.rec (motive := fun _ => Option (AV × T AObj × Nat)) none (fun v r _ => v.onIface none fun t y => ob (methodF E t name) fun f => cf (.fn f) (y :: r) h nx) (appF first l)) none) (fun _ _ => none) (fun _ _ _ _ => none) (fun b => bt (Nat.beq (Nat.add (lenL first) (lenL cap)) 0) (cf (.yield b) l h nx) none) fn
  | .invoke x name => ob (cX x) fun cx => ob (cXs c.args.toList) fun cs => some fun cf tm h nx => ob (cx.ev tm) fun v => ob (evs cs tm) fun l => v.onIface none fun t y => ob (methodF E t name) fun f => cf (.fn f) (y :: l) h nx
  | _ => none

theorem lCall_ok {c : Call} {f : LoudF} (h : lCall E c = some f) (ho : o.op = .call c) : LoudOk E o f := by
  unfold lCall at h
  intro rd B cf hcf ρ tm a w H nx av h' nx' hB hr hg ht he next Q hk
  have fin : ∀ (g : Nat) (l : List AV) (vargs : Array Value), VRs ρ l vargs.toList → cf (.fn g) l H nx = some (av, h', nx') → (execOp a.eval o).run E.P w = .ok (.enter g vargs) w → o.wpIn (Fr rd) 0 E.P a w next Q := by
    intro g l vargs hl hcall hrun
    refine wp_of_enter hrun (hcf.fn g l H nx av h' nx' hcall ρ w vargs hB hr hg hl) (fun e w' hR => ?_)
    obtain ⟨v, ρ', rfl, hext, hv⟩ := hR
    exact ⟨v, rfl, hk v w' ρ' hext hv⟩
  split at h
  · rename_i g hcal
    obtain ⟨fd, hfd, h⟩ := ob_eq h
    obtain ⟨cs, hcs, h⟩ := ob_eq h
    cases h
    obtain ⟨l, hl, he⟩ := ob_eq he
    have hvl := cXs_ok ht hcs hl
    exact fin g l (c.args.map a.eval) (by simpa using hvl) he (by simp [execOp, ho, resolve, hcal, Act.eval, Deferred.ofValue, invoke, E.call_ok g fd hfd])
  · rename_i x hne hcal
    obtain ⟨cx, hcx, h⟩ := ob_eq h
    obtain ⟨cs, hcs, h⟩ := ob_eq h
    cases h
    obtain ⟨v, hv, he⟩ := ob_eq he
    obtain ⟨l, hl, he⟩ := ob_eq he
    have e1 := cX_ok hcx ht hv
    have hvl := cXs_ok ht hcs hl
    obtain ⟨fn, first, cap, hveq, he'⟩ := AV.onFunc_some he
    clear he
    subst hveq
    simp only [VR] at e1
    obtain ⟨fn', vf, vc, e1, hfn, hf1, hc1⟩ := e1
    cases fn with
    | yield b =>
      obtain ⟨p, hp, rfl⟩ := hfn
      dsimp only at he'
      obtain ⟨hz, hyc⟩ := bt_none he'
      have hz := Nat.eq_of_beq_eq_true hz
      have hz : lenL first + lenL cap = 0 := hz
      rw [lenL_eq, lenL_eq] at hz
      have hz1 : first = [] := List.length_eq_zero_iff.1 (by omega)
      have hz2 : cap = [] := List.length_eq_zero_iff.1 (by omega)
      subst hz1 hz2
      rw [VRs.nil_iff] at hf1 hc1
      have hf1 : vf = #[] := by simpa using hf1
      have hc1 : vc = #[] := by simpa using hc1
      subst hf1 hc1
      obtain ⟨r, hr1, hr2, hr3⟩ := hcf.yield b l H nx av h' nx' hyc ρ w (c.args.map a.eval) p hB hr hg (by simpa using hvl) hp
      refine wp_of_round (l := p.blk) (f := r.fn) (tmps := roundTmps r (c.args.map a.eval)) (assign := r.assign) (body := r.body) ?_ hr3 (fun e w' hR => ?_)
      · have hy := run_yield (P := E.P) hr1 hr2
        simp [execOp, ho, resolve, hcal, e1, Deferred.ofValue, invoke]
        exact hy
      · obtain ⟨v, ρ', rfl, hext, hv⟩ := hR
        exact ⟨v, rfl, hk v w' ρ' hext hv⟩
    | method name =>
      cases hfn
      dsimp only at he'
      obtain ⟨hz, hmc⟩ := bt_none he'
      clear he'
      have hz := Nat.eq_of_beq_eq_true hz
      rw [lenL_eq] at hz
      have hz2 : cap = [] := List.length_eq_zero_iff.1 hz
      subst hz2
      rw [VRs.nil_iff] at hc1
      have hc1 : vc = #[] := by simpa using hc1
      subst hc1
      rw [appF_eq] at hmc
      have hall := hf1.append hvl
      cases hfl : first ++ l with
      | nil => rw [hfl] at hmc; cases hmc
      | cons v r =>
        rw [hfl] at hmc hall
        obtain ⟨t, y, hveq, hmc2⟩ := AV.onIface_some hmc
        clear hmc
        subst hveq
        obtain ⟨g, hm, hmc3⟩ := ob_eq hmc2
        clear hmc2
        obtain ⟨x0, xs, hx0, hx1, hx2⟩ := VRs.cons_iff.1 hall
        simp only [VR] at hx1
        obtain ⟨yv, rfl, hy⟩ := hx1
        have harr : vf ++ c.args.map a.eval = #[.iface t yv] ++ xs.toArray := by
          apply Array.ext'
          simpa using hx0
        refine fin g (y :: r) (#[yv] ++ xs.toArray) (by simpa using VRs.cons hy hx2) hmc3 ?_
        have h0 : (#[Value.iface t yv] ++ xs.toArray)[0]? = some (.iface t yv) := by rw [Array.getElem?_append_left (by simp)]; rfl
        have h1 : (#[Value.iface t yv] ++ xs.toArray).extract 1 (#[Value.iface t yv] ++ xs.toArray).size = xs.toArray := by
          apply Array.ext'; simp
        simp only [execOp, ho, resolve, hcal, e1, Deferred.ofValue, pure_bind, invoke, harr, h0, h1]
        exact methodF_ok hm yv _ w
    | func g =>
      cases hfn
      dsimp only at he'
      obtain ⟨fd, hfd, he⟩ := ob_eq he'
      rw [forceL_eq, appF_eq, appF_eq] at he
      exact fin g _ (vf ++ c.args.map a.eval ++ vc) (by simpa using hf1.append (hvl.append hc1)) he (by simp [execOp, ho, resolve, hcal, e1, Deferred.ofValue, invoke, E.call_ok g fd hfd])
    | _ => cases he'
  · rename_i x name hcal
    obtain ⟨cx, hcx, h⟩ := ob_eq h
    obtain ⟨cs, hcs, h⟩ := ob_eq h
    cases h
    obtain ⟨v, hv, he⟩ := ob_eq he
    obtain ⟨l, hl, he⟩ := ob_eq he
    have e1 := cX_ok hcx ht hv
    have hvl := cXs_ok ht hcs hl
    obtain ⟨t, y, hveq, he'⟩ := AV.onIface_some he
    clear he
    subst hveq
    simp only [VR] at e1
    obtain ⟨yv, e1, hy⟩ := e1
    obtain ⟨g, hm, he⟩ := ob_eq he'
    have h0 : (#[Value.iface t yv] ++ c.args.map a.eval)[0]? = some (.iface t yv) := by rw [Array.getElem?_append_left (by simp)]; rfl
    have h1 : (#[Value.iface t yv] ++ c.args.map a.eval).extract 1 (#[Value.iface t yv] ++ c.args.map a.eval).size = c.args.map a.eval := by
      apply Array.ext'; simp
      exact List.take_of_length_le (by simp)
    refine fin g (y :: l) (#[yv] ++ c.args.map a.eval) (by simpa using VRs.cons hy hvl) he ?_
    simp only [execOp, ho, resolve, hcal, e1, invoke, pure_bind, h0, h1]
    exact methodF_ok hm yv _ w
  · cases h

noncomputable def cLoud (E : Env) (o : Oper) : Option LoudF :=
  match o.op with
  | .store t x y => lStore E t x y
  | .mapUpdate t m k x => lMapSet E t m k x
  | .insert t m k x => lMapSet E t m k x
  | .mapEntry t m k => lMapEntry E t m k
  | .entryStore _ m s x => lEntryStore m s x
  | .next x s => Option.rec (motive := fun _ => Option LoudF) (lNextM x s) some (lNext x s)
  | .range t x => lRange E t x
  | .call c => match c.callee with
    | .builtin .append => lAppend E c.argTypes c.args
    | .builtin .copy => lCopy E c.argTypes c.args
    | .builtin .clear => lClear E c.argTypes c.args
    | .builtin .unsafeString => lUnsafeString E c.argTypes c.args
    | .builtin _ => none
    | _ => lCall E c
  | _ => none
theorem cLoud_ok {f : LoudF} (h : cLoud E o = some f) : LoudOk E o f := by
  unfold cLoud at h
  split at h <;> rename_i ho
  · exact lStore_ok h ho
  · exact lMapSet_ok h (.inl ho)
  · exact lMapSet_ok h (.inr ho)
  · exact lMapEntry_ok h ho
  · exact lEntryStore_ok h ho
  · rename_i x s
    cases hn : lNext x s with
    | some g => rw [hn] at h; cases h; exact lNext_ok hn ho
    | none => rw [hn] at h; exact lNextM_ok h ho
  · exact lRange_ok h ho
  · split at h <;> rename_i hc
    · exact lAppend_ok h hc ho
    · exact lCopy_ok h hc ho
    · exact lClear_ok h hc ho
    · exact lUnsafeString_ok h hc ho
    · cases h
    · exact lCall_ok h ho
  · cases h
end
end Go.Vm
