/- The abstract machine: code, functions, calls, environments, outcomes written out, functions with laws of their own. -/
import Derived.Test.YtjdjdlbhaphiiaaGreatDoorVc
import Derived.RangeFuncRecord
import Derived.Laws.Sem
import Derived.RangeFuncLeaves
import Derived.Below
import Derived.Lib.Repeat
import Derived.Lib.Bytealg
set_option linter.unusedVariables false
set_option linter.unusedSimpArgs false
namespace Go.Vm

inductive XK where
  | normal
  | exit (id : Nat)
  | ret

def XK.to : XK → Exit
  | .normal => .normal
  | .exit id => .exit id
  | .ret => .ret

abbrev OutT := XK × T AV × T AObj × Nat
abbrev RunF := CF → T AV → T AObj → Nat → Option OutT

def RunOk (E : Env) (N : Nat) (ir : Bool) (c : Code) (f : RunF) : Prop :=
  ∀ (rd : Option Nat), (ir = false → rd = none) → ∀ (B L : Nat) (cf : CF), CfOk E B cf → ∀ (ρ : Ren) (tm : T AV) (h : T AObj) (nx : Nat) (a : Act) (w : World) (x : XK) (tm' : T AV) (h' : T AObj) (nx' : Nat),
    St E B L ρ tm h.get nx N a w → f cf tm h nx = some (x, tm', h', nx') → ∀ (Q : Exit → Act → World → Prop),
      (∀ a' w' ρ', Ext B ρ h.get nx w ρ' h'.get nx' w' → St E B L ρ' tm' h'.get nx' N a' w' → Q x.to a' w') → c.wpIn (Fr rd) 0 E.P Q a w

/-- what follows a normal end -/
noncomputable def andThen (o : Option OutT) (k : T AV → T AObj → Nat → Option OutT) : Option OutT :=
  ob o fun r => Prod.rec (motive := fun _ => Option OutT) (fun x s => Prod.rec (motive := fun _ => Option OutT) (fun tm s => Prod.rec (motive := fun _ => Option OutT) (fun h nx =>
    XK.rec (motive := fun _ => Option OutT) (k tm h nx) (fun id => some (.exit id, tm, h, nx)) (some (.ret, tm, h, nx)) x) s) s) r
theorem andThen_some {o : Option OutT} {k : T AV → T AObj → Nat → Option OutT} {r : OutT} (h : andThen o k = some r) :
    (∃ tm h nx, o = some (.normal, tm, h, nx) ∧ k tm h nx = some r) ∨ (o = some r ∧ r.1 ≠ .normal) := by
  obtain ⟨⟨x, tm, hp, nx⟩, ho, h⟩ := ob_eq h
  cases x with
  | normal => exact .inl ⟨tm, hp, nx, ho, h⟩
  | exit id => injection h with h; subst h; exact .inr ⟨ho, by simp⟩
  | ret => injection h with h; subst h; exact .inr ⟨ho, by simp⟩

/-- a block's end -/
noncomputable def outOf (id : Nat) (o : Option OutT) : Option OutT :=
  ob o fun r => Prod.rec (motive := fun _ => Option OutT) (fun x s =>
    XK.rec (motive := fun _ => Option OutT) (some (.normal, s)) (fun id' => bt (Nat.beq id' id) (some (.normal, s)) (some (.exit id', s))) (some (.ret, s)) x) r
theorem outOf_some {id : Nat} {o : Option OutT} {r : OutT} (h : outOf id o = some r) : ∃ x, o = some (x, r.2) ∧ ((x = .normal ∧ r.1 = .normal) ∨ (x = .exit id ∧ r.1 = .normal) ∨ (∃ id', x = .exit id' ∧ id' ≠ id ∧ r.1 = .exit id') ∨ (x = .ret ∧ r.1 = .ret)) := by
  obtain ⟨⟨x, s⟩, ho, h⟩ := ob_eq h
  cases x with
  | normal => injection h with h; subst h; exact ⟨_, ho, .inl ⟨rfl, rfl⟩⟩
  | exit id' =>
    have h : bt (Nat.beq id' id) (some (.normal, s)) (some (.exit id', s)) = some r := h
    cases hb : Nat.beq id' id with
    | true =>
      rw [hb] at h; injection h with h; subst h
      have := Nat.eq_of_beq_eq_true hb
      subst this
      exact ⟨_, ho, .inr (.inl ⟨rfl, rfl⟩)⟩
    | false =>
      rw [hb] at h; injection h with h; subst h
      exact ⟨_, ho, .inr (.inr (.inl ⟨id', rfl, Nat.ne_of_beq_eq_false hb, rfl⟩))⟩
  | ret => injection h with h; subst h; exact ⟨_, ho, .inr (.inr (.inr ⟨rfl, rfl⟩))⟩

noncomputable def runLoop (f : RunF) (cf : CF) (fuel : Nat) : T AV → T AObj → Nat → Option OutT :=
  Nat.rec (motive := fun _ => T AV → T AObj → Nat → Option OutT) (fun _ _ _ => none) (fun _ ih tm h nx => andThen (f cf tm h nx) ih) fuel

noncomputable def toNormal (o : Option (T AV × T AObj × Nat)) : Option OutT := ob o fun r => some (.normal, r)

noncomputable def rSeq (l : List Ins) : RunF := fun cf tm h nx => toNormal (runSeq cf l tm h nx)
noncomputable def rAny (l : List PI) : RunF := fun cf tm h nx => toNormal (runAny cf l tm h nx)

/-- a region's tree of orders, by its first operation's place -/
noncomputable def treeOf (E : Env) (ops : Array Oper) : Option (OT × List Nat) :=
  List.rec (motive := fun _ => Option (OT × List Nat)) none (fun o _ _ => List.rec (motive := fun _ => Option (OT × List Nat)) none (fun e _ ih => bt (Nat.beq e.2.1 (lenL ops.toList)) (bt (o.pos == e.1) (some e.2.2) ih) ih) E.tree) ops.toList

/-- what is not covered: it may be there, if it is never reached -/
noncomputable def stopF : RunF := fun _ _ _ _ => none
noncomputable def orStop (o : Option RunF) : Option RunF := Option.rec (motive := fun _ => Option RunF) (some stopF) some o
theorem stopF_ok {E : Env} {N : Nat} {ir : Bool} {c : Code} : RunOk E N ir c stopF := by
  intro rd _ B L cf _ ρ tm hp nx a w x tm' h' nx' _ he
  cases he
theorem orStop_some {o : Option RunF} {f : RunF} (h : orStop o = some f) : f = stopF ∨ o = some f := by
  cases o with
  | none => cases h; exact .inl rfl
  | some g => exact .inr h

/-- a loop's record -/
noncomputable def onLoop {β : Type} (x : AObj) (z : β) (k : Nat → T AV → List Nat → Code → Code → LSt → β) : β := AObj.rec (motive := fun _ => β) (fun _ _ _ => z) (fun _ => z) (fun _ _ _ => z) (fun _ _ _ => z) k (fun _ _ _ => z) (fun _ _ _ => z) x
theorem onLoop_some {β : Type} {x : AObj} {k : Nat → T AV → List Nat → Code → Code → LSt → Option β} {r : β} (h : onLoop x none k = some r) : ∃ N tm ps a b st, x = .loop N tm ps a b st ∧ k N tm ps a b st = some r := by
  cases x <;> first | exact ⟨_, _, _, _, _, _, rfl, h⟩ | cases h

/-- behind a loop over a function -/
noncomputable def endF (b : Nat) (tm : T AV) (h : T AObj) (nx : Nat) : Option OutT :=
  ob (h.get b) fun o => onLoop o none fun _ _ _ _ _ st => LSt.rec (motive := fun _ => Option OutT) (setH b none h fun h => some (.normal, tm, h, nx)) none (setH b none h fun h => some (.ret, tm, h, nx)) (fun id => setH b none h fun h => some (.exit id, tm, h, nx)) st

/-- a loop over a function -/
noncomputable def rRange (E : Env) (N : Nat) (g : Operand) (ps : Array Tmp) (assign body : Code) : Option RunF :=
  ob (cX g) fun cx => some fun cf tm h nx => ob (cx.ev tm) fun v => v.onFunc none fun fn first cap =>
    Fn.rec (motive := fun _ => Option OutT) (fun f => ob (E.fn.get f) fun _ => forceN (Nat.succ nx) fun nx1 => setH nx (some (.loop N tm ps.toList assign body .ready)) h fun h1 =>
      forceL (appF first (appF [.func (.yield nx) [] []] cap)) fun l => ob (cf (.fn f) l h1 nx1) fun r => endF nx tm r.2.1 r.2.2) (fun _ => none) (fun _ _ => none) (fun _ _ _ _ => none) (fun _ => none) fn

/-! ### Loops that look for an entry of a map -/
/-- the iterator that a loop asks first -/
noncomputable def searchX (c : Code) : Option Operand :=
  match c with
  | .seq (.region _ ops false) _ => (match ops.toList with
    | o :: _ => (match o.op, o.guard with
      | .next x false, none => some x
      | _, _ => none)
    | [] => none)
  | _ => none
noncomputable def quiet (b m k n : Nat) (tm : T AV) (h : T AObj) (r : T AV × T AObj × Nat) : Bool :=
  bt (subT (avEqN 6) tm r.1) (setH b none h fun h0 => bt (subT objSub h0 r.2.1) (Option.rec (motive := fun _ => Bool) false (fun o => onMAt o false fun m' k' n' => bt (Nat.beq m' m) (bt (Nat.beq k' k) (Nat.beq n' n) false) false) (r.2.1.get b)) false) false
noncomputable def srch (f : RunF) (cf : CF) (tm : T AV) (h : T AObj) (nx b m n : Nat) (es : List (AV × AV)) : Nat → Option OutT → Option OutT :=
  List.rec (motive := fun _ => Nat → Option OutT → Option OutT) (fun _ acc => acc) (fun _ _ ih k acc => setH b (some (.mnext m k n)) h fun hk => ob (f cf tm hk nx) fun r =>
    XK.rec (motive := fun _ => Option OutT) (bt (quiet b m k n tm h r.2) (forceN (Nat.succ k) fun k => ih k acc) none) (fun _ => Option.rec (motive := fun _ => Option OutT) (forceN (Nat.succ k) fun k => ih k (some r)) (fun _ => none) acc)
      (Option.rec (motive := fun _ => Option OutT) (forceN (Nat.succ k) fun k => ih k (some r)) (fun _ => none) acc) r.1) es
noncomputable def rSearch (c : CX) (f : RunF) (cf : CF) (tm : T AV) (h : T AObj) (nx : Nat) : Option OutT :=
  ob (c.ev tm) fun v => v.onPtr none fun b off => bt (Nat.beq off 0) (ob (h.get b) fun o => onMIter o none fun m since seen => bt seen none (ob m fun m => ob (h.get m) fun q => onMapO q none fun es => bt (Nat.blt 1 (lenL es))
    (bt (Nat.blt (lenL es) 1000000) (bt (Nat.beq since (lenL es)) (bt (Nat.beq m b) none (ob (srch f cf tm h nx b m since es 0 none) fun r => setH b none r.2.2.1 fun h => some (r.1, r.2.1, h, r.2.2.2))) none) none) none)) none
noncomputable def loopF (s : Option Operand) (f : RunF) : RunF :=
  Option.rec (motive := fun _ => RunF) (fun cf tm h nx => runLoop f cf 1000000000 tm h nx)
    (fun x => Option.rec (motive := fun _ => RunF) (fun cf tm h nx => runLoop f cf 1000000000 tm h nx) (fun c cf tm h nx => Option.rec (motive := fun _ => Option OutT) (runLoop f cf 1000000000 tm h nx) some (rSearch c f cf tm h nx)) (cX x)) s

noncomputable def cCode (E : Env) (N : Nat) (ir : Bool) (c : Code) : Option RunF :=
  Code.rec (motive := fun _ => Option RunF)
    (some fun _ tm h nx => some (.normal, tm, h, nx))
    (fun _ ops draw => bt draw (orStop (Option.rec (motive := fun _ => Option RunF) (ob (treeOf E ops) fun t => some fun cf tm h nx => toNormal (rTree E ops N t.1 t.2 cf tm h nx)) (fun l => some (rAny l)) (cAny E ops N))) (orStop (ob (cSeq E ops N ops.toList) fun l => some (rSeq l))))
    (fun _ _ fa fb => ob fa fun fa => ob fb fun fb => some fun cf tm h nx => andThen (fa cf tm h nx) fun tm h nx => fb cf tm h nx)
    (fun x _ _ fa fb => ob (cX x) fun cx => ob fa fun fa => ob fb fun fb => some fun cf tm h nx => ob (cx.ev tm) fun v => v.onBool none fun b => bt b (fa cf tm h nx) (fb cf tm h nx))
    (fun id _ f => ob f fun f => some fun cf tm h nx => outOf id (f cf tm h nx))
    (fun c f => ob f fun f => some (loopF (searchX c) f))
    (fun g ps a b _ _ => bt ir (some stopF) (orStop (rRange E N g ps a b)))
    (fun id => some fun _ tm h nx => some (.exit id, tm, h, nx))
    (fun _ _ => some stopF)
    (fun _ => some fun _ tm h nx => some (.normal, tm, h, nx))
    (fun _ => some stopF)
    (some fun _ tm h nx => some (.ret, tm, h, nx))
    (fun _ => some stopF) c

theorem endF_some {b : Nat} {tm : T AV} {h : T AObj} {nx : Nat} {r : OutT} (e : endF b tm h nx = some r) :
    ∃ N tm0 ps asg body st x, h.get b = some (.loop N tm0 ps asg body st) ∧ r = (x, tm, T.set none b h, nx) ∧ ((st = .ready ∧ x = .normal) ∨ (st = .ret ∧ x = .ret) ∨ ∃ id, st = .exit id ∧ x = .exit id) := by
  obtain ⟨o, ho, e⟩ := ob_eq e
  obtain ⟨N, tm0, ps, asg, body, st, rfl, e⟩ := onLoop_some e
  cases st with
  | ready => simp only [setH_eq] at e; cases e; exact ⟨_, _, _, _, _, _, _, ho, rfl, .inl ⟨rfl, rfl⟩⟩
  | busy => cases e
  | ret => simp only [setH_eq] at e; cases e; exact ⟨_, _, _, _, _, _, _, ho, rfl, .inr (.inl ⟨rfl, rfl⟩)⟩
  | exit id => simp only [setH_eq] at e; cases e; exact ⟨_, _, _, _, _, _, _, ho, rfl, .inr (.inr ⟨id, rfl, rfl⟩)⟩

/-- a block beside -/
theorem Ext.extra {B : Nat} {ρ : Ren} {h : Heap} {nx : Nat} {w : World} (k : HR B ρ h nx w) (o : Obj) : Ext B ρ h nx w ρ h nx (w.alloc o) where
  le := Ren.le_refl _
  old := fun _ _ => rfl
  at_ := fun b m c n e => .inr ⟨e, fun p hp => by
    have := (k.low b p hp).2
    show (w.heap.push o)[p.blk]? = _; rw [Array.getElem?_push, if_neg (by omega)]⟩
  nx := Nat.le_refl _
  hr := ⟨k.fresh, fun b p hp => ⟨(k.low b p hp).1, by have := (k.low b p hp).2; simp; omega⟩, fun b x hb => by
    obtain ⟨p, hp, ho⟩ := k.obj b x hb
    refine ⟨p, hp, ?_⟩
    have hlt := (k.low b p hp).2
    have : (w.alloc o).heap[p.blk]? = w.heap[p.blk]? := by show (w.heap.push o)[p.blk]? = _; rw [Array.getElem?_push, if_neg (by omega)]
    rw [this]; exact ho, k.inj⟩
  own := fun _ h => .inr h
  keep := fun c hc _ => by show (w.heap.push o)[c]? = _; rw [Array.getElem?_push, if_neg (by omega)]
  same := ⟨rfl, rfl, rfl, by simp⟩

theorem HR.objAt {B : Nat} {ρ : Ren} {h : Heap} {nx : Nat} {w : World} (k : HR B ρ h nx w) {b : Nat} {o : AObj} {p : Place} (hb : h b = some o) (hp : ρ b = some p) : ObjR ρ o p w.heap[p.blk]? := by
  obtain ⟨q, hq, ho⟩ := k.obj b o hb
  rw [hp] at hq; cases hq; exact ho

theorem rRange_ok {E : Env} {N : Nat} {g : Operand} {ps : Array Tmp} {assign body : Code} {f : RunF} (h : rRange E N g ps assign body = some f) : RunOk E N false (.rangeFunc g ps assign body) f := by
  obtain ⟨cx, hcx, h⟩ := ob_eq h
  cases h
  intro rd hrd B L cf hcf ρ tm hp nx a w x tm' h' nx' hs he Q hk
  have hrd := hrd rfl
  subst hrd
  obtain ⟨v, hv, he⟩ := ob_eq he
  obtain ⟨fn, first, cap, hveq, he1⟩ := AV.onFunc_some he
  clear he
  subst hveq
  have hval := cX_ok hcx hs.tm hv
  simp only [VR] at hval
  obtain ⟨fn', vf, vc, e1, hfn, hf1, hc1⟩ := hval
  cases fn with
  | func gf =>
    cases hfn
    dsimp only at he1
    obtain ⟨fd, hfd, he2⟩ := ob_eq he1
    rw [forceN_eq, setH_eq, forceL_eq, appF_eq, appF_eq] at he2
    obtain ⟨⟨av, h2, nx2⟩, hcall, he3⟩ := ob_eq he2
    clear he1 he2
    dsimp only at he3
    obtain ⟨N2, tm2, ps2, asg2, body2, st, x2, hst, hre, hcase⟩ := endF_some he3
    cases hre
    clear he3
    refine wpIn_rangeFunc fun fn _ => ?_
    let rec0 : Loop := { state := .ready, pending := none, fn := fn, tmps := a.tmps, params := ps, assign := assign, body := body, defers := w.heap.size }
    obtain ⟨W0, hW0⟩ : ∃ W0, w.alloc (.deferred (some [])) = W0 := ⟨_, rfl⟩
    obtain ⟨W1, hW1⟩ : ∃ W1, W0.alloc (.loop rec0) = W1 := ⟨_, rfl⟩
    have hsz0 : W0.heap.size = w.heap.size + 1 := by rw [← hW0]; simp
    have x0 : Ext B ρ hp.get nx w ρ hp.get nx W0 := by rw [← hW0]; exact Ext.extra hs.hr _
    have hfr := x0.hr.fresh nx (Nat.le_refl _)
    have hps1 : W1.heap = W0.heap.push (.loop rec0) := by rw [← hW1]; rfl
    have x1 : Ext B ρ hp.get nx W0 (ρ.upd nx ⟨W0.heap.size, 0, 0⟩) (T.set (some (.loop N tm ps.toList assign body .ready)) nx hp).get (nx + 1) W1 := by
      refine Ext.new x0.hr hps1 (by have := hs.low; omega) (by rw [← hW1]; rfl) (by rw [← hW1]; rfl) (by rw [← hW1]; rfl) (x := .loop N tm ps.toList assign body .ready) ?_ (fun y => ?_)
      · exact ⟨rec0, rfl, hs.size, rfl, rfl, rfl, hs.tm.mono (Ren.le_upd hfr), rfl, rfl⟩
      · rw [T.get_set]
        by_cases e : nx = y
        · rw [if_pos e, if_pos e.symm]
        · rw [if_neg e, if_neg (Ne.symm e)]
    have x01 := x0.trans x1
    have hd1 : DefOk L (ρ.upd nx ⟨W0.heap.size, 0, 0⟩) (T.set (some (.loop N tm ps.toList assign body .ready)) nx hp).get W1 ({ target := .collected w.heap.size, args := #[] } :: a.defers) := by
      have hold := hs.defers.ext x01
      refine ⟨fun d hd => ?_, ?_, hold.2.2⟩
      · rcases List.mem_cons.1 hd with rfl | hd
        · refine ⟨_, rfl, hs.defers.2.2, by have := x1.same.size; omega, ?_, ?_⟩
          · rw [hps1, Array.getElem?_push, if_neg (by omega), ← hW0]
            exact World.alloc_heap_new w _
          · intro ⟨b, o, p, hb, hpb, hpq⟩
            unfold Ren.upd at hpb
            by_cases e : b = nx
            · rw [if_pos e] at hpb; cases hpb
              have hpq : W0.heap.size = w.heap.size := hpq
              omega
            · rw [if_neg e] at hpb
              have := (hs.hr.low b p hpb).2
              omega
        · exact hold.1 d hd
      · refine List.nodup_cons.2 ⟨fun hm => ?_, hold.2.1⟩
        obtain ⟨r, e, _, h1, _⟩ := hs.defers.1 _ hm
        have e := congrArg Deferred.target e
        simp only [Target.collected.injEq] at e
        omega
    have hargs : VRs (ρ.upd nx ⟨W0.heap.size, 0, 0⟩) (first ++ ([AV.func (.yield nx) [] []] ++ cap)) (vf ++ #[Value.func (.yield (w.heap.size + 1)) #[] #[]] ++ vc).toList := by
      have hl := x01.le
      simp only [Array.toList_append, List.append_assoc]
      refine (hf1.mono hl).append (VRs.append ?_ (hc1.mono hl))
      refine VRs.cons ⟨_, #[], #[], rfl, ⟨_, Ren.upd_same, ?_⟩, VRs.nil, VRs.nil⟩ VRs.nil
      rw [hsz0]
    have hc := hcf.fn gf _ _ _ av h2 nx' hcall _ W1 (vf ++ #[Value.func (.yield (w.heap.size + 1)) #[] #[]] ++ vc) (by have := hs.low; have := x01.same.size; omega) x01.hr (hs.gr.ext hs.hr x01) hargs
    refine ⟨w.heap.size + 1, [{ target := .collected w.heap.size, args := #[] }], W1, { target := .fn (.func gf) vc, args := vf ++ #[.func (.yield (w.heap.size + 1)) #[] #[]] }, W1, gf, vf ++ #[.func (.yield (w.heap.size + 1)) #[] #[]] ++ vc, W1, ?_, ?_, fun _ _ => trivial, ?_, fun hd => (by cases hd), ?_⟩
    · rw [← hW1, ← hW0]; exact run_enterLoop_outer (P := E.P) fn a.tmps ps assign body
    · simp only [resolve, e1]
      simp [Deferred.ofValue, Act.eval]
    · simp [invoke, E.call_ok gf fd hfd]
    · refine Calls.inFr (rd := none) (hc.mono ?_)
      rintro e w3 ⟨v3, ρ3, rfl, x3, hv3⟩
      have hnx : ρ3 nx = some ⟨W0.heap.size, 0, 0⟩ := by rw [x3.old nx (by omega)]; exact Ren.upd_same
      have hobj := x3.hr.objAt hst hnx
      obtain ⟨r, hr1, hr2, hr3, hr4, hr5, hr6, hr7⟩ := hobj
      have hr1 : w3.heap[w.heap.size + 1]? = some (.loop r) := by rw [← hsz0]; exact hr1
      have hbusy : r.state ≠ .busy := by
        rcases hcase with ⟨rfl, _⟩ | ⟨rfl, _⟩ | ⟨id, rfl, _⟩
        · rw [hr7.1]; exact fun h => by cases h
        · rw [hr7.1]; exact fun h => by cases h
        · rw [hr7.1]; exact fun h => by cases h
      have x4 : Ext B ρ3 h2.get nx' w3 ρ3 (T.set none nx h2).get nx' (w3.putObj (w.heap.size + 1) (.loop { r with state := .exhausted })) := by
        refine Ext.put x3.hr (b := nx) (by rw [hst]; rfl) hnx (fun c hc => ?_) ⟨rfl, rfl, rfl, by simp⟩ (by simp) (x := none) (fun o ho => by cases ho) (fun y => ?_)
        · exact World.putObj_heap_other (by rw [← hsz0]; exact hc)
        · rw [T.get_set]
          by_cases e : nx = y
          · rw [if_pos e, if_pos e.symm]
          · rw [if_neg e, if_neg (Ne.symm e)]
      have xx := x01.trans (x3.trans x4)
      have hst4 : St E B L ρ3 tm (T.set none nx h2).get nx' N { a with defers := { target := .collected w.heap.size, args := #[] } :: a.defers } (w3.putObj (w.heap.size + 1) (.loop { r with state := .exhausted })) :=
        ⟨Nat.le_trans hs.low xx.same.size, x4.hr, hs.gr.ext hs.hr xx, hs.tm.mono xx.le, hs.size, hd1.ext (x3.trans x4)⟩
      have hfin := hk _ _ ρ3 xx hst4
      have hend := run_endLoop (P := E.P) hr1 hbusy
      generalize w3.putObj (w.heap.size + 1) (.loop { r with state := .exhausted }) = W4 at hfin hend
      refine ⟨r.pending, W4, hend, ?_⟩
      rcases hcase with ⟨rfl, rfl⟩ | ⟨rfl, rfl⟩ | ⟨id, rfl, rfl⟩
      · rw [hr7.2]; exact hfin
      · rw [hr7.2]; exact wpIn_ret hfin
      · rw [hr7.2]; exact wpIn_exit hfin
  | _ => cases he1

/-! ### The law of such a loop -/
theorem srch_ok {f : RunF} {cf : CF} {tm : T AV} {h : T AObj} {nx b m n : Nat} {r : OutT} : ∀ {es : List (AV × AV)} {k : Nat} {acc : Option OutT}, srch f cf tm h nx b m n es k acc = some r →
    (acc = some r ∧ ∀ j, j < es.length → ∃ s, f cf tm (T.set (some (.mnext m (k + j) n)) b h) nx = some s ∧ s.1 = .normal ∧ quiet b m (k + j) n tm h s.2 = true) ∨
    (acc = none ∧ ∃ j0, j0 < es.length ∧ f cf tm (T.set (some (.mnext m (k + j0) n)) b h) nx = some r ∧ r.1 ≠ .normal ∧
      ∀ j, j < es.length → j ≠ j0 → ∃ s, f cf tm (T.set (some (.mnext m (k + j) n)) b h) nx = some s ∧ s.1 = .normal ∧ quiet b m (k + j) n tm h s.2 = true) := by
  intro es
  induction es with
  | nil => intro k acc h; exact .inl ⟨h, fun j hj => (by cases hj)⟩
  | cons e es ih =>
    intro k acc he
    have he : setH b (some (.mnext m k n)) h (fun hk => ob (f cf tm hk nx) fun r => XK.rec (motive := fun _ => Option OutT) (bt (quiet b m k n tm h r.2) (forceN (Nat.succ k) fun k => srch f cf tm h nx b m n es k acc) none)
      (fun _ => Option.rec (motive := fun _ => Option OutT) (forceN (Nat.succ k) fun k => srch f cf tm h nx b m n es k (some r)) (fun _ => none) acc) (Option.rec (motive := fun _ => Option OutT) (forceN (Nat.succ k) fun k => srch f cf tm h nx b m n es k (some r)) (fun _ => none) acc) r.1) = some r := he
    rw [setH_eq] at he
    obtain ⟨s, hs, he1⟩ := ob_eq he
    clear he
    obtain ⟨x, s1⟩ := s
    have hsh : ∀ j, k + 1 + j = k + (j + 1) := fun j => by omega
    have quietCase : x = .normal → quiet b m k n tm h s1 = true → srch f cf tm h nx b m n es (k + 1) acc = some r →
      ((acc = some r ∧ ∀ j, j < (e :: es).length → ∃ s, f cf tm (T.set (some (.mnext m (k + j) n)) b h) nx = some s ∧ s.1 = .normal ∧ quiet b m (k + j) n tm h s.2 = true) ∨
      (acc = none ∧ ∃ j0, j0 < (e :: es).length ∧ f cf tm (T.set (some (.mnext m (k + j0) n)) b h) nx = some r ∧ r.1 ≠ .normal ∧
        ∀ j, j < (e :: es).length → j ≠ j0 → ∃ s, f cf tm (T.set (some (.mnext m (k + j) n)) b h) nx = some s ∧ s.1 = .normal ∧ quiet b m (k + j) n tm h s.2 = true)) := by
      intro hx hq hsr
      subst hx
      rcases ih hsr with ⟨h1, h2⟩ | ⟨h1, j0, h2, h3, h4, h5⟩
      · refine .inl ⟨h1, fun j hj => ?_⟩
        cases j with
        | zero => exact ⟨_, hs, rfl, hq⟩
        | succ j => have := h2 j (by simpa using hj); rw [hsh] at this; exact this
      · refine .inr ⟨h1, j0 + 1, by simpa using h2, by rw [← hsh]; exact h3, h4, fun j hj hne => ?_⟩
        cases j with
        | zero => exact ⟨_, hs, rfl, hq⟩
        | succ j => have := h5 j (by simpa using hj) (by omega); rw [hsh] at this; exact this
    have exitCase : x ≠ .normal → acc = none → srch f cf tm h nx b m n es (k + 1) (some (x, s1)) = some r →
      ((acc = some r ∧ ∀ j, j < (e :: es).length → ∃ s, f cf tm (T.set (some (.mnext m (k + j) n)) b h) nx = some s ∧ s.1 = .normal ∧ quiet b m (k + j) n tm h s.2 = true) ∨
      (acc = none ∧ ∃ j0, j0 < (e :: es).length ∧ f cf tm (T.set (some (.mnext m (k + j0) n)) b h) nx = some r ∧ r.1 ≠ .normal ∧
        ∀ j, j < (e :: es).length → j ≠ j0 → ∃ s, f cf tm (T.set (some (.mnext m (k + j) n)) b h) nx = some s ∧ s.1 = .normal ∧ quiet b m (k + j) n tm h s.2 = true)) := by
      intro hx hacc hsr
      rcases ih hsr with ⟨h1, h2⟩ | ⟨h1, _⟩
      · cases h1
        refine .inr ⟨hacc, 0, by simp, hs, hx, fun j hj hne => ?_⟩
        cases j with
        | zero => exact absurd rfl hne
        | succ j => have := h2 j (by simpa using hj); rw [hsh] at this; exact this
      · cases h1
    cases x with
    | normal =>
      dsimp only at he1
      obtain ⟨hq, he2⟩ := bt_none he1
      rw [forceN_eq] at he2
      exact quietCase rfl hq he2
    | exit id =>
      dsimp only at he1
      cases acc with
      | some a => cases he1
      | none => dsimp only at he1; rw [forceN_eq] at he1; exact exitCase (by simp) rfl he1
    | ret =>
      dsimp only at he1
      cases acc with
      | some a => cases he1
      | none => dsimp only at he1; rw [forceN_eq] at he1; exact exitCase (by simp) rfl he1

theorem cOp_next {E : Env} {o : Oper} {x : Operand} (ho : o.op = .next x false) {c : CX} (hc : cX x = some c) {i : CI} (h : cOp E o = some i) :
    i = .loud fun _ tm h nx => ob (c.ev tm) fun v => v.onPtr none fun b off => bt (Nat.beq off 0) (ob (h.get b) fun o => onMNext o (onMIter o none (nextMF b h nx)) (nextTF b h nx)) none := by
  unfold cOp at h
  have h1 : cPure E o = none := by unfold cPure; rw [ho]
  have h2 : cRead E o = none := by unfold cRead; rw [ho]
  have h3 : cAlloc E o = none := by unfold cAlloc; rw [ho]
  have h4 : cLoud E o = some fun _ tm h nx => ob (c.ev tm) fun v => v.onPtr none fun b off => bt (Nat.beq off 0) (ob (h.get b) fun o => onMNext o (onMIter o none (nextMF b h nx)) (nextTF b h nx)) none := by
    unfold cLoud; rw [ho]; simp only [lNext, lNextM, bt, hc]; rfl
  rw [h1, h2, h3, h4] at h
  cases h
  rfl

theorem set_set {α : Type} {h : T α} {b : Nat} {x y : Option α} : (T.set x b (T.set y b h)).get = (T.set x b h).get := by
  funext z
  rw [T.get_set, T.get_set, T.get_set]
  by_cases e : b = z
  · rw [if_pos e, if_pos e]
  · rw [if_neg e, if_neg e, if_neg e]

theorem round_ok {E : Env} {rd : Option Nat} {ir : Bool} (hrd : ir = false → rd = none) {B L N rid : Nat} {cf : CF} (hcf : CfOk E B cf) {ops : Array Oper} {d : Code} {o : Oper} {rest : List Oper} {x : Operand} {c : CX} {f : RunF} (hops : ops.toList = o :: rest) (ho : o.op = .next x false) (hg : o.guard = none)
    (hcx : cX x = some c) (hf : cCode E N ir (.seq (.region rid ops false) d) = some f) (hd : ∀ fd, cCode E N ir d = some fd → RunOk E N ir d fd)
    {ρ : Ren} {tm : T AV} {h : T AObj} {nx : Nat} {a : Act} {w : World} {b m since last : Nat} {pb q : Place} {sa : Array Nat} {es : List (AV × AV)}
    (hst : St E B L ρ tm (T.set none b h).get nx N a w) (hpb : ρ b = some pb) (hdz : pb.disp = 0) (hno : ¬ Owns ρ (T.set none b h).get pb.blk)
    (hit : w.heap[pb.blk]? = some (.mapIter (some q.blk) since sa last)) (hsl : since ≤ last) (hm : h.get m = some (.map es)) (hmb : m ≠ b) (hq : ρ m = some q) (hn : since = es.length)
    (hev : c.ev tm = some (.ptr b 0)) {k0 : Nat} (hk0 : k0 < es.length) (hk1 : sa.contains k0 = false) {Q : Exit → Act → World → Prop}
    (hK : ∀ k, k < es.length → sa.contains k = false → ∃ r, f cf tm (T.set (some (.mnext m k since)) b h) nx = some r ∧ ∀ w2 a3 w3 ρ3, w2.heap = w.heap.setIfInBounds pb.blk (.mapIter (some q.blk) since (sa.push k) es.length) →
      (w2.os = w.os ∧ w2.tape = w.tape ∧ w2.output = w.output) → Ext B ρ (T.set (some (.mitat m k since)) b h).get nx w2 ρ3 r.2.2.1.get r.2.2.2 w3 → St E B L ρ3 r.2.1 r.2.2.1.get r.2.2.2 N a3 w3 → Q r.1.to a3 w3) :
    (Code.seq (.region rid ops false) d).wpIn (Fr rd) 0 E.P Q a w := by
  have hf : ob (cCode E N ir (.region rid ops false)) (fun fa => ob (cCode E N ir d) fun fb => some fun cf tm h nx => andThen (fa cf tm h nx) fun tm h nx => fb cf tm h nx) = some f := hf
  obtain ⟨fa, hfa, hf⟩ := ob_eq hf
  obtain ⟨fb, hfb, hf⟩ := ob_eq hf
  cases hf
  have hfa : orStop (ob (cSeq E ops N ops.toList) (fun l => some (rSeq l))) = some fa := hfa
  rcases orStop_some hfa with rfl | hfa
  · obtain ⟨r, hr, _⟩ := hK k0 hk0 hk1
    cases hr
  obtain ⟨l, hl, hfa⟩ := ob_eq hfa
  cases hfa
  rw [hops] at hl
  have hl : ob (cIns E ops N o) (fun i => ob (cSeq E ops N rest) fun r => some (i :: r)) = some l := hl
  obtain ⟨i0, hi0, hl⟩ := ob_eq hl
  obtain ⟨l', hl', hl⟩ := ob_eq hl
  cases hl
  obtain ⟨dd, hdd, hi0⟩ := ob_eq hi0
  obtain ⟨g, hgg, hi0⟩ := ob_eq hi0
  obtain ⟨cc, hcc, hi0⟩ := ob_eq hi0
  cases hi0
  rw [hg] at hgg
  cases hgg
  have hcc := cOp_next ho hcx hcc
  subst hcc
  have hsz : ops.size = rest.length + 1 := by have := congrArg List.length hops; simpa using this
  have ho0 : ops[0]? = some o := by rw [← Array.getElem?_toList, hops]; rfl
  -- the machine's step
  have hmr : (T.set none b h).get m = some (.map es) := T.unset_get hmb hm
  obtain ⟨entries, m1, m2, m3, m4⟩ := hst.hr.objAt hmr hq
  have hborn : ∀ (i : Nat) (e : MapEntry), entries[i]? = some e → e.born = i := fun i e he => by
    have hi : i < es.length := by have := (Array.getElem?_eq_some_iff.1 he).1; omega
    obtain ⟨m', hm', _, _, hb'⟩ := m4 i es[i] (by simp [hi])
    rw [he] at hm'; cases hm'; exact hb'
  have hold : ∀ x ∈ entries.toList, x.born < since := fun x hx => by
    obtain ⟨i, hi, rfl⟩ := List.mem_iff_getElem.1 hx
    have := hborn i entries.toList[i] (by rw [← Array.getElem?_toList]; simp [hi])
    rw [this, hn]; simp at hi; omega
  have hevx := cX_ok hcx hst.tm hev
  simp only [VR] at hevx
  obtain ⟨p, hp, hevx⟩ := hevx
  rw [hpb] at hp; cases hp
  rw [hdz] at hevx
  refine wpIn_seq (wpIn_region ?_)
  rw [hsz, List.range_succ_eq_map, wpOpsIn_cons]
  unfold wpOpIn
  rw [ho0]
  have hwant : Region.wanted o (yielded ops a.tmps) = true := by unfold Region.wanted; rw [hg]
  simp only [hwant, if_true]
  rcases run_next_at (P := E.P) w o.type pb.blk q.blk since last sa entries es.length hit m1 hold hsl with ⟨h0, _⟩ | ⟨e, hel, w1, hw1, hrun⟩
  · exfalso
    obtain ⟨e0, he0, _, _, hb0⟩ := m4 k0 es[k0] (by simp [hk0])
    have : e0 ∈ leftOf entries sa := by
      unfold leftOf
      rw [Array.mem_filter]
      exact ⟨Array.mem_of_getElem? he0, by rw [hb0, hk1]; rfl⟩
    have h0 := Array.eq_empty_of_size_eq_zero h0
    rw [h0] at this
    simp at this
  · obtain ⟨hel1, hel2⟩ := mem_left hel
    obtain ⟨k, hki, hke⟩ := List.mem_iff_getElem.1 hel1
    have hk : entries[k]? = some e := by rw [← Array.getElem?_toList, List.getElem?_eq_getElem hki, hke]
    have hbk := hborn k e hk
    have hkl : k < es.length := by simp at hki; omega
    obtain ⟨e', he', g1, g2, _⟩ := m4 k es[k] (by simp [hkl])
    rw [hk] at he'; cases he'
    rw [hbk] at hel2 hrun
    obtain ⟨r, hr, hrq⟩ := hK k hkl hel2
    obtain ⟨w2, hw2⟩ : ∃ w2, Go.ChangeMaps.setBlock w1 pb.blk (.mapIter (some q.blk) since (sa.push k) es.length) = w2 := ⟨_, rfl⟩
    rw [hw2] at hrun
    have hw2h : w2.heap = w.heap.setIfInBounds pb.blk (.mapIter (some q.blk) since (sa.push k) es.length) := by
      rw [← hw2]; rcases hw1 with rfl | rfl <;> rfl
    have hw2s : w2.os = w.os ∧ w2.tape = w.tape ∧ w2.output = w.output := by
      rw [← hw2]; rcases hw1 with rfl | rfl <;> exact ⟨rfl, rfl, rfl⟩
    have hlt := (hst.hr.low b pb hpb).2
    have hother : ∀ y, y ≠ pb.blk → w2.heap[y]? = w.heap[y]? := fun y hy => by rw [hw2h, Array.getElem?_setIfInBounds_ne (Ne.symm hy)]
    have hsz2 : w2.heap.size = w.heap.size := by rw [hw2h]; simp
    have hrun' : (execOp a.eval o).run E.P w = .ok (.value (.tuple #[.bool true, e.key, e.val])) w2 := by
      unfold execOp
      rw [ho]
      dsimp only
      rw [hevx]
      simp only [Nat.add_zero, Sem.run_bind, hrun, Result.andThen]
      rfl
    have hr1 : HR B ρ (T.set (some (.mitat m k since)) b h).get nx w2 := by
      refine ⟨hst.hr.fresh, fun y p hp => by rw [hsz2]; exact hst.hr.low y p hp, fun y oo e2 => ?_, fun y y' oo oo' p p' e2 e2' hp hp' hpp => ?_⟩
      · rw [T.get_set] at e2
        by_cases hby : b = y
        · rw [if_pos hby] at e2; cases e2; subst hby
          refine ⟨pb, hpb, q, since, sa, ?_, hdz, hq⟩
          rw [hw2h, hn]; simp [hlt]
        · rw [if_neg hby] at e2
          obtain ⟨p, hp, hob⟩ := hst.hr.obj y oo (T.unset_get (Ne.symm hby) e2)
          refine ⟨p, hp, ?_⟩
          rw [hother _ fun hpe => hno ⟨y, oo, p, T.unset_get (Ne.symm hby) e2, hp, hpe⟩]; exact hob
      · rw [T.get_set] at e2 e2'
        by_cases hby : b = y
        · by_cases hby' : b = y'
          · exact hby.symm.trans hby'
          · exfalso
            rw [if_neg hby'] at e2'
            subst hby
            rw [hpb] at hp; cases hp
            exact hno ⟨y', oo', p', T.unset_get (Ne.symm hby') e2', hp', hpp.symm⟩
        · by_cases hby' : b = y'
          · exfalso
            rw [if_neg hby] at e2
            subst hby'
            rw [hpb] at hp'; cases hp'
            exact hno ⟨y, oo, p, T.unset_get (Ne.symm hby) e2, hp, hpp⟩
          · rw [if_neg hby] at e2
            rw [if_neg hby'] at e2'
            exact hst.hr.inj y y' oo oo' p p' (T.unset_get (Ne.symm hby) e2) (T.unset_get (Ne.symm hby') e2') hp hp' hpp
    have hgr1 : GR E.glob B w2 := by
      intro g cs hgl
      obtain ⟨hB, hc⟩ := hst.gr g cs hgl
      refine ⟨hB, fun i a hi => ?_⟩
      obtain ⟨v, hv, hr'⟩ := hc i a hi
      refine ⟨v, ?_, hr'⟩
      have hne : g ≠ pb.blk := by have := (hst.hr.low b pb hpb).1; omega
      unfold World.cell? at hv ⊢
      simp only at hv ⊢
      rw [hother _ hne]; exact hv
    have hdf1 : DefOk L ρ (T.set (some (.mitat m k since)) b h).get w2 a.defers := by
      refine ⟨fun dd hdd => ?_, hst.defers.2.1, by rw [hsz2]; exact hst.defers.2.2⟩
      obtain ⟨rr, q0, q1, q2, q3, q4⟩ := hst.defers.1 dd hdd
      have hne : rr ≠ pb.blk := fun e => by rw [e, hit] at q3; cases q3
      refine ⟨rr, q0, q1, by rw [hsz2]; exact q2, by rw [hother _ hne]; exact q3, fun ⟨y, oo, p, e2, hp, hy⟩ => ?_⟩
      rw [T.get_set] at e2
      by_cases hby : b = y
      · subst hby; rw [hpb] at hp; cases hp; exact hne hy.symm
      · rw [if_neg hby] at e2
        exact q4 ⟨y, oo, p, T.unset_get (Ne.symm hby) e2, hp, hy⟩
    have hval : VR ρ (.tuple [.bool true, (es[k]).1, (es[k]).2]) (.tuple #[.bool true, e.key, e.val]) := ⟨_, rfl, VRs.cons rfl (VRs.cons g1 (VRs.cons g2 VRs.nil))⟩
    obtain ⟨t1, t2, t3⟩ := putTm_ok hst.tm hst.size hdd hval
    have hst1 : St E B L ρ (putTm dd (.tuple [.bool true, (es[k]).1, (es[k]).2]) tm id) (T.set (some (.mitat m k since)) b h).get nx N (a.put o.dst (.tuple #[.bool true, e.key, e.val])) w2 :=
      ⟨by rw [hsz2]; exact hst.low, hr1, hgr1, t1, t2, by rw [t3]; exact hdf1⟩
    -- the abstract step
    have hstep : stepI ⟨dd, none, .loud fun _ tm h nx => ob (c.ev tm) fun v => v.onPtr none fun b off => bt (Nat.beq off 0) (ob (h.get b) fun o => onMNext o (onMIter o none (nextMF b h nx)) (nextTF b h nx)) none⟩ cf tm (T.set (some (.mnext m k since)) b h) nx =
        some (.tuple [.bool true, (es[k]).1, (es[k]).2], T.set (some (.mitat m k since)) b (T.set (some (.mnext m k since)) b h), nx) := by
      have e1 : (T.set (some (.mnext m k since)) b h).get b = some (.mnext m k since) := by rw [T.get_set, if_pos rfl]
      have e2 : (T.set (some (.mnext m k since)) b h).get m = some (.map es) := by rw [T.get_set, if_neg (Ne.symm hmb)]; exact hm
      generalize T.set (some (.mnext m k since)) b h = hk at e1 e2 ⊢
      show ob (c.ev tm) (fun v => v.onPtr none fun b off => bt (Nat.beq off 0) (ob (hk.get b) fun o => onMNext o (onMIter o none (nextMF b hk nx)) (nextTF b hk nx)) none) = _
      rw [hev]
      show ob (hk.get b) (fun o => onMNext o (onMIter o none (nextMF b hk nx)) (nextTF b hk nx)) = _
      rw [e1]
      show ob (hk.get m) (fun q => onMapO q none fun es => ob (nthE es k) fun e => setH b (some (.mitat m k since)) hk fun h => some ((.tuple [.bool true, e.1, e.2] : AV), h, nx)) = _
      rw [e2]
      show ob (nthE es k) (fun e => setH b (some (.mitat m k since)) hk fun h => some ((.tuple [.bool true, e.1, e.2] : AV), h, nx)) = _
      rw [nthE_eq, List.getElem?_eq_getElem hkl]
      show setH b (some (.mitat m k since)) hk (fun h => some ((.tuple [.bool true, (es[k]).1, (es[k]).2] : AV), h, nx)) = _
      rw [setH_eq]
    have hss : (T.set (some (.mitat m k since)) b (T.set (some (.mnext m k since)) b h)).get = (T.set (some (.mitat m k since)) b h).get := set_set
    refine wp_of_run hrun' ?_
    have hr0 : andThen (toNormal (ob (stepI ⟨dd, none, .loud fun _ tm h nx => ob (c.ev tm) fun v => v.onPtr none fun b off => bt (Nat.beq off 0) (ob (h.get b) fun o => onMNext o (onMIter o none (nextMF b h nx)) (nextTF b h nx)) none⟩ cf tm (T.set (some (.mnext m k since)) b h) nx) fun r => putTm dd r.1 tm fun tm => runSeq cf l' tm r.2.1 r.2.2)) (fun tm h nx => fb cf tm h nx) = some r := hr
    rw [hstep] at hr0
    have hr0 : andThen (toNormal (putTm dd (.tuple [.bool true, (es[k]).1, (es[k]).2]) tm fun tm => runSeq cf l' tm (T.set (some (.mitat m k since)) b (T.set (some (.mnext m k since)) b h)) nx)) (fun tm h nx => fb cf tm h nx) = some r := hr0
    rw [putTm_eq] at hr0
    have hrest : ∀ (tm2 : T AV) (h2 : T AObj) (nx2 : Nat), runSeq cf l' (putTm dd (.tuple [.bool true, (es[k]).1, (es[k]).2]) tm id) (T.set (some (.mitat m k since)) b (T.set (some (.mnext m k since)) b h)) nx = some (tm2, h2, nx2) →
        ∀ (R : Exit → Act → World → Prop), (∀ a' w' ρ', Ext B ρ (T.set (some (.mitat m k since)) b h).get nx w2 ρ' h2.get nx2 w' → St E B L ρ' tm2 h2.get nx2 N a' w' → R .normal a' w') →
          wpOpsIn (Fr rd) 0 E.P ops R (List.map Nat.succ (List.range rest.length)) (a.put o.dst (.tuple #[.bool true, e.key, e.val])) w2 := by
      intro tm2 h2 nx2 hrs R hR
      have := runSeq_ok (rd := rd) hcf (ops := ops) (Q := R) (L := L) (N := N) rest 1 l' (fun j => by rw [← Array.getElem?_toList, hops, Nat.add_comm]; rfl) hl' ρ _ _ nx _ w2 tm2 h2 nx2 (by rw [hss]; exact hst1) hrs (by rw [hss]; exact hR)
      rw [List.range_eq_range'] 
      have e9 : List.map Nat.succ (List.range' 0 rest.length) = List.range' 1 rest.length := by
        rw [List.range'_eq_map_range, List.range'_eq_map_range, List.map_map]
        exact List.map_congr_left fun z _ => by simp [Nat.add_comm]
      rw [e9]; exact this
    rcases andThen_some hr0 with ⟨tm2, h2, nx2, e1, e2⟩ | ⟨e1, e2⟩
    · obtain ⟨rr, hrr, e1⟩ := ob_eq e1
      cases e1
      refine hrest tm2 h2 nx2 hrr _ fun a' w' ρ' hx' hs' => ?_
      obtain ⟨x, tm3, h3, nx3⟩ := r
      exact hd fb hfb rd hrd B L cf hcf ρ' tm2 h2 nx2 a' w' x tm3 h3 nx3 hs' e2 Q fun a'' w'' ρ'' hx'' hs'' => hrq w2 a'' w'' ρ'' hw2h hw2s (hx'.trans hx'') hs''
    · obtain ⟨rr, hrr, e1⟩ := ob_eq e1
      cases e1
      exact absurd rfl e2

theorem quiet_ok {b m k n : Nat} {tm : T AV} {h : T AObj} {r : T AV × T AObj × Nat} (e : quiet b m k n tm h r = true) :
    (∀ t v, tm.get t = some v → r.1.get t = some v) ∧ (∀ y o, (T.set none b h).get y = some o → ∃ o', r.2.1.get y = some o' ∧ objSub o o' = true) ∧ r.2.1.get b = some (.mitat m k n) := by
  have e : bt (subT (avEqN 6) tm r.1) (setH b none h fun h0 => bt (subT objSub h0 r.2.1) (Option.rec (motive := fun _ => Bool) false (fun o => onMAt o false fun m' k' n' => bt (Nat.beq m' m) (bt (Nat.beq k' k) (Nat.beq n' n) false) false) (r.2.1.get b)) false) false = true := e
  obtain ⟨e1, e⟩ := bt_and e
  rw [setH_eq] at e
  obtain ⟨e2, e⟩ := bt_and e
  refine ⟨fun t v ht => ?_, fun y o hy => ?_, ?_⟩
  · obtain ⟨y, hy, rfl⟩ := subT_ok (R := fun a b => a = b) (avEqN_ok 6) e1 (path t) v ht
    exact hy
  · exact subT_ok (R := fun o o' => objSub o o' = true) (fun x y hxy => hxy) e2 (path y) o hy
  · cases ho : r.2.1.get b with
    | none => rw [ho] at e; cases e
    | some o =>
      rw [ho] at e
      cases o with
      | mitat m' k' n' =>
        obtain ⟨q1, q⟩ := bt_and e
        obtain ⟨q2, q3⟩ := bt_and q
        rw [Nat.eq_of_beq_eq_true q1, Nat.eq_of_beq_eq_true q2, Nat.eq_of_beq_eq_true q3]
      | _ => cases e

theorem St.sub {E : Env} {B L : Nat} {ρ : Ren} {tm : T AV} {h h' : Heap} {nx N : Nat} {a : Act} {w : World} (k : St E B L ρ tm h nx N a w) (hs : ∀ b o, h' b = some o → h b = some o) : St E B L ρ tm h' nx N a w :=
  k.less (fun _ _ e => e) fun b o e => ⟨o, hs b o e, fun _ _ _ h => h⟩

/-- how many numbers pass -/
theorem countP_lt {p q : Nat → Bool} {k : Nat} (hp : p k = true) (hq : q k = false) (h : ∀ i, q i = true → p i = true) : ∀ {l : List Nat}, k ∈ l → l.countP q < l.countP p := by
  intro l
  induction l with
  | nil => intro h; cases h
  | cons x l ih =>
    intro hk
    have hle : ∀ (l : List Nat), l.countP q ≤ l.countP p := fun l => List.countP_mono_left fun i _ hi => h i hi
    rw [List.countP_cons, List.countP_cons]
    by_cases hx : x = k
    · subst hx
      rw [hp, hq]
      have := hle l
      simp; omega
    · have := ih ((List.mem_cons.1 hk).resolve_left (Ne.symm hx))
      cases hqx : q x with
      | false => simp; omega
      | true => rw [h x hqx]; simpa using this

theorem search_ok {E : Env} {rd : Option Nat} {ir : Bool} (hrd : ir = false → rd = none) {B L N rid : Nat} {cf : CF} (hcf : CfOk E B cf) {ops : Array Oper} {d : Code} {o : Oper} {rest : List Oper} {x : Operand} {c : CX} {f : RunF} (hops : ops.toList = o :: rest) (ho : o.op = .next x false) (hg : o.guard = none)
    (hcx : cX x = some c) (hf : cCode E N ir (.seq (.region rid ops false) d) = some f) (hd : ∀ fd, cCode E N ir d = some fd → RunOk E N ir d fd)
    {ρ : Ren} {tm : T AV} {h : T AObj} {nx : Nat} {a : Act} {w : World} (hst : St E B L ρ tm h.get nx N a w) {xx : XK} {tm' : T AV} {h' : T AObj} {nx' : Nat} (he : rSearch c f cf tm h nx = some (xx, tm', h', nx')) {Q : Exit → Act → World → Prop}
    (hk : ∀ a' w' ρ', Ext B ρ h.get nx w ρ' h'.get nx' w' → St E B L ρ' tm' h'.get nx' N a' w' → Q xx.to a' w') : (Code.loop (.seq (.region rid ops false) d)).wpIn (Fr rd) 0 E.P Q a w := by
  obtain ⟨v, hv, he1⟩ := ob_eq he
  obtain ⟨b, off, hveq, he2⟩ := AV.onPtr_some he1
  subst hveq
  obtain ⟨hz, he3⟩ := bt_none he2
  have hz := Nat.eq_of_beq_eq_true hz
  subst hz
  obtain ⟨ob', hob, he4⟩ := ob_eq he3
  obtain ⟨mo, since, seen, hveq, he5⟩ := onMIter_some he4
  subst hveq
  cases seen with
  | true => cases he5
  | false =>
    have he5 : ob mo (fun m => ob (h.get m) fun q => onMapO q none fun es => bt (Nat.blt 1 (lenL es)) (bt (Nat.blt (lenL es) 1000000) (bt (Nat.beq since (lenL es)) (bt (Nat.beq m b) none (ob (srch f cf tm h nx b m since es 0 none) fun r => setH b none r.2.2.1 fun h => some (r.1, r.2.1, h, r.2.2.2))) none) none) none) = some (xx, tm', h', nx') := he5
    obtain ⟨m, hmo, he6⟩ := ob_eq he5
    obtain ⟨qo, hqo, he7⟩ := ob_eq he6
    obtain ⟨es, hveq, he8⟩ := onMapO_some he7
    subst hveq hmo
    obtain ⟨_, he9⟩ := bt_none he8
    obtain ⟨hlen, he9⟩ := bt_none he9
    obtain ⟨hsince, he9⟩ := bt_none he9
    have hlen := blt_lt hlen
    rw [lenL_eq] at hlen
    have hn := Nat.eq_of_beq_eq_true hsince
    rw [lenL_eq] at hn
    have hmb : m ≠ b := by
      intro e
      subst e
      rw [hob] at hqo; cases hqo
    have hmb' : Nat.beq m b = false := by
      cases hh : Nat.beq m b with
      | false => rfl
      | true => exact absurd (Nat.eq_of_beq_eq_true hh) hmb
    rw [hmb', bt_false] at he9
    obtain ⟨r, hsr, he10⟩ := ob_eq he9
    rw [setH_eq] at he10
    clear he he1 he2 he3 he4 he5 he6 he7 he8 he9
    rcases srch_ok hsr with ⟨h1, _⟩ | ⟨_, k0, hk0, hF0, hne, hquiet⟩
    · cases h1
    rw [Nat.zero_add] at hF0
    obtain ⟨pb, hpb, hobj⟩ := hst.hr.obj b _ hob
    obtain ⟨mm, sa0, last0, hit0, hdz, s1, _, q, hq, hmq⟩ := hobj
    obtain ⟨hsa0, hsl0⟩ := s1 rfl
    subst hmq hsa0
    have hsub : ∀ y o, (T.set none b h).get y = some o → h.get y = some o := fun y o e => (T.get_unset e).2
    have hno : ¬ Owns ρ (T.set none b h).get pb.blk := fun ⟨y, oo, p, e, hp, hy⟩ => (T.get_unset e).1 (hst.hr.inj y b oo _ p pb (T.get_unset e).2 hob hp hpb hy)
    refine wpIn_loop_rounds 1000000 ?_
    have main : ∀ (fuel : Nat) (a1 : Act) (w1 : World) (sa : Array Nat) (last : Nat), St E B L ρ tm (T.set none b h).get nx N a1 w1 → Ext B ρ h.get nx w ρ (T.set none b h).get nx w1 →
        w1.heap[pb.blk]? = some (.mapIter (some q.blk) since sa last) → since ≤ last → sa.contains k0 = false → (List.range es.length).countP (fun i => !sa.contains i) ≤ fuel →
        Code.roundsIn (Fr rd) 0 E.P (.seq (.region rid ops false) d) Q fuel a1 w1 := by
      intro fuel
      induction fuel with
      | zero =>
        intro a1 w1 sa last _ _ _ _ hk1 hc
        exfalso
        have : 0 < (List.range es.length).countP (fun i => !sa.contains i) := List.countP_pos_iff.2 ⟨k0, by simp [hk0], by rw [hk1]; rfl⟩
        omega
      | succ fuel ih =>
        intro a1 w1 sa last hst1 hx1 hit hsl hk1 hc
        rw [roundsIn_succ]
        refine round_ok hrd hcf hops ho hg hcx hf hd hst1 hpb hdz hno hit hsl hqo hmb hq hn hv hk0 hk1 fun k hkl hks => ?_
        by_cases hkk : k = k0
        · subst hkk
          refine ⟨r, hF0, fun w2 a3 w3 ρ3 hw2 hs2 hx3 hst3 => ?_⟩
          have hx := Ext.round hst.hr hob hpb hx1 hw2 hs2 hx3
          have hs' := hst3.sub (h' := (T.set none b r.2.2.1).get) fun y o e => (T.get_unset e).2
          obtain ⟨x1, t1, h1, n1⟩ := r
          cases he10
          have := hk a3 w3 ρ3 hx hs'
          cases x1 <;> first | exact this | exact absurd rfl hne
        · obtain ⟨s, hs, hsn, hsq⟩ := hquiet k hkl hkk
          rw [Nat.zero_add] at hs hsq
          obtain ⟨q1, q2, q3⟩ := quiet_ok hsq
          refine ⟨s, hs, fun w2 a3 w3 ρ3 hw2 hs2 hx3 hst3 => ?_⟩
          rw [hsn]
          have hx := Ext.round hst.hr hob hpb hx1 hw2 hs2 hx3
          have hback : Ext B ρ h.get nx w ρ (T.set none b h).get nx w3 := Ext.back hst.hr hsub hx (fun y o e => by
            obtain ⟨o', e', hoo⟩ := q2 y o e
            exact ⟨o', T.unset_get (T.get_unset e).1 e', fun _ _ _ h => objSub_ok hoo h⟩) (fun y m' k' n' e => by
            obtain ⟨o', _, hoo⟩ := q2 y _ e
            cases hoo)
          have hst4 : St E B L ρ tm (T.set none b h).get nx N a3 w3 := by
            refine ⟨hst3.low, hback.hr, hst3.gr, hst1.tm.restrict hx3.le fun t v e => hst3.tm t v (q1 t v e), hst3.size, fun dd hdd => ?_, hst3.defers.2.1, hst3.defers.2.2⟩
            obtain ⟨rr, p0, p1, p2, p3, p4⟩ := hst3.defers.1 dd hdd
            refine ⟨rr, p0, p1, p2, p3, fun ⟨y, oo, p, e2, hp, hy⟩ => ?_⟩
            obtain ⟨o', e', _⟩ := q2 y oo e2
            exact p4 ⟨y, o', p, e', hx3.le y p hp, hy⟩
          have hlt := (hst1.hr.low b pb hpb).2
          have hit3 : w3.heap[pb.blk]? = some (.mapIter (some q.blk) since (sa.push k) es.length) := by
            rcases hx3.at_ b m k since q3 with h1 | ⟨_, h1⟩
            · rw [hst.hr.fresh b h1] at hpb; cases hpb
            · rw [h1 pb hpb, hw2]; simp [hlt]
          refine ih a3 w3 (sa.push k) es.length hst4 hback hit3 (Nat.le_of_eq hn) ?_ ?_
          · simp only [Array.contains_push, hk1, Bool.false_or, beq_eq_false_iff_ne]
            exact fun e => hkk e.symm
          · have : (List.range es.length).countP (fun i => !(sa.push k).contains i) < (List.range es.length).countP (fun i => !sa.contains i) :=
              countP_lt (k := k) (by rw [hks]; rfl) (by simp [Array.contains_push]) (fun i hi => by simp [Array.contains_push] at hi ⊢; exact hi.1) (by simp [hkl])
            omega
    refine main 1000000 a w #[] last0 (hst.sub hsub) ((Ext.refl hst.hr).less (fun y o e => ⟨o, hsub y o e, fun _ _ _ h => h⟩) fun y m' c' n' e => hsub y _ e) hit0 hsl0 (by simp) ?_
    have : (List.range es.length).countP (fun i => !(#[] : Array Nat).contains i) ≤ (List.range es.length).length := List.countP_le_length
    simp at this ⊢
    omega

theorem searchX_ok {c : Code} {x : Operand} (h : searchX c = some x) : ∃ rid ops d o rest, c = .seq (.region rid ops false) d ∧ ops.toList = o :: rest ∧ o.op = .next x false ∧ o.guard = none := by
  unfold searchX at h
  split at h
  · rename_i rid ops d
    split at h
    · rename_i o rest hops
      split at h
      · rename_i y ho hg
        cases h
        exact ⟨rid, ops, d, o, rest, rfl, hops, ho, hg⟩
      · cases h
    · cases h
  · cases h

/-- the law of what follows a region -/
def Tail (E : Env) (N : Nat) (ir : Bool) : Code → Prop
  | .seq _ d => ∀ fd, cCode E N ir d = some fd → RunOk E N ir d fd
  | _ => True

theorem cCode_ok2 {E : Env} {N : Nat} {ir : Bool} : ∀ {c : Code}, (∀ {f : RunF}, cCode E N ir c = some f → RunOk E N ir c f) ∧ Tail E N ir c := by
  intro c
  induction c with
  | skip =>
    refine ⟨?_, trivial⟩
    intro f h rd hrd B L cf _ ρ tm hp nx a w x tm' h' nx' hs he Q hk
    cases h; cases he
    exact wpIn_skip (hk _ _ ρ (Ext.refl hs.hr) hs)
  | region id ops draw =>
    refine ⟨?_, trivial⟩
    intro f h rd hrd B L cf hcf ρ tm hp nx a w x tm' h' nx' hs he Q hk
    cases draw with
    | true =>
      have h : orStop (Option.rec (motive := fun _ => Option RunF) (ob (treeOf E ops) fun t => some fun cf tm h nx => toNormal (rTree E ops N t.1 t.2 cf tm h nx)) (fun l => some (rAny l)) (cAny E ops N)) = some f := h
      rcases orStop_some h with rfl | h
      · cases he
      cases hl : cAny E ops N with
      | some l =>
        rw [hl] at h
        cases h
        obtain ⟨r, hr, he⟩ := ob_eq he
        cases he
        exact any_ok hcf hl hs hr hk
      | none =>
        rw [hl] at h
        obtain ⟨t, _, h⟩ := ob_eq h
        cases h
        obtain ⟨r, hr, he⟩ := ob_eq he
        cases he
        exact tree_ok hcf hs hr hk
    | false =>
      have h : orStop (ob (cSeq E ops N ops.toList) (fun l => some (rSeq l))) = some f := h
      rcases orStop_some h with rfl | h
      · cases he
      obtain ⟨l, hl, h⟩ := ob_eq h
      cases h
      obtain ⟨r, hr, he⟩ := ob_eq he
      cases he
      refine wpIn_region ?_
      have := runSeq_ok (rd := rd) hcf (ops := ops) (Q := Q) ops.toList 0 l (fun j => by rw [Nat.zero_add]; simp) hl ρ tm hp nx a w tm' h' nx' hs hr hk
      rw [List.range_eq_range']
      simpa using this
  | seq c d ihc ihd =>
    refine ⟨?_, fun fd hfd => ihd.1 hfd⟩
    intro f h rd hrd B L cf hcf ρ tm hp nx a w x tm' h' nx' hs he Q hk
    have h : ob (cCode E N ir c) (fun fa => ob (cCode E N ir d) fun fb => some fun cf tm h nx => andThen (fa cf tm h nx) fun tm h nx => fb cf tm h nx) = some f := h
    obtain ⟨fa, ha, h⟩ := ob_eq h
    obtain ⟨fb, hb, h⟩ := ob_eq h
    cases h
    refine wpIn_seq ?_
    rcases andThen_some he with ⟨tm1, h1, nx1, e1, e2⟩ | ⟨e1, e2⟩
    · refine ihc.1 ha rd hrd B L cf hcf ρ tm hp nx a w _ tm1 h1 nx1 hs e1 _ fun a' w' ρ' hx hs' => ?_
      exact ihd.1 hb rd hrd B L cf hcf ρ' tm1 h1 nx1 a' w' x tm' h' nx' hs' e2 Q fun a'' w'' ρ'' hx' hs'' => hk a'' w'' ρ'' (hx.trans hx') hs''
    · refine ihc.1 ha rd hrd B L cf hcf ρ tm hp nx a w _ tm' h' nx' hs e1 _ fun a' w' ρ' hx hs' => ?_
      have := hk a' w' ρ' hx hs'
      cases x <;> first | exact this | exact absurd rfl e2
  | cond x0 c d ihc ihd =>
    refine ⟨?_, trivial⟩
    intro f h rd hrd B L cf hcf ρ tm hp nx a w x tm' h' nx' hs he Q hk
    have h : ob (cX x0) (fun cx => ob (cCode E N ir c) fun fa => ob (cCode E N ir d) fun fb => some fun cf tm h nx => ob (cx.ev tm) fun v => v.onBool none fun b => bt b (fa cf tm h nx) (fb cf tm h nx)) = some f := h
    obtain ⟨cx, hcx, h⟩ := ob_eq h
    obtain ⟨fa, ha, h⟩ := ob_eq h
    obtain ⟨fb, hb, h⟩ := ob_eq h
    cases h
    obtain ⟨v, hv, he⟩ := ob_eq he
    obtain ⟨b, rfl, he⟩ := AV.onBool_some he
    have hval := cX_ok hcx hs.tm hv
    refine wpIn_cond (t := b) hval ?_
    cases b with
    | true => exact ihc.1 ha rd hrd B L cf hcf ρ tm hp nx a w x tm' h' nx' hs he Q hk
    | false => exact ihd.1 hb rd hrd B L cf hcf ρ tm hp nx a w x tm' h' nx' hs he Q hk
  | block id c ih =>
    refine ⟨?_, trivial⟩
    intro f h rd hrd B L cf hcf ρ tm hp nx a w x tm' h' nx' hs he Q hk
    have h : ob (cCode E N ir c) (fun f => some fun cf tm h nx => outOf id (f cf tm h nx)) = some f := h
    obtain ⟨fa, ha, h⟩ := ob_eq h
    cases h
    obtain ⟨y, e1, e2⟩ := outOf_some he
    refine wpIn_block ?_
    refine ih.1 ha rd hrd B L cf hcf ρ tm hp nx a w y tm' h' nx' hs e1 _ fun a' w' ρ' hx hs' => ?_
    have := hk a' w' ρ' hx hs'
    rcases e2 with ⟨rfl, h2⟩ | ⟨rfl, h2⟩ | ⟨id', rfl, hne, h2⟩ | ⟨rfl, h2⟩
    · dsimp only at h2; subst h2; exact this
    · dsimp only at h2; subst h2
      show if id = id then Q .normal a' w' else Q (.exit id) a' w'
      rw [if_pos rfl]; exact this
    · dsimp only at h2; subst h2
      show if id' = id then Q .normal a' w' else Q (.exit id') a' w'
      rw [if_neg hne]; exact this
    · dsimp only at h2; subst h2; exact this
  | loop c ih =>
    refine ⟨?_, trivial⟩
    intro f h rd hrd B L cf hcf ρ tm hp nx a w x tm' h' nx' hs he Q hk
    have h : ob (cCode E N ir c) (fun f => some (loopF (searchX c) f)) = some f := h
    obtain ⟨fa, ha, h⟩ := ob_eq h
    cases h
    have hcase : runLoop fa cf 1000000000 tm hp nx = some (x, tm', h', nx') ∨ ∃ xo cx, searchX c = some xo ∧ cX xo = some cx ∧ rSearch cx fa cf tm hp nx = some (x, tm', h', nx') := by
      cases hsx : searchX c with
      | none => rw [hsx] at he; exact .inl he
      | some xo =>
        rw [hsx] at he
        cases hcx : cX xo with
        | none =>
          have he : (Option.rec (motive := fun _ => RunF) (fun cf tm h nx => runLoop fa cf 1000000000 tm h nx) (fun c cf tm h nx => Option.rec (motive := fun _ => Option OutT) (runLoop fa cf 1000000000 tm h nx) some (rSearch c fa cf tm h nx)) (cX xo) : RunF) cf tm hp nx = some (x, tm', h', nx') := he
          rw [hcx] at he; exact .inl he
        | some cx =>
          have he : (Option.rec (motive := fun _ => RunF) (fun cf tm h nx => runLoop fa cf 1000000000 tm h nx) (fun c cf tm h nx => Option.rec (motive := fun _ => Option OutT) (runLoop fa cf 1000000000 tm h nx) some (rSearch c fa cf tm h nx)) (cX xo) : RunF) cf tm hp nx = some (x, tm', h', nx') := he
          rw [hcx] at he
          have he : Option.rec (motive := fun _ => Option OutT) (runLoop fa cf 1000000000 tm hp nx) some (rSearch cx fa cf tm hp nx) = some (x, tm', h', nx') := he
          cases hrs : rSearch cx fa cf tm hp nx with
          | none => rw [hrs] at he; exact .inl he
          | some r => rw [hrs] at he; cases he; exact .inr ⟨xo, cx, rfl, hcx, hrs⟩
    clear he
    rcases hcase with he | ⟨xo, cx, hsx, hcx, hrs⟩
    case inr =>
      obtain ⟨rid, ops, d, o, rest, rfl, hops, ho, hg⟩ := searchX_ok hsx
      exact search_ok hrd hcf hops ho hg hcx ha ih.2 hs hrs hk
    refine wpIn_loop_rounds 1000000000 ?_
    generalize 1000000000 = n at he
    induction n generalizing ρ tm hp nx a w with
    | zero => cases he
    | succ n ihn =>
      have he : andThen (fa cf tm hp nx) (runLoop fa cf n) = some (x, tm', h', nx') := he
      rw [roundsIn_succ]
      rcases andThen_some he with ⟨tm1, h1, nx1, e1, e2⟩ | ⟨e1, e2⟩
      · refine ih.1 ha rd hrd B L cf hcf ρ tm hp nx a w _ tm1 h1 nx1 hs e1 _ fun a' w' ρ' hx hs' => ?_
        exact ihn ρ' tm1 h1 nx1 a' w' hs' (fun a'' w'' ρ'' hx' hs'' => hk a'' w'' ρ'' (hx.trans hx') hs'') e2
      · refine ih.1 ha rd hrd B L cf hcf ρ tm hp nx a w _ tm' h' nx' hs e1 _ fun a' w' ρ' hx hs' => ?_
        have := hk a' w' ρ' hx hs'
        cases x <;> first | exact this | exact absurd rfl e2
  | exit id =>
    refine ⟨?_, trivial⟩
    intro f h rd hrd B L cf _ ρ tm hp nx a w x tm' h' nx' hs he Q hk
    cases h; cases he
    exact wpIn_exit (hk _ _ ρ (Ext.refl hs.hr) hs)
  | label l =>
    refine ⟨?_, trivial⟩
    intro f h rd hrd B L cf _ ρ tm hp nx a w x tm' h' nx' hs he Q hk
    cases h; cases he
    exact wpIn_label (hk _ _ ρ (Ext.refl hs.hr) hs)
  | ret =>
    refine ⟨?_, trivial⟩
    intro f h rd hrd B L cf _ ρ tm hp nx a w x tm' h' nx' hs he Q hk
    cases h; cases he
    exact wpIn_ret (hk _ _ ρ (Ext.refl hs.hr) hs)
  | rangeFunc g ps c d _ _ =>
    refine ⟨?_, trivial⟩
    intro f h
    have h : bt ir (some stopF) (orStop (rRange E N g ps c d)) = some f := h
    cases ir with
    | true => cases h; exact stopF_ok
    | false =>
      rcases orStop_some h with rfl | h
      · exact stopF_ok
      · exact rRange_ok h
  | _ => exact ⟨fun {f} h => by cases h; exact stopF_ok, trivial⟩

theorem cCode_ok {E : Env} {N : Nat} {ir : Bool} {c : Code} {f : RunF} (h : cCode E N ir c = some f) : RunOk E N ir c f := cCode_ok2.1 h
end Go.Vm

namespace Go.Vm

abbrev CFun := CF → List AV → T AObj → Nat → Option (AV × T AObj × Nat)

/-- a function's law -/
def CFunOk (E : Env) (f : Nat) (g : CFun) : Prop :=
  ∀ (B : Nat) (cf : CF), CfOk E B cf → ∀ (args : List AV) (h : T AObj) (nx : Nat) (av : AV) (h' : T AObj) (nx' : Nat), g cf args h nx = some (av, h', nx') →
    ∀ (ρ : Ren) (w : World) (vargs : Array Value), B ≤ w.heap.size → HR B ρ h.get nx w → GR E.glob B w → VRs ρ args vargs.toList →
      Calls E.P f vargs w fun e w' => ∃ v ρ', e = .returned v ∧ Ext B ρ h.get nx w ρ' h'.get nx' w' ∧ VR ρ' av v

noncomputable def argsF {β : Type} (l : List AV) : Nat → T AV → (T AV → β) → β :=
  List.rec (motive := fun _ => Nat → T AV → (T AV → β) → β) (fun _ tm k => k tm) (fun a _ ih i tm k => T.setK (some a) (path i) tm fun tm => ih (Nat.succ i) tm k) l
noncomputable def argsT (l : List AV) (i : Nat) (tm : T AV) : T AV := argsF l i tm id
theorem argsF_eq {β : Type} : ∀ (l : List AV) (i : Nat) (tm : T AV) (k : T AV → β), argsF l i tm k = k (argsT l i tm) := by
  intro l
  induction l with
  | nil => intro i tm k; rfl
  | cons a l ih =>
    intro i tm k
    show T.setK (some a) (path i) tm (fun tm => argsF l (Nat.succ i) tm k) = k (T.setK (some a) (path i) tm fun tm => argsF l (Nat.succ i) tm id)
    rw [T.setK_eq, T.setK_eq, ih]; rfl
theorem argsT_get : ∀ (l : List AV) (i : Nat) (tm : T AV) (t : Nat) (v : AV), (argsT l i tm).get t = some v → (i ≤ t ∧ l[t - i]? = some v) ∨ tm.get t = some v := by
  intro l
  induction l with
  | nil => intro i tm t v h; exact .inr h
  | cons a l ih =>
    intro i tm t v h
    have h : (T.setK (some a) (path i) tm (fun tm => argsF l (Nat.succ i) tm id)).get t = some v := h
    rw [T.setK_eq] at h
    rcases ih (i + 1) _ t v h with ⟨h1, h2⟩ | h1
    · refine .inl ⟨by omega, ?_⟩
      have e : t - i = (t - (i + 1)) + 1 := by omega
      rw [e]; simpa using h2
    · have h1 : (T.set (some a) i tm).get t = some v := h1
      rw [T.get_set] at h1
      by_cases e : i = t
      · rw [if_pos e] at h1; cases h1
        refine .inl ⟨by omega, ?_⟩
        have e2 : t - i = 0 := by omega
        rw [e2]; rfl
      · rw [if_neg e] at h1; exact .inr h1

noncomputable def cRes (E : Env) (r : ResultVar) : Option ReadF :=
  ResultVar.rec (motive := fun _ => Option ReadF) (fun t => some fun tm _ => T.getP tm (path t)) (fun a t => rLoad E t (.tmp a)) r
noncomputable def cRess (E : Env) (l : List ResultVar) : Option (List ReadF) :=
  List.rec (motive := fun _ => Option (List ReadF)) (some []) (fun r _ ih => ob (cRes E r) fun f => ob ih fun fs => some (f :: fs)) l
noncomputable def ress (l : List ReadF) (tm : T AV) (h : T AObj) : Option (List AV) :=
  List.rec (motive := fun _ => Option (List AV)) (some []) (fun f _ ih => ob (f tm h) fun a => ob ih fun as => some (a :: as)) l

theorem rLoad_var {E : Env} {t : TypeId} {x : Operand} {f : ReadF} (h : rLoad E t x = some f) {B : Nat} {ρ : Ren} {tm : T AV} {a : Act} {w : World} {hp : T AObj} {nx : Nat} {av : AV} (hr : HR B ρ hp.get nx w) (hg : GR E.glob B w) (ht : TmR ρ tm a.tmps) (he : f tm hp = some av) :
    ∃ p u, a.eval x = .pointer (some p) ∧ (loadVar t p).run E.P w = .ok u w ∧ VR ρ av u := by
  obtain ⟨c, hc, h⟩ := ob_eq h
  obtain ⟨i, hi, h⟩ := ob_eq h
  obtain ⟨d, hd, h⟩ := ob_eq h
  have ua := run_agg hd
  cases hq : aggD d
  · rw [hq, bt_false] at h; cases h; dsimp only at he
    rw [hq] at ua
    obtain ⟨v, hv, he⟩ := ob_eq he
    obtain ⟨⟨cs, off⟩, hcs, he⟩ := ob_eq he
    obtain ⟨p, hp1, hp2, hp3⟩ := cellsOf_ok hr hg hcs (cX_ok hc ht hv)
    obtain ⟨u, hu, hur⟩ := hp3 0 av he
    have hz : p.add 0 = p := by simp [Addr.add]
    rw [hz] at hu
    exact ⟨p, u, hp1, loadVar_one (ua w) hu, hur⟩
  · rw [hq, bt_true] at h; cases h; dsimp only at he
    rw [hq] at ua
    obtain ⟨v, hv, he⟩ := ob_eq he
    obtain ⟨⟨cs, off⟩, hcs, he⟩ := ob_eq he
    obtain ⟨l, hl, he⟩ := ob_eq he
    cases he
    obtain ⟨p, hp1, hp2, hp3⟩ := cellsOf_ok hr hg hcs (cX_ok hc ht hv)
    obtain ⟨hl1, hl2⟩ := loadN_ok _ _ _ _ hl
    obtain ⟨vs, e1, e2, e3⟩ := cellsAt_list hp2 (fun j b hj => hp3 j b (hl2 j b hj))
    have hsz : (sizeOf t).run E.P w = .ok vs.length w := by rw [e1, hl1]; exact run_size hi w
    exact ⟨p, .agg vs.toArray, hp1, loadVar_agg (ua w) hsz e2, vs.toArray, rfl, by simpa using e3⟩

/-- one result, as the model reads it -/
def resOne (tmps : Array Value) : ResultVar → Sem Value
  | .tmp t => pure (tmps.getD t undef)
  | .cell a t => do loadVar t (← asAddr (tmps.getD a undef))

theorem cRes_ok {E : Env} {r : ResultVar} {f : ReadF} (h : cRes E r = some f) {B : Nat} {ρ : Ren} {tm : T AV} {a : Act} {w : World} {hp : T AObj} {nx : Nat} {av : AV} (hr : HR B ρ hp.get nx w) (hg : GR E.glob B w) (ht : TmR ρ tm a.tmps) (he : f tm hp = some av) :
    ∃ u, (resOne a.tmps r).run E.P w = .ok u w ∧ VR ρ av u := by
  cases r with
  | tmp t =>
    cases h
    obtain ⟨v, hv, hvr⟩ := ht t av he
    exact ⟨v, by simp [resOne, hv], hvr⟩
  | cell p t =>
    obtain ⟨q, u, h1, h2, h3⟩ := rLoad_var (x := .tmp p) h hr hg ht he
    refine ⟨u, ?_, h3⟩
    have h1 : a.tmps.getD p undef = .pointer (some q) := h1
    simp only [resOne, h1]
    simpa [asAddr] using h2

theorem cRess_ok {E : Env} {B : Nat} {ρ : Ren} {tm : T AV} {a : Act} {w : World} {hp : T AObj} {nx : Nat} (hr : HR B ρ hp.get nx w) (hg : GR E.glob B w) (ht : TmR ρ tm a.tmps) : ∀ {l : List ResultVar} {fs : List ReadF} {as : List AV}, cRess E l = some fs → ress fs tm hp = some as →
    ∃ us, (l.mapM (resOne a.tmps)).run E.P w = .ok us w ∧ VRs ρ as us := by
  intro l
  induction l with
  | nil => intro fs as h he; cases h; cases he; exact ⟨[], by simp, VRs.nil⟩
  | cons r l ih =>
    intro fs as h he
    have h : ob (cRes E r) (fun f => ob (cRess E l) fun fs => some (f :: fs)) = some fs := h
    obtain ⟨f, hf, h⟩ := ob_eq h
    obtain ⟨fs', hfs, h⟩ := ob_eq h
    cases h
    have he : ob (f tm hp) (fun a => ob (ress fs' tm hp) fun as => some (a :: as)) = some as := he
    obtain ⟨b, hb, he⟩ := ob_eq he
    obtain ⟨bs, hbs, he⟩ := ob_eq he
    cases he
    obtain ⟨u, hu, hur⟩ := cRes_ok hf hr hg ht hb
    obtain ⟨us, hus, husr⟩ := ih hfs hbs
    exact ⟨u :: us, by simp [List.mapM_cons, hu, hus], VRs.cons hur husr⟩

noncomputable def oneOr (l : List AV) : AV :=
  List.rec (motive := fun _ => AV) (.tuple []) (fun a r _ => List.rec (motive := fun _ => AV) a (fun b r _ => .tuple (a :: b :: r)) r) l
theorem oneOr_ok {ρ : Ren} {l : List AV} {us : List Value} (h : VRs ρ l us) : VR ρ (oneOr l) (if h : us.toArray.size = 1 then us.toArray[0] else .tuple us.toArray) := by
  cases l with
  | nil => rw [VRs.nil_iff] at h; subst h; exact ⟨_, rfl, VRs.nil⟩
  | cons a r =>
    obtain ⟨x, xs, rfl, h1, h2⟩ := VRs.cons_iff.1 h
    cases r with
    | nil => rw [VRs.nil_iff] at h2; subst h2; exact h1
    | cons b r =>
      obtain ⟨y, ys, rfl, h3, h4⟩ := VRs.cons_iff.1 h2
      have : ¬ (x :: y :: ys).toArray.size = 1 := by simp
      rw [dif_neg this]
      exact ⟨_, rfl, h⟩

theorem results_ok {E : Env} {d : Func} {fs : List ReadF} (h : cRess E d.results.toList = some fs) {B : Nat} {ρ : Ren} {tm : T AV} {a : Act} {w : World} {hp : T AObj} {nx : Nat} {as : List AV} (hr : HR B ρ hp.get nx w) (hg : GR E.glob B w) (ht : TmR ρ tm a.tmps) (he : ress fs tm hp = some as) :
    ∃ v, (results d a.tmps).run E.P w = .ok v w ∧ VR ρ (oneOr as) v := by
  obtain ⟨us, hus, hr'⟩ := cRess_ok hr hg ht h he
  refine ⟨_, ?_, oneOr_ok hr'⟩
  have e : results d a.tmps = (d.results.mapM (resOne a.tmps)) >>= fun vs => pure (if h : vs.size = 1 then vs[0] else .tuple vs) := by
    unfold results
    congr 1
  rw [e, Array.mapM_eq_mapM_toList]
  simp [hus]

/-- did it end as a body does? -/
noncomputable def ended {β : Type} (x : XK) (z k : β) : β := XK.rec (motive := fun _ => β) k (fun _ => z) k x

noncomputable def cFun (E : Env) (d : Func) : Option CFun :=
  ob d.body fun c => ob (cCode E d.ntmps false c) fun f => ob (cRess E d.results.toList) fun rs => some fun cf args h nx =>
    bt (Nat.ble (lenL args) d.ntmps) (argsF args 0 .nil fun tm => ob (f cf tm h nx) fun r => Prod.rec (motive := fun _ => Option (AV × T AObj × Nat)) (fun x s => Prod.rec (motive := fun _ => Option (AV × T AObj × Nat)) (fun tm s =>
      Prod.rec (motive := fun _ => Option (AV × T AObj × Nat)) (fun h nx => ended x none (ob (ress rs tm h) fun l => some (oneOr l, h, nx))) s) s) r) none

/-- a mark is taken -/
theorem Ext.take {B : Nat} {ρ0 ρ : Ren} {h0 h : Heap} {nx0 nx : Nat} {w0 w : World} (x : Ext B ρ0 h0 nx0 w0 ρ h nx w) {r : Nat} (hr : w0.heap.size ≤ r) (hn : ¬ Owns ρ h r) (o : Obj) : Ext B ρ0 h0 nx0 w0 ρ h nx (w.putObj r o) where
  le := x.le
  old := x.old
  at_ := fun b m c n e => by
    rcases x.at_ b m c n e with h | ⟨h, hb⟩
    · exact .inl h
    · refine .inr ⟨h, fun p hp => ?_⟩
      rw [World.putObj_heap_other (fun e2 => hn ⟨b, _, p, e, x.le b p hp, e2⟩)]
      exact hb p hp
  nx := x.nx
  hr := ⟨x.hr.fresh, fun b p hp => by simpa using x.hr.low b p hp, fun b y hb => by
    obtain ⟨p, hp, ho⟩ := x.hr.obj b y hb
    refine ⟨p, hp, ?_⟩
    rw [World.putObj_heap_other (fun e => hn ⟨b, y, p, hb, hp, e⟩)]
    exact ho, x.hr.inj⟩
  own := x.own
  keep := fun c hc hno => by
    rw [World.putObj_heap_other (by omega)]
    exact x.keep c hc hno
  same := ⟨x.same.os, x.same.tape, x.same.output, by simpa using x.same.size⟩

/-- the marks, at a function's end -/
theorem leaves_marks {B : Nat} {ρ0 ρ : Ren} {h0 h : Heap} {nx0 nx : Nat} {w0 : World} {P : Program} {fn : Func} {tmps : Array Value} {R : Ending → World → Prop} : ∀ (ds : List Deferred) (w : World), DefOk w0.heap.size ρ h w ds → Ext B ρ0 h0 nx0 w0 ρ h nx w →
    (∀ w', Ext B ρ0 h0 nx0 w0 ρ h nx w' → ∃ v, (results fn tmps).run P w' = .ok v w' ∧ R (.returned v) w') → LeavesInM (Fr none) 0 P fn tmps R ds .returning w := by
  intro ds
  induction ds with
  | nil => intro w _ hx hk; exact hk w hx
  | cons d ds ih =>
    intro w hd hx hk
    obtain ⟨r, rfl, h0, h1, h2, h3⟩ := hd.1 d (List.mem_cons_self ..)
    refine ⟨fun h => (by cases h), .inl ⟨r, w.putObj r (.deferred none), rfl, run_takeDeferred h2, ih _ ⟨fun d' hd' => ?_, (List.nodup_cons.1 hd.2.1).2, by simpa using hd.2.2⟩ (hx.take h0 h3 _) hk⟩⟩
    obtain ⟨r', e, q0, q1, q2, q3⟩ := hd.1 d' (List.mem_cons_of_mem _ hd')
    refine ⟨r', e, q0, by simpa using q1, ?_, q3⟩
    rw [World.putObj_heap_other]
    · exact q2
    · intro er
      subst er
      exact (List.nodup_cons.1 hd.2.1).1 (by rw [← e]; exact hd')

theorem cFun_ok {E : Env} {f : Nat} {d : Func} (hf : E.P.funcs[f]? = some d) {g : CFun} (hg : cFun E d = some g) : CFunOk E f g := by
  obtain ⟨c, hb, hg⟩ := ob_eq hg
  obtain ⟨r, hr, hg⟩ := ob_eq hg
  obtain ⟨rs, hrs, hg⟩ := ob_eq hg
  cases hg
  intro B cf hcf args h nx av h' nx' he ρ w vargs hB hhr hgr hargs
  obtain ⟨hle, he⟩ := bt_none he
  have hle := Nat.le_of_ble_eq_true hle
  rw [lenL_eq, ← hargs.length] at hle
  simp only [Array.length_toList] at hle
  rw [argsF_eq] at he
  obtain ⟨⟨x, tm1, h1, n1⟩, hrun, he⟩ := ob_eq he
  have he : ended x none (ob (ress rs tm1 h1) fun l => some (oneOr l, h1, n1)) = some (av, h', nx') := he
  have hx : x = .normal ∨ x = .ret := by cases x <;> first | exact .inl rfl | exact .inr rfl | cases he
  have he : ob (ress rs tm1 h1) (fun l => some (oneOr l, h1, n1)) = some (av, h', nx') := by rcases hx with rfl | rfl <;> exact he
  obtain ⟨l, hl, he⟩ := ob_eq he
  cases he
  refine callsIn_wide.1 (callsIn_of_wp_marks (F := Fr none) (n := 0) hf hb trivial ?_)
  have hst : St E B w.heap.size ρ (argsT args 0 .nil) h.get nx d.ntmps { tmps := vargs ++ Array.replicate (d.ntmps - vargs.size) undef, defers := [] } w := by
    refine ⟨hB, hhr, hgr, fun t v hv => ?_, by simp; omega, DefOk.nil (Nat.le_refl _)⟩
    rcases argsT_get _ _ _ _ _ hv with ⟨_, h2⟩ | h2
    · obtain ⟨u, hu, hur⟩ := hargs.get h2
      rw [Nat.sub_zero] at hu
      refine ⟨u, ?_, hur⟩
      have hlt : t < vargs.size := by
        rcases Nat.lt_or_ge t vargs.size with hl | hl
        · exact hl
        · rw [List.getElem?_eq_none (by simpa using hl)] at hu; cases hu
      rw [Array.getElem?_append_left hlt]
      simpa using hu
    · rw [T.get_nil] at h2; cases h2
  refine cCode_ok hr none (fun _ => rfl) B w.heap.size cf hcf ρ _ h nx _ w x tm1 h' nx' hst hrun _ fun a' w' ρ' hx' hs' => ?_
  have hlv : LeavesInM (Fr none) 0 E.P d a'.tmps (fun e w' => ∃ v ρ', e = .returned v ∧ Ext B ρ h.get nx w ρ' h'.get nx' w' ∧ VR ρ' (oneOr l) v) a'.defers .returning w' := by
    refine leaves_marks (B := B) (ρ0 := ρ) (h0 := h.get) (nx0 := nx) (w0 := w) a'.defers w' hs'.defers hx' fun w'' hx'' => ?_
    obtain ⟨v, hv, hvr⟩ := results_ok hrs hx''.hr (hgr.ext hhr hx'') hs'.tm hl
    exact ⟨v, hv, v, ρ', rfl, hx'', hvr⟩
  rcases hx with rfl | rfl
  · exact hlv
  · exact hlv

/-- the slots of a round -/
noncomputable def setPs {β : Type} (N : Nat) (ps : List Nat) : List AV → T AV → (T AV → Option β) → Option β :=
  List.rec (motive := fun _ => List AV → T AV → (T AV → Option β) → Option β) (fun args tm k => List.rec (motive := fun _ => Option β) (k tm) (fun _ _ _ => none) args)
    (fun p _ ih args tm k => List.rec (motive := fun _ => Option β) none (fun a r _ => bt (Nat.blt p N) (T.setK (some a) (path p) tm fun tm => ih r tm k) none) args) ps

theorem setPs_ok {β : Type} {N : Nat} {ρ : Ren} : ∀ {ps : List Nat} {args : List AV} {tm : T AV} {k : T AV → Option β} {r : β}, setPs N ps args tm k = some r → ∀ {vs : List Value} {tmps : Array Value}, VRs ρ args vs → TmR ρ tm tmps → tmps.size = N →
    ∃ tm', k tm' = some r ∧ vs.length = ps.length ∧ TmR ρ tm' ((ps.zip vs).foldl (fun tmps (t, a) => tmps.setIfInBounds t a) tmps) ∧ ((ps.zip vs).foldl (fun tmps (t, a) => tmps.setIfInBounds t a) tmps).size = N := by
  intro ps
  induction ps with
  | nil =>
    intro args tm k r h vs tmps hv ht hn
    cases args with
    | nil => rw [VRs.nil_iff] at hv; subst hv; exact ⟨tm, h, rfl, ht, hn⟩
    | cons a l => cases h
  | cons p ps ih =>
    intro args tm k r h vs tmps hv ht hn
    cases args with
    | nil => cases h
    | cons a l =>
      obtain ⟨x, xs, rfl, h1, h2⟩ := VRs.cons_iff.1 hv
      have h : bt (Nat.blt p N) (T.setK (some a) (path p) tm fun tm => setPs N ps l tm k) none = some r := h
      obtain ⟨hlt, h⟩ := bt_none h
      have hlt := blt_lt hlt
      rw [T.setK_eq] at h
      obtain ⟨tm', q1, q2, q3, q4⟩ := ih h (tmps := tmps.setIfInBounds p x) h2 (ht.set (by omega) h1) (by simp [hn])
      exact ⟨tm', q1, by simp [q2], q3, q4⟩

/-- a round of a loop over a function -/
noncomputable def yieldF (E : Env) (cf : CF) (b : Nat) (args : List AV) (h : T AObj) (nx : Nat) : Option (AV × T AObj × Nat) :=
  ob (h.get b) fun o => onLoop o none fun N tm ps asg body st => LSt.rec (motive := fun _ => Option (AV × T AObj × Nat))
    (setPs N ps args tm fun tm => ob (cCode E N true asg) fun fa => ob (cCode E N true body) fun fb => ob (fa cf tm h nx) fun r =>
      XK.rec (motive := fun _ => Option (AV × T AObj × Nat)) (ob (r.2.2.1.get b) fun o => onLoop o none fun N tm0 ps asg body st => LSt.rec (motive := fun _ => Option (AV × T AObj × Nat))
        (setH b (some (.loop N tm0 ps asg body .busy)) r.2.2.1 fun h => ob (fb cf r.2.1 h r.2.2.2) fun r => ob (r.2.2.1.get b) fun o => onLoop o none fun N tm0 ps asg body st => LSt.rec (motive := fun _ => Option (AV × T AObj × Nat)) none
          (XK.rec (motive := fun _ => Option (AV × T AObj × Nat)) (setH b (some (.loop N tm0 ps asg body .ready)) r.2.2.1 fun h => some (.bool true, h, r.2.2.2)) (fun id => setH b (some (.loop N tm0 ps asg body (.exit id))) r.2.2.1 fun h => some (.bool false, h, r.2.2.2)) (setH b (some (.loop N tm0 ps asg body .ret)) r.2.2.1 fun h => some (.bool false, h, r.2.2.2)) r.1)
          none (fun _ => none) st) none none (fun _ => none) st) (fun _ => none) none r.1) none none (fun _ => none) st

/-- calls, to a depth -/
noncomputable def callF (E : Env) (intr : T CFun) (n : Nat) : CF :=
  Nat.rec (motive := fun _ => CF) (fun _ _ _ _ => none)
    (fun _ ih c args h nx => Cal.rec (motive := fun _ => Option (AV × T AObj × Nat)) (fun f => Option.rec (motive := fun _ => Option (AV × T AObj × Nat)) (ob (E.fn.get f) fun d => ob (cFun E d) fun g => g ih args h nx) (fun g => g ih args h nx) (intr.get f)) (fun b => yieldF E ih b args h nx) c) n

theorem put_get {h : T AObj} {b : Nat} {x : AObj} (y : Nat) : (T.set (some x) b h).get y = if y = b then some x else h.get y := by
  rw [T.get_set]
  by_cases e : b = y
  · rw [if_pos e, if_pos e.symm]
  · rw [if_neg e, if_neg (Ne.symm e)]

/-- a record turned -/
theorem Ext.loop {B : Nat} {ρ : Ren} {h : T AObj} {nx : Nat} {w : World} (k : HR B ρ h.get nx w) {b N : Nat} {tm : T AV} {ps : List Nat} {asg body : Code} {st st' : LSt} {p : Place} (hb : h.get b = some (.loop N tm ps asg body st)) (hp : ρ b = some p) {r r' : Loop}
    (hr : w.heap[p.blk]? = some (.loop r)) (e : r'.tmps = r.tmps ∧ r'.params = r.params ∧ r'.assign = r.assign ∧ r'.body = r.body) (hs : LStR st' r') :
    Ext B ρ h.get nx w ρ (T.set (some (.loop N tm ps asg body st')) b h).get nx (w.putObj p.blk (.loop r')) := by
  refine Ext.put k (b := b) (by rw [hb]; rfl) hp (fun c hc => World.putObj_heap_other hc) ⟨rfl, rfl, rfl, by simp⟩ (by simp) (x := some (.loop N tm ps asg body st')) (fun o ho => ?_) put_get
  cases ho
  obtain ⟨r0, q1, q2, q3, q4, q5, q6, _⟩ := k.objAt hb hp
  rw [hr] at q1; cases q1
  refine ⟨r', World.putObj_heap_same (Array.getElem?_eq_some_iff.1 hr).1, by rw [e.1]; exact q2, by rw [e.2.1]; exact q3, by rw [e.2.2.1]; exact q4, by rw [e.2.2.2]; exact q5, by rw [e.1]; exact q6, hs⟩

theorem yieldF_ok {E : Env} {B : Nat} {cf : CF} (hcf : CfOk E B cf) {b : Nat} {args : List AV} {h : T AObj} {nx : Nat} {av : AV} {h' : T AObj} {nx' : Nat} (he : yieldF E cf b args h nx = some (av, h', nx')) {ρ : Ren} {w : World} {vargs : Array Value} {p : Place}
    (hB : B ≤ w.heap.size) (hhr : HR B ρ h.get nx w) (hgr : GR E.glob B w) (hargs : VRs ρ args vargs.toList) (hp : ρ b = some p) :
    ∃ r : Loop, w.heap[p.blk]? = some (.loop r) ∧ vargs.size = r.params.size ∧
      RoundIn (Fr none) 0 E.P p.blk r.fn (roundTmps r vargs) r.assign r.body w fun e w' => ∃ v ρ', e = .returned v ∧ Ext B ρ h.get nx w ρ' h'.get nx' w' ∧ VR ρ' av v := by
  obtain ⟨o, ho, he⟩ := ob_eq he
  obtain ⟨N, tm, ps, asg, body, st, hveq, he1⟩ := onLoop_some he
  clear he; subst hveq; have he := he1; clear he1
  obtain ⟨r, q1, q2, q3, q4, q5, q6, q7⟩ := hhr.objAt ho hp
  cases st with
  | ready =>
    obtain ⟨tm1, he, s1, s2, s3⟩ := setPs_ok he hargs q6 q2
    have hz : roundTmps r vargs = (ps.zip vargs.toList).foldl (fun tmps (t, a) => tmps.setIfInBounds t a) r.tmps := by
      unfold roundTmps
      rw [← Array.foldl_toList, Array.toList_zip, q3]
    rw [← hz] at s2 s3
    obtain ⟨fa, hfa, he⟩ := ob_eq he
    obtain ⟨fb, hfb, he⟩ := ob_eq he
    obtain ⟨⟨xa, tma, ha, na⟩, hra, he⟩ := ob_eq he
    refine ⟨r, q1, by rw [← q3] at s1; simpa using s1, ?_⟩
    have hst : St E B w.heap.size ρ tm1 h.get nx N { tmps := roundTmps r vargs, defers := [] } w := ⟨hB, hhr, hgr, s2, s3, DefOk.nil (Nat.le_refl _)⟩
    rw [q4, q5]
    refine roundIn_of_wpIn (F := Fr none) (n := 0) trivial ?_
    refine cCode_ok hfa (some p.blk) (fun hh => by cases hh) B w.heap.size cf hcf ρ tm1 h nx _ w xa tma ha na hst hra _ fun a1 w1 ρ1 x1 st1 => ?_
    cases xa with
    | exit id => cases he
    | ret => cases he
    | normal =>
      dsimp only at he
      obtain ⟨o1, ho1, he⟩ := ob_eq he
      obtain ⟨N1, tmr1, ps1, asg1, body1, sl1, hveq, he1⟩ := onLoop_some he
      clear he; subst hveq; have he := he1; clear he1
      cases sl1 with
      | busy => cases he
      | ret => cases he
      | exit id => cases he
      | ready =>
        dsimp only at he
        rw [setH_eq] at he
        have hp1 := x1.le b p hp
        obtain ⟨r1, q11, _, _, _, _, _, q17⟩ := x1.hr.objAt ho1 hp1
        have x2 := Ext.loop (st' := .busy) x1.hr ho1 hp1 q11 (r' := { r1 with state := .busy }) ⟨rfl, rfl, rfl, rfl⟩ rfl
        refine ⟨_, run_beginRound q11 q17.1, ?_⟩
        generalize w1.putObj p.blk (.loop { r1 with state := .busy }) = W2 at x2
        obtain ⟨⟨xb, tmb, hb, nb⟩, hrb, he⟩ := ob_eq he
        have hst2 : St E B w.heap.size ρ1 tma (T.set (some (.loop N1 tmr1 ps1 asg1 body1 .busy)) b ha).get na N a1 W2 :=
          ⟨Nat.le_trans st1.low x2.same.size, x2.hr, st1.gr.ext st1.hr x2, st1.tm, st1.size, st1.defers.ext x2⟩
        refine cCode_ok hfb (some p.blk) (fun hh => by cases hh) B w.heap.size cf hcf ρ1 tma _ na a1 W2 xb tmb hb nb hst2 hrb _ fun a3 w3 ρ3 x3 st3 => ?_
        obtain ⟨o3, ho3, he⟩ := ob_eq he
        obtain ⟨N3, tmr3, ps3, asg3, body3, sl3, hveq, he1⟩ := onLoop_some he
        clear he; subst hveq; have he := he1; clear he1
        have hp3 := x3.le b p hp1
        obtain ⟨r3, q31, _⟩ := x3.hr.objAt ho3 hp3
        have x03 := x1.trans (x2.trans x3)
        cases sl3 with
        | ready => cases he
        | ret => cases he
        | exit id => cases he
        | busy =>
          cases xb with
          | normal =>
            dsimp only at he
            rw [setH_eq] at he
            cases he
            exact ⟨_, _, run_endRound none q31, _, ρ3, rfl, x03.trans (Ext.loop (st' := .ready) x3.hr ho3 hp3 q31 ⟨rfl, rfl, rfl, rfl⟩ ⟨rfl, rfl⟩), rfl⟩
          | exit id =>
            dsimp only at he
            rw [setH_eq] at he
            cases he
            exact ⟨_, _, run_endRound (some (.exit id)) q31, _, ρ3, rfl, x03.trans (Ext.loop (st' := .exit id) x3.hr ho3 hp3 q31 ⟨rfl, rfl, rfl, rfl⟩ ⟨rfl, rfl⟩), rfl⟩
          | ret =>
            dsimp only at he
            rw [setH_eq] at he
            cases he
            exact ⟨_, _, run_endRound (some .ret) q31, _, ρ3, rfl, x03.trans (Ext.loop (st' := .ret) x3.hr ho3 hp3 q31 ⟨rfl, rfl, rfl, rfl⟩ ⟨rfl, rfl⟩), rfl⟩
  | _ => cases he

theorem callF_ok {E : Env} {B : Nat} {intr : T CFun} (hi : ∀ f g, intr.get f = some g → CFunOk E f g) (n : Nat) : CfOk E B (callF E intr n) := by
  induction n with
  | zero => exact ⟨fun f args h nx av h' nx' he => (by cases he), fun b args h nx av h' nx' he => (by cases he)⟩
  | succ n ih =>
    refine ⟨fun f args h nx av h' nx' he => ?_, fun b args h nx av h' nx' he ρ w vargs p hB hhr hgr hargs hp => yieldF_ok ih he hB hhr hgr hargs hp⟩
    have he : Option.rec (motive := fun _ => Option (AV × T AObj × Nat)) (ob (E.fn.get f) fun d => ob (cFun E d) fun g => g (callF E intr n) args h nx) (fun g => g (callF E intr n) args h nx) (intr.get f) = some (av, h', nx') := he
    cases hg : intr.get f with
    | none =>
      rw [hg] at he
      obtain ⟨d, hd, he⟩ := ob_eq he
      obtain ⟨g, hgd, he⟩ := ob_eq he
      exact cFun_ok (E.fn_ok f d hd) hgd B _ ih args h nx av h' nx' he
    | some g =>
      rw [hg] at he
      exact hi f g hg B _ ih args h nx av h' nx' he

/-- a run from nothing -/
theorem callF_calls {E : Env} {intr : T CFun} (hi : ∀ f g, intr.get f = some g → CFunOk E f g) {n f : Nat} {av : AV} {h' : T AObj} {nx' : Nat} (he : callF E intr n (.fn f) [] .nil 0 = some (av, h', nx')) (w : World) (hg : GR E.glob w.heap.size w) :
    Calls E.P f #[] w fun e w' => ∃ v ρ', e = .returned v ∧ Ext w.heap.size (fun _ => none) (fun _ => none) 0 w ρ' h'.get nx' w' ∧ VR ρ' av v :=
  (callF_ok (B := w.heap.size) hi n).fn f [] .nil 0 av h' nx' he (fun _ => none) w #[] (Nat.le_refl _) ⟨fun _ _ => rfl, fun _ _ h => (by cases h), fun _ _ h => (by cases h), fun _ _ _ _ _ _ h => (by cases h)⟩ hg VRs.nil
end Go.Vm

namespace Go.Vm

/-- the trie of a list: those that pass -/
noncomputable def ofL {α : Type} (ok : α → Bool) (l : List α) : Nat → T α → T α :=
  List.rec (motive := fun _ => Nat → T α → T α) (fun _ t => t) (fun a _ ih i t => bt (ok a) (T.setK (some a) (path i) t fun t => ih (Nat.succ i) t) (ih (Nat.succ i) t)) l
theorem ofL_get {α : Type} {ok : α → Bool} : ∀ {l : List α} {i : Nat} {t : T α} {n : Nat} {a : α}, (ofL ok l i t).get n = some a → (i ≤ n ∧ l[n - i]? = some a ∧ ok a = true) ∨ t.get n = some a := by
  intro l
  induction l with
  | nil => intro i t n a h; exact .inr h
  | cons b l ih =>
    intro i t n a h
    have h : (bt (ok b) (T.setK (some b) (path i) t fun t => ofL ok l (Nat.succ i) t) (ofL ok l (Nat.succ i) t)).get n = some a := h
    cases hb : ok b with
    | false =>
      rw [hb] at h
      rcases ih h with ⟨h1, h2, h3⟩ | h
      · refine .inl ⟨by omega, ?_, h3⟩
        have e : n - i = (n - (i + 1)) + 1 := by omega
        rw [e]; simpa using h2
      · exact .inr h
    | true =>
      rw [hb, bt_true, T.setK_eq] at h
      rcases ih h with ⟨h1, h2, h3⟩ | h
      · refine .inl ⟨by omega, ?_, h3⟩
        have e : n - i = (n - (i + 1)) + 1 := by omega
        rw [e]; simpa using h2
      · have h : (T.set (some b) i t).get n = some a := h
        rw [T.get_set] at h
        by_cases e : i = n
        · rw [if_pos e] at h; cases h
          have e2 : n - i = 0 := by omega
          exact .inl ⟨by omega, by rw [e2]; rfl, hb⟩
        · rw [if_neg e] at h; exact .inr h

def okFn (d : Func) : Bool := d.body.isSome && d.name != "runtime.NumGoroutine"

theorem callFunc_ok {P : Program} {f : Nat} {d : Func} (hf : P.funcs[f]? = some d) (hd : okFn d = true) (args : Array Value) (w : World) : (callFunc f args).run P w = .ok (.enter f args) w := by
  unfold okFn at hd
  simp only [Bool.and_eq_true, bne_iff_ne, ne_eq] at hd
  obtain ⟨h1, h2⟩ := hd
  cases hb : d.body with
  | none => rw [hb] at h1; cases h1
  | some c => simp [callFunc, hf, h2, hb]

theorem info_ok {P : Program} {t : Nat} {i : TypeInfo} (h : P.types[t]? = some i) : P.info? t = some i := by
  have hlt : t < P.types.size := (Array.getElem?_eq_some_iff.1 h).1
  show (if t < P.types.size then P.types[t]? else _) = _
  rw [if_pos hlt, h]

/-- the environment, from tries that are written out -/
noncomputable def mkEnv (tree : List (String × Nat × OT × List Nat)) (P : Program) (ty : T TypeInfo) (fn : T Func) (glob : T (T AV)) (hty : ty = ofL (fun _ => true) P.types.toList 0 .nil) (hfn : fn = ofL okFn P.funcs.toList 0 .nil) (hm : P.follows .mixedOrders = true) : Env where
  tree := tree
  P := P
  ty := ty
  fn := fn
  glob := glob
  ty_ok := fun t i h => by
    rw [hty] at h
    rcases ofL_get h with ⟨_, h2, _⟩ | h2
    · exact info_ok (by simpa using h2)
    · rw [T.get_nil] at h2; cases h2
  fn_ok := fun f d h => by
    rw [hfn] at h
    rcases ofL_get h with ⟨_, h2, _⟩ | h2
    · simpa using h2
    · rw [T.get_nil] at h2; cases h2
  mixed := hm
  call_ok := fun f d h args w => by
    rw [hfn] at h
    rcases ofL_get h with ⟨_, h2, h3⟩ | h2
    · exact callFunc_ok (by simpa using h2) h3 args w
    · rw [T.get_nil] at h2; cases h2
end Go.Vm

namespace Go.Vm

/-! ### Tries, put together -/
noncomputable def delK {α β : Type} (u : T α) : T α → (T α → β) → β :=
  T.rec (motive := fun _ => T α → (T α → β) → β) (fun h k => k h)
    (fun _ v _ il ir h k => T.rec (motive := fun _ => β) (k .nil) (fun l' v' r' _ _ => il l' fun l2 => ir r' fun r2 => Option.rec (motive := fun _ => β) (k (.node l2 v' r2)) (fun _ => k (.node l2 none r2)) v) h) u
noncomputable def del {α : Type} (u h : T α) : T α := delK u h id
theorem delK_eq {α : Type} : ∀ (u h : T α) {β : Type} (k : T α → β), delK u h k = k (del u h) := by
  intro u
  induction u with
  | nil => intro h β k; rfl
  | node l v r ihl ihr =>
    intro h β k
    cases h with
    | nil => rfl
    | node l' v' r' =>
      show delK l l' (fun l2 => delK r r' fun r2 => Option.rec (motive := fun _ => β) (k (.node l2 v' r2)) (fun _ => k (.node l2 none r2)) v) = k (delK l l' fun l2 => delK r r' fun r2 => Option.rec (motive := fun _ => T α) (.node l2 v' r2) (fun _ => .node l2 none r2) v)
      rw [ihl, ihr]
      cases v
      · rw [ihl, ihr]
      · rw [ihl, ihr]
theorem del_node {α : Type} (l r l' r' : T α) (v v' : Option α) : del (.node l v r) (.node l' v' r') = .node (del l l') (Option.rec (motive := fun _ => Option α) v' (fun _ => none) v) (del r r') := by
  show delK l l' (fun l2 => delK r r' fun r2 => Option.rec (motive := fun _ => T α) (.node l2 v' r2) (fun _ => .node l2 none r2) v) = _
  rw [delK_eq, delK_eq]
  cases v <;> rfl
theorem del_getP {α : Type} : ∀ (u h : T α) (p : List Bool), (del u h).getP p = if (u.getP p).isSome then none else h.getP p := by
  intro u
  induction u with
  | nil => intro h p; rfl
  | node l v r ihl ihr =>
    intro h p
    cases h with
    | nil => show none = _; split <;> rfl
    | node l' v' r' =>
      rw [del_node]
      cases p with
      | nil => rw [T.getP_node_nil, T.getP_node_nil, T.getP_node_nil]; cases v <;> rfl
      | cons b p =>
        rw [T.getP_node_cons, T.getP_node_cons, T.getP_node_cons]
        split
        · exact ihr _ _
        · exact ihl _ _
noncomputable def layK {α β : Type} (u : T α) : T α → (T α → β) → β :=
  T.rec (motive := fun _ => T α → (T α → β) → β) (fun h k => k h)
    (fun l v r il ir h k => T.rec (motive := fun _ => β) (k (.node l v r)) (fun l' v' r' _ _ => il l' fun l2 => ir r' fun r2 => Option.rec (motive := fun _ => β) (k (.node l2 v' r2)) (fun x => k (.node l2 (some x) r2)) v) h) u
noncomputable def lay {α : Type} (u h : T α) : T α := layK u h id
theorem layK_eq {α : Type} : ∀ (u h : T α) {β : Type} (k : T α → β), layK u h k = k (lay u h) := by
  intro u
  induction u with
  | nil => intro h β k; rfl
  | node l v r ihl ihr =>
    intro h β k
    cases h with
    | nil => rfl
    | node l' v' r' =>
      show layK l l' (fun l2 => layK r r' fun r2 => Option.rec (motive := fun _ => β) (k (.node l2 v' r2)) (fun x => k (.node l2 (some x) r2)) v) = k (layK l l' fun l2 => layK r r' fun r2 => Option.rec (motive := fun _ => T α) (.node l2 v' r2) (fun x => .node l2 (some x) r2) v)
      rw [ihl, ihr]
      cases v
      · rw [ihl, ihr]
      · rw [ihl, ihr]
theorem lay_node {α : Type} (l r l' r' : T α) (v v' : Option α) : lay (.node l v r) (.node l' v' r') = .node (lay l l') (Option.rec (motive := fun _ => Option α) v' (fun x => some x) v) (lay r r') := by
  show layK l l' (fun l2 => layK r r' fun r2 => Option.rec (motive := fun _ => T α) (.node l2 v' r2) (fun x => .node l2 (some x) r2) v) = _
  rw [layK_eq, layK_eq]
  cases v <;> rfl
theorem lay_getP {α : Type} : ∀ (u h : T α) (p : List Bool), (lay u h).getP p = if (u.getP p).isSome then u.getP p else h.getP p := by
  intro u
  induction u with
  | nil => intro h p; rfl
  | node l v r ihl ihr =>
    intro h p
    cases h with
    | nil =>
      show (T.node l v r).getP p = _
      cases hh : (T.node l v r).getP p <;> rfl
    | node l' v' r' =>
      rw [lay_node]
      cases p with
      | nil => rw [T.getP_node_nil, T.getP_node_nil, T.getP_node_nil]; cases v <;> rfl
      | cons b p =>
        rw [T.getP_node_cons, T.getP_node_cons, T.getP_node_cons]
        split
        · exact ihr _ _
        · exact ihl _ _

/-- a part of the heap is given back -/
theorem over_ok {B : Nat} {ρ ρ' : Ren} {h h0 h1 : T AObj} {nx nx' : Nat} {w w' : World} (k : HR B ρ h.get nx w) (hs : ∀ b o, h0.get b = some o → h.get b = some o) (e : Ext B ρ h0.get nx w ρ' h1.get nx' w') :
    Ext B ρ h.get nx w ρ' (lay h1 (del h0 h)).get nx' w' := by
  have hlt : ∀ b o, h.get b = some o → b < nx := fun b o hb => by
    obtain ⟨p, hp, _⟩ := k.obj b o hb
    rcases Nat.lt_or_ge b nx with hl | hl
    · exact hl
    · rw [k.fresh b hl] at hp; cases hp
  have key := Ext.frame (h' := h1.get) (H' := fun b => if (h.get b).isSome ∧ h0.get b = none then h.get b else h1.get b) k e (fun b => (h.get b).isSome ∧ h0.get b = none)
    (fun b hb => by obtain ⟨o, ho⟩ := Option.isSome_iff_exists.1 hb.1; exact hlt b o ho)
    (fun b hb => by
      cases h1 : h0.get b with
      | some o => exact hs b o h1
      | none =>
        cases h2 : h.get b with
        | none => rfl
        | some o => exact absurd ⟨by rw [h2]; rfl, h1⟩ hb)
    (fun b hb => hb.2) (fun b hb => by show (if _ then _ else _) = _; rw [if_neg hb]) (fun b hb => by show (if _ then _ else _) = _; rw [if_pos hb])
  have e2 : (lay h1 (del h0 h)).get = fun b => if (h.get b).isSome ∧ h0.get b = none then h.get b else h1.get b := by
    funext b
    have h3 : (lay h1 (del h0 h)).get b = if (h1.get b).isSome then h1.get b else if (h0.get b).isSome then none else h.get b := by
      show (lay h1 (del h0 h)).getP (path b) = _
      rw [lay_getP, del_getP]; rfl
    rw [h3]
    by_cases hX : (h.get b).isSome ∧ h0.get b = none
    · rw [if_pos hX]
      obtain ⟨o, ho⟩ := Option.isSome_iff_exists.1 hX.1
      have := key.2 b o hX ho
      rw [this, hX.2]; rfl
    · rw [if_neg hX]
      cases hh1 : h1.get b with
      | some o => rfl
      | none =>
        show (if (h0.get b).isSome then none else h.get b) = none
        cases hh0 : h0.get b with
        | some o => rfl
        | none =>
          show h.get b = none
          cases hh : h.get b with
          | none => rfl
          | some o => exact absurd ⟨by rw [hh]; rfl, hh0⟩ hX
  rw [e2]; exact key.1

/-! ### The part of the heap that values reach -/
section
variable {β : Type}
noncomputable def foldL (f : AV → T AObj → (T AObj → β) → β) (l : List AV) : T AObj → (T AObj → β) → β :=
  List.rec (motive := fun _ => T AObj → (T AObj → β) → β) (fun acc k => k acc) (fun a _ ih acc k => f a acc fun acc => ih acc k) l
noncomputable def foldE (f : AV → T AObj → (T AObj → β) → β) (l : List (AV × AV)) : T AObj → (T AObj → β) → β :=
  List.rec (motive := fun _ => T AObj → (T AObj → β) → β) (fun acc k => k acc) (fun a _ ih acc k => f a.1 acc fun acc => f a.2 acc fun acc => ih acc k) l
noncomputable def foldT (f : AV → T AObj → (T AObj → β) → β) (t : T AV) : T AObj → (T AObj → β) → β :=
  T.rec (motive := fun _ => T AObj → (T AObj → β) → β) (fun acc k => k acc) (fun _ v _ il ir acc k => il acc fun acc => Option.rec (motive := fun _ => β) (ir acc k) (fun a => f a acc fun acc => ir acc k) v) t
noncomputable def kids (f : AV → T AObj → (T AObj → β) → β) (o : AObj) (acc : T AObj) (k : T AObj → β) : β :=
  AObj.rec (motive := fun _ => β) (fun _ _ cs => foldT f cs acc k) (fun es => foldE f es acc k) (fun _ _ _ => k acc) (fun m _ _ => Option.rec (motive := fun _ => β) (k acc) (fun m => f (.map m) acc k) m)
    (fun _ tm _ _ _ _ => foldT f tm acc k) (fun m _ _ => f (.map m) acc k) (fun _ _ _ => k acc) o
noncomputable def blkR (h : T AObj) (f : AV → T AObj → (T AObj → β) → β) (b : Nat) (acc : T AObj) (k : T AObj → β) : β :=
  Option.rec (motive := fun _ => β) (Option.rec (motive := fun _ => β) (k acc) (fun o => setH b (some o) acc fun acc => kids f o acc k) (h.get b)) (fun _ => k acc) (acc.get b)
noncomputable def reachV (h : T AObj) (n : Nat) : AV → T AObj → (T AObj → β) → β :=
  Nat.rec (motive := fun _ => AV → T AObj → (T AObj → β) → β) (fun _ acc k => k acc) (fun _ ih v acc k =>
    AV.rec (motive_1 := fun _ => β) (motive_2 := fun _ => Unit) (fun _ => k acc) (fun _ _ => k acc) (fun _ _ => k acc) (fun b _ => blkR h ih b acc k) (k acc) (fun _ _ => k acc) (fun b _ _ _ _ => blkR h ih b acc k) (k acc) (fun b => blkR h ih b acc k) (k acc)
      (fun fn first cap _ _ => Fn.rec (motive := fun _ => β) (fun _ => foldL ih first acc fun acc => foldL ih cap acc k) (fun _ => foldL ih first acc fun acc => foldL ih cap acc k) (fun _ _ => foldL ih first acc fun acc => foldL ih cap acc k) (fun _ _ _ _ => foldL ih first acc fun acc => foldL ih cap acc k) (fun b => blkR h ih b acc fun acc => foldL ih first acc fun acc => foldL ih cap acc k) fn)
      (k acc) (fun _ v _ => ih v acc k) (k acc) (fun l _ => foldL ih l acc k) (fun l _ => foldL ih l acc k) () (fun _ _ _ _ => ()) v) n

def RchOk (h : T AObj) (f : AV → T AObj → (T AObj → β) → β) : Prop :=
  ∀ (v : AV) (acc : T AObj) (k : T AObj → β), (∀ b o, acc.get b = some o → h.get b = some o) → ∃ acc', f v acc k = k acc' ∧ ∀ b o, acc'.get b = some o → h.get b = some o

theorem foldL_ok {h : T AObj} {f : AV → T AObj → (T AObj → β) → β} (hf : RchOk h f) : ∀ (l : List AV) (acc : T AObj) (k : T AObj → β), (∀ b o, acc.get b = some o → h.get b = some o) → ∃ acc', foldL f l acc k = k acc' ∧ ∀ b o, acc'.get b = some o → h.get b = some o := by
  intro l
  induction l with
  | nil => intro acc k ha; exact ⟨acc, rfl, ha⟩
  | cons a l ih =>
    intro acc k ha
    obtain ⟨acc1, e1, h1⟩ := hf a acc (fun acc => foldL f l acc k) ha
    obtain ⟨acc2, e2, h2⟩ := ih acc1 k h1
    exact ⟨acc2, e1.trans e2, h2⟩
theorem foldE_ok {h : T AObj} {f : AV → T AObj → (T AObj → β) → β} (hf : RchOk h f) : ∀ (l : List (AV × AV)) (acc : T AObj) (k : T AObj → β), (∀ b o, acc.get b = some o → h.get b = some o) → ∃ acc', foldE f l acc k = k acc' ∧ ∀ b o, acc'.get b = some o → h.get b = some o := by
  intro l
  induction l with
  | nil => intro acc k ha; exact ⟨acc, rfl, ha⟩
  | cons a l ih =>
    intro acc k ha
    obtain ⟨acc1, e1, h1⟩ := hf a.1 acc (fun acc => f a.2 acc fun acc => foldE f l acc k) ha
    obtain ⟨acc2, e2, h2⟩ := hf a.2 acc1 (fun acc => foldE f l acc k) h1
    obtain ⟨acc3, e3, h3⟩ := ih acc2 k h2
    exact ⟨acc3, e1.trans (e2.trans e3), h3⟩
theorem foldT_ok {h : T AObj} {f : AV → T AObj → (T AObj → β) → β} (hf : RchOk h f) : ∀ (t : T AV) (acc : T AObj) (k : T AObj → β), (∀ b o, acc.get b = some o → h.get b = some o) → ∃ acc', foldT f t acc k = k acc' ∧ ∀ b o, acc'.get b = some o → h.get b = some o := by
  intro t
  induction t with
  | nil => intro acc k ha; exact ⟨acc, rfl, ha⟩
  | node l v r ihl ihr =>
    intro acc k ha
    cases v with
    | none =>
      obtain ⟨acc1, e1, h1⟩ := ihl acc (fun acc => foldT f r acc k) ha
      obtain ⟨acc2, e2, h2⟩ := ihr acc1 k h1
      exact ⟨acc2, e1.trans e2, h2⟩
    | some a =>
      obtain ⟨acc1, e1, h1⟩ := ihl acc (fun acc => f a acc fun acc => foldT f r acc k) ha
      obtain ⟨acc2, e2, h2⟩ := hf a acc1 (fun acc => foldT f r acc k) h1
      obtain ⟨acc3, e3, h3⟩ := ihr acc2 k h2
      exact ⟨acc3, e1.trans (e2.trans e3), h3⟩
theorem kids_ok {h : T AObj} {f : AV → T AObj → (T AObj → β) → β} (hf : RchOk h f) (o : AObj) (acc : T AObj) (k : T AObj → β) (ha : ∀ b o, acc.get b = some o → h.get b = some o) : ∃ acc', kids f o acc k = k acc' ∧ ∀ b o, acc'.get b = some o → h.get b = some o := by
  cases o with
  | cells et n cs => exact foldT_ok hf cs acc k ha
  | map es => exact foldE_ok hf es acc k ha
  | miter m s e =>
    cases m with
    | none => exact ⟨acc, rfl, ha⟩
    | some m => exact hf (.map m) acc k ha
  | loop N tm ps a b st => exact foldT_ok hf tm acc k ha
  | mitat m s e => exact hf (.map m) acc k ha
  | _ => exact ⟨acc, rfl, ha⟩
theorem blkR_ok {h : T AObj} {f : AV → T AObj → (T AObj → β) → β} (hf : RchOk h f) (b : Nat) (acc : T AObj) (k : T AObj → β) (ha : ∀ b o, acc.get b = some o → h.get b = some o) : ∃ acc', blkR h f b acc k = k acc' ∧ ∀ b o, acc'.get b = some o → h.get b = some o := by
  unfold blkR
  cases hb : acc.get b with
  | some o => exact ⟨acc, rfl, ha⟩
  | none =>
    cases hh : h.get b with
    | none => exact ⟨acc, rfl, ha⟩
    | some o =>
      dsimp only
      rw [setH_eq]
      refine kids_ok hf o _ k fun y x e => ?_
      rw [T.get_set] at e
      by_cases hy : b = y
      · rw [if_pos hy] at e; cases e; subst hy; exact hh
      · rw [if_neg hy] at e; exact ha y x e
theorem reachV_ok (h : T AObj) : ∀ n, RchOk (β := β) h (reachV h n) := by
  intro n
  induction n with
  | zero => intro v acc k ha; exact ⟨acc, rfl, ha⟩
  | succ n ih =>
    intro v acc k ha
    have two : ∀ (first cap : List AV) (acc : T AObj) (k : T AObj → β), (∀ b o, acc.get b = some o → h.get b = some o) → ∃ acc', foldL (reachV h n) first acc (fun acc => foldL (reachV h n) cap acc k) = k acc' ∧ ∀ b o, acc'.get b = some o → h.get b = some o := fun first cap acc k ha => by
      obtain ⟨acc1, e1, h1⟩ := foldL_ok ih first acc (fun acc => foldL (reachV h n) cap acc k) ha
      obtain ⟨acc2, e2, h2⟩ := foldL_ok ih cap acc1 k h1
      exact ⟨acc2, e1.trans e2, h2⟩
    cases v with
    | ptr b o => exact blkR_ok ih b acc k ha
    | slice b o l c e => exact blkR_ok ih b acc k ha
    | map b => exact blkR_ok ih b acc k ha
    | iface t v => exact ih v acc k ha
    | agg l => exact foldL_ok ih l acc k ha
    | tuple l => exact foldL_ok ih l acc k ha
    | func fn first cap =>
      cases fn with
      | yield b =>
        obtain ⟨acc1, e1, h1⟩ := blkR_ok ih b acc (fun acc => foldL (reachV h n) first acc fun acc => foldL (reachV h n) cap acc k) ha
        obtain ⟨acc2, e2, h2⟩ := two first cap acc1 k h1
        exact ⟨acc2, e1.trans e2, h2⟩
      | _ => exact two first cap acc k ha
    | _ => exact ⟨acc, rfl, ha⟩
end

/-- a call that sees the part of the heap alone that its arguments reach -/
noncomputable def framed (g : CFun) : CFun := fun cf args h nx => foldL (reachV h 64) args .nil fun h0 => ob (g cf args h0 nx) fun r => delK h0 h fun h1 => layK r.2.1 h1 fun h2 => some (r.1, h2, r.2.2)
theorem framed_ok {E : Env} {f : Nat} {g : CFun} (hg : CFunOk E f g) : CFunOk E f (framed g) := by
  intro B cf hcf args h nx av h' nx' he ρ w vargs hB hr hgr hargs
  obtain ⟨h0, e1, hs⟩ := foldL_ok (reachV_ok h 64) args .nil (fun h0 => ob (g cf args h0 nx) fun r => delK h0 h fun h1 => layK r.2.1 h1 fun h2 => some (r.1, h2, r.2.2)) fun b o e => by rw [T.get_nil] at e; cases e
  have he : foldL (reachV h 64) args .nil (fun h0 => ob (g cf args h0 nx) fun r => delK h0 h fun h1 => layK r.2.1 h1 fun h2 => some (r.1, h2, r.2.2)) = some (av, h', nx') := he
  rw [e1] at he
  obtain ⟨⟨av1, h1, nx1⟩, hrun, he⟩ := ob_eq he
  rw [delK_eq, layK_eq] at he
  cases he
  refine (hg B cf hcf args h0 nx _ h1 _ hrun ρ w vargs hB (hr.sub hs) hgr hargs).mono ?_
  rintro e w' ⟨v, ρ', rfl, hx, hv⟩
  exact ⟨v, ρ', rfl, over_ok hr hs hx, hv⟩

/-- a function, compiled -/
noncomputable def plainF (E : Env) (f : Nat) : CFun := fun cf args h nx => ob (E.fn.get f) fun d => ob (cFun E d) fun g => g cf args h nx
theorem plainF_ok {E : Env} {f : Nat} : CFunOk E f (plainF E f) := by
  intro B cf hcf args h nx av h' nx' he
  obtain ⟨d, hd, he⟩ := ob_eq he
  obtain ⟨g, hgd, he⟩ := ob_eq he
  exact cFun_ok (E.fn_ok f d hd) hgd B cf hcf args h nx av h' nx' he

/-! ### Outcomes that are written out -/
noncomputable def chk (o : Option (AV × T AObj × Nat)) (av : AV) (h : T AObj) (nx : Nat) : Bool :=
  Option.rec (motive := fun _ => Bool) false (fun r => bt (avEqN 6 av r.1) (bt (subT objSub h r.2.1) (Nat.beq nx r.2.2) false) false) o
noncomputable def memoF (args0 : List AV) (h0 : T AObj) (nx0 : Nat) (av : AV) (h1 : T AObj) (nx1 : Nat) (g : CFun) : CFun := fun cf args h nx =>
  bt (bt (eqLs (avEqN 6) args0 args) (bt (Nat.beq nx0 nx) (subT objSub h0 h) false) false) (delK h0 h fun h2 => layK h1 h2 fun h2 => some (av, h2, nx1)) (g cf args h nx)

theorem memo_ok {E : Env} {intr : T CFun} (hi : ∀ f g, intr.get f = some g → CFunOk E f g) {n f : Nat} {args0 : List AV} {h0 h1 : T AObj} {nx0 nx1 : Nat} {av : AV} {g : CFun} (hg : CFunOk E f g) (he : chk (callF E intr n (.fn f) args0 h0 nx0) av h1 nx1 = true) :
    CFunOk E f (memoF args0 h0 nx0 av h1 nx1 g) := by
  intro B cf hcf args h nx av' h' nx' hrun ρ w vargs hB hr hgr hargs
  have hrun : bt (bt (eqLs (avEqN 6) args0 args) (bt (Nat.beq nx0 nx) (subT objSub h0 h) false) false) (delK h0 h fun h2 => layK h1 h2 fun h2 => some (av, h2, nx1)) (g cf args h nx) = some (av', h', nx') := hrun
  cases hc : bt (eqLs (avEqN 6) args0 args) (bt (Nat.beq nx0 nx) (subT objSub h0 h) false) false with
  | false => rw [hc] at hrun; exact hg B cf hcf args h nx av' h' nx' hrun ρ w vargs hB hr hgr hargs
  | true =>
    rw [hc, bt_true, delK_eq, layK_eq] at hrun
    cases hrun
    obtain ⟨c1, c2⟩ := bt_and hc
    obtain ⟨c2, c3⟩ := bt_and c2
    have c1 := eqLs_ok (avEqN_ok 6) c1
    have c2 := Nat.eq_of_beq_eq_true c2
    subst c1 c2
    have hsub : ∀ b o, h0.get b = some o → ∃ o', h.get b = some o' ∧ objSub o o' = true := fun b o e => subT_ok (R := fun o o' => objSub o o' = true) (fun x y hxy => hxy) c3 (path b) o e
    cases hcall : callF E intr n (.fn f) args0 h0 nx0 with
    | none => rw [hcall] at he; cases he
    | some r =>
      obtain ⟨av2, h2, nx2⟩ := r
      rw [hcall] at he
      have he : bt (avEqN 6 av av2) (bt (subT objSub h1 h2) (Nat.beq nx1 nx2) false) false = true := he
      obtain ⟨d1, d9⟩ := bt_and he
      obtain ⟨d2, d3⟩ := bt_and d9
      have d1 := avEqN_ok 6 _ _ d1
      have d3 := Nat.eq_of_beq_eq_true d3
      subst d1 d3
      have hsub2 : ∀ b o, h1.get b = some o → ∃ o', h2.get b = some o' ∧ objSub o o' = true := fun b o e => subT_ok (R := fun o o' => objSub o o' = true) (fun x y hxy => hxy) d2 (path b) o e
      -- the heap as the words say it
      have hw : (lay h0 h).get = fun b => if (h0.get b).isSome then h0.get b else h.get b := by
        funext b
        show (lay h0 h).getP (path b) = _
        rw [lay_getP]; rfl
      have hwl : ∀ b o, (lay h0 h).get b = some o → ∃ o', h.get b = some o' ∧ ∀ (ρ : Ren) (p : Place) (x : Option Obj), ObjR ρ o' p x → ObjR ρ o p x := fun b o e => by
        rw [hw] at e
        dsimp only at e
        cases hb : h0.get b with
        | none => rw [hb] at e; exact ⟨o, e, fun _ _ _ h => h⟩
        | some o2 =>
          rw [hb] at e; cases e
          obtain ⟨o', e', hoo⟩ := hsub b o hb
          exact ⟨o', e', fun _ _ _ h => objSub_ok hoo h⟩
      have hrw := hr.less hwl
      have hs0 : ∀ b o, h0.get b = some o → (lay h0 h).get b = some o := fun b o e => by rw [hw]; dsimp only; rw [e]; rfl
      refine ((callF_ok (B := B) hi n).fn f args0 h0 nx0 av h2 nx1 hcall ρ w vargs hB (hrw.sub hs0) hgr hargs).mono ?_
      rintro e w' ⟨v, ρ', rfl, hx, hv⟩
      refine ⟨v, ρ', rfl, ?_, hv⟩
      have hx1 : Ext B ρ h0.get nx0 w ρ' h1.get nx1 w' := hx.less (fun b o e => by
        obtain ⟨o', e', hoo⟩ := hsub2 b o e
        exact ⟨o', e', fun _ _ _ h => objSub_ok hoo h⟩) fun b m c n e => by
        obtain ⟨o', e', hoo⟩ := hsub2 b _ e
        cases hoo
      have hx2 := over_ok hrw hs0 hx1
      have hdel : (lay h1 (del h0 (lay h0 h))).get = (lay h1 (del h0 h)).get := by
        funext b
        show (lay h1 (del h0 (lay h0 h))).getP (path b) = (lay h1 (del h0 h)).getP (path b)
        rw [lay_getP, lay_getP, del_getP, del_getP, lay_getP]
        cases h0.getP (path b) <;> rfl
      rw [hdel] at hx2
      have hdom : ∀ b o, (lay h0 h).get b = some o → ∃ o', h.get b = some o' := fun b o e => let ⟨o', e', _⟩ := hwl b o e; ⟨o', e'⟩
      refine { le := hx2.le, old := hx2.old, nx := hx2.nx, hr := hx2.hr, same := hx2.same, at_ := fun b m c n e => ?_, own := fun c hc => ?_, keep := fun c hc hn => ?_ }
      · rcases hx2.at_ b m c n e with h3 | ⟨h3, h4⟩
        · exact .inl h3
        · refine .inr ⟨?_, h4⟩
          rw [hw] at h3
          dsimp only at h3
          cases hb : h0.get b with
          | none => rw [hb] at h3; exact h3
          | some o2 =>
            rw [hb] at h3; cases h3
            obtain ⟨o', e', hoo⟩ := hsub b _ hb
            cases hoo
      · exact (hx2.own c hc).imp id (Owns.less hdom)
      · exact hx2.keep c hc fun ho => hn (ho.less hdom)
end Go.Vm

namespace Go.Vm
open Go.RowKit

theorem Ext.below {B : Nat} {ρ : Ren} {h : Heap} {nx : Nat} {w w' : World} (k : HR B ρ h nx w) (b : Below w.heap.size w w') : Ext B ρ h nx w ρ h nx w' where
  le := Ren.le_refl _
  old := fun _ _ => rfl
  at_ := fun b' m c n e => .inr ⟨e, fun p hp => b.block p.blk (k.low b' p hp).2⟩
  nx := Nat.le_refl _
  hr := ⟨k.fresh, fun b' p hp => ⟨(k.low b' p hp).1, Nat.lt_of_lt_of_le (k.low b' p hp).2 b.size⟩, fun b' x hb => by
    obtain ⟨p, hp, ho⟩ := k.obj b' x hb
    exact ⟨p, hp, by rw [b.block p.blk (k.low b' p hp).2]; exact ho⟩, k.inj⟩
  own := fun _ h => .inr h
  keep := fun c hc _ => b.block c hc
  same := ⟨b.os, b.tape, b.output, b.size⟩

/-- two arguments -/
noncomputable def args2 {β : Type} (l : List AV) (z : β) (k : AV → AV → β) : β :=
  List.rec (motive := fun _ => β) z (fun a r _ => List.rec (motive := fun _ => β) z (fun b r _ => List.rec (motive := fun _ => β) (k a b) (fun _ _ _ => z) r) r) l
theorem args2_some {β : Type} {l : List AV} {k : AV → AV → Option β} {r : β} (h : args2 l none k = some r) : ∃ a b, l = [a, b] ∧ k a b = some r := by
  match l, h with
  | [a, b], h => exact ⟨a, b, rfl, h⟩
  | [], h => cases h
  | [_], h => cases h
  | _ :: _ :: _ :: _, h => cases h
noncomputable def args1 {β : Type} (l : List AV) (z : β) (k : AV → β) : β :=
  List.rec (motive := fun _ => β) z (fun a r _ => List.rec (motive := fun _ => β) (k a) (fun _ _ _ => z) r) l
theorem args1_some {β : Type} {l : List AV} {k : AV → Option β} {r : β} (h : args1 l none k = some r) : ∃ a, l = [a] ∧ k a = some r := by
  match l, h with
  | [a], h => exact ⟨a, rfl, h⟩
  | [], h => cases h
  | _ :: _ :: _, h => cases h

/-- the place of a byte in a packed string -/
noncomputable def idxF (n : Nat) : Nat → Nat → Nat → Int :=
  Nat.rec (motive := fun _ => Nat → Nat → Nat → Int) (fun _ _ _ => .negSucc 0) (fun _ ih bits c i => bt (Nat.beq (Nat.mod bits 256) c) (.ofNat i) (forceN (Nat.div bits 256) fun b => forceN (Nat.succ i) fun i => ih b c i)) n
noncomputable def iIndexByte : CFun := fun _ args h nx => args2 args none fun s c => s.onStr none fun n bits => c.onInt none fun kk k => bt (kEq kk .u8) (natI k none fun k => bt (Nat.blt k 256) (forceI (idxF n bits k 0) fun r => some (.int .i64 r, h, nx)) none) none

theorem idxF_ok (c : UInt8) : ∀ (l : List UInt8) (i : Nat), idxF l.length (pack l) c.toNat i = if Lib.indexByte l c = -1 then -1 else Lib.indexByte l c + i := by
  intro l
  induction l with
  | nil => intro i; rfl
  | cons b l ih =>
    intro i
    have h1 : pack (b :: l) % 256 = b.toNat := by
      have := b.toNat_lt
      show (b.toNat + 256 * pack l) % 256 = _
      omega
    have h2 : pack (b :: l) / 256 = pack l := by
      have := b.toNat_lt
      show (b.toNat + 256 * pack l) / 256 = _
      omega
    show bt (Nat.beq (Nat.mod (pack (b :: l)) 256) c.toNat) (Int.ofNat i) (forceN (Nat.div (pack (b :: l)) 256) fun b => forceN (Nat.succ i) fun i => idxF l.length b c.toNat i) = _
    rw [forceN_eq, forceN_eq]
    have e1 : Nat.mod (pack (b :: l)) 256 = b.toNat := h1
    have e2 : Nat.div (pack (b :: l)) 256 = pack l := h2
    rw [e1, e2, ih]
    have hge := Lib.indexByte_ge l c
    by_cases hbc : b = c
    · subst hbc
      have : Nat.beq b.toNat b.toNat = true := Nat.beq_refl _
      rw [this]
      simp [Lib.indexByte]
    · have hne : ¬ b.toNat = c.toNat := fun h => hbc (UInt8.toNat_inj.1 h)
      have : Nat.beq b.toNat c.toNat = false := by
        cases hq : Nat.beq b.toNat c.toNat with
        | false => rfl
        | true => exact absurd (Nat.eq_of_beq_eq_true hq) hne
      rw [this, bt_false]
      have hbc' : (b == c) = false := by simpa using hbc
      simp only [Lib.indexByte, hbc']
      by_cases hm : Lib.indexByte l c = -1
      · simp [hm]
      · have h3 : ¬ (Lib.indexByte l c == -1) = true := by simpa using hm
        simp only [hm, if_false, h3, Bool.false_eq_true]
        have : ¬ Lib.indexByte l c + 1 = -1 := by omega
        rw [if_neg this]
        omega

theorem iIndexByte_ok {E : Env} {f : Nat} (H : ∀ (s : ByteArray) (c : Int) (w : World), Calls E.P f #[.string s, .int .u8 c] w fun e w' => e = .returned (.int .i64 (Lib.indexByte s.data.toList c.toNat.toUInt8)) ∧ w' = w) : CFunOk E f iIndexByte := by
  intro B cf _ args h nx av h' nx' he ρ w vargs hB hr hg ha
  obtain ⟨s, c, rfl, he1⟩ := args2_some he
  obtain ⟨n, bits, rfl, he2⟩ := AV.onStr_some he1
  obtain ⟨kk, k, rfl, he3⟩ := AV.onInt_some he2
  obtain ⟨hk, he4⟩ := bt_none he3
  obtain ⟨k, rfl, he5⟩ := natI_some he4
  obtain ⟨hlt, he6⟩ := bt_none he5
  have hk := kEq_eq hk
  subst hk
  have hlt := blt_lt hlt
  rw [forceI_eq] at he6
  cases he6
  obtain ⟨v1, r1, e1, q1, ha⟩ := VRs.cons_iff.1 ha
  obtain ⟨v2, r2, rfl, q2, ha⟩ := VRs.cons_iff.1 ha
  rw [VRs.nil_iff] at ha
  subst ha
  simp only [VR] at q1 q2
  obtain ⟨s, rfl, hs1, hs2⟩ := q1
  subst q2
  have hv : vargs = #[.string s, .int .u8 (k : Int)] := by apply Array.ext'; simpa using e1
  subst hv
  refine (H s k w).mono ?_
  rintro e w' ⟨rfl, rfl⟩
  refine ⟨_, ρ, rfl, Ext.refl hr, ?_⟩
  have hl : s.data.toList.length = n := by rw [← hs1]; rfl
  have hc : (k.toUInt8).toNat = k := by simp; omega
  have := idxF_ok k.toUInt8 s.data.toList 0
  rw [hl, hs2, hc] at this
  show Value.int .i64 _ = Value.int .i64 _
  rw [this]
  have hkk : ((k : Int).toNat).toUInt8 = k.toUInt8 := by simp
  rw [hkk]
  by_cases hm : Lib.indexByte s.data.toList k.toUInt8 = -1
  · rw [if_pos hm, hm]
  · rw [if_neg hm]; simp

/-- a packed string again and again -/
noncomputable def repF (n bits k : Nat) : Nat → Nat := Nat.rec (motive := fun _ => Nat → Nat) (fun acc => acc) (fun _ ih acc => forceN (Nat.add bits (Nat.shiftLeft acc (Nat.mul 8 n))) ih) k
noncomputable def iRepeat : CFun := fun _ args h nx => args2 args none fun s c => s.onStr none fun n bits => c.onInt none fun kk k => bt (kEq kk .i64) (natI k none fun k =>
    forceN (Nat.mul n k) fun m => bt (bt (Nat.ble m (nat_lit 140737488355328)) (Nat.ble k (nat_lit 9223372036854775807)) false) (forceN (bt (Nat.beq bits 0) 0 (repF n bits k 0)) fun b => some (.str m b, h, nx)) none) none

theorem repeatL_comm (l : List UInt8) : ∀ k, Lib.repeatL l k ++ l = l ++ Lib.repeatL l k := by
  intro k
  induction k with
  | zero => simp [Lib.repeatL]
  | succ k ih => simp only [Lib.repeatL, List.append_assoc, ih]
theorem repF_ok (l : List UInt8) : ∀ (k : Nat) (m : List UInt8), repF l.length (pack l) k (pack m) = pack (Lib.repeatL l k ++ m) := by
  intro k
  induction k with
  | zero => intro m; rfl
  | succ k ih =>
    intro m
    show forceN (Nat.add (pack l) (Nat.shiftLeft (pack m) (Nat.mul 8 l.length))) (repF l.length (pack l) k) = _
    rw [forceN_eq]
    have e : Nat.add (pack l) (Nat.shiftLeft (pack m) (Nat.mul 8 l.length)) = pack (l ++ m) := by
      rw [pack_append]
      show pack l + (pack m) <<< (8 * l.length) = _
      rw [Nat.shiftLeft_eq, Nat.pow_mul, Nat.mul_comm]
    rw [e, ih, ← List.append_assoc, repeatL_comm]
    rfl
theorem repF_zero (n : Nat) : ∀ k, repF n 0 k 0 = 0 := by
  intro k
  induction k with
  | zero => rfl
  | succ k ih =>
    show forceN (Nat.add 0 (Nat.shiftLeft 0 (Nat.mul 8 n))) (repF n 0 k) = _
    rw [forceN_eq]
    have : Nat.add 0 (Nat.shiftLeft 0 (Nat.mul 8 n)) = 0 := by show 0 + 0 <<< _ = 0; simp
    rw [this, ih]

theorem iRepeat_ok {E : Env} {f : Nat} (H : ∀ (s : ByteArray) (c : Nat) (w : World), c ≤ 9223372036854775807 → s.size * c ≤ 140737488355328 → Calls E.P f #[.string s, .int .i64 c] w fun e w' => e = .returned (.string ⟨(Lib.repeatL s.data.toList c).toArray⟩) ∧ Below w.heap.size w w') : CFunOk E f iRepeat := by
  intro B cf _ args h nx av h' nx' he ρ w vargs hB hr hg ha
  obtain ⟨s, c, rfl, he1⟩ := args2_some he
  obtain ⟨n, bits, rfl, he2⟩ := AV.onStr_some he1
  obtain ⟨kk, k, rfl, he3⟩ := AV.onInt_some he2
  obtain ⟨hk, he4⟩ := bt_none he3
  obtain ⟨k, rfl, he5⟩ := natI_some he4
  have hk := kEq_eq hk
  subst hk
  rw [forceN_eq] at he5
  obtain ⟨hlt, he6⟩ := bt_none he5
  obtain ⟨h1, h2⟩ := bt_and' hlt
  rw [forceN_eq] at he6
  cases he6
  have h1 : n * k ≤ 140737488355328 := Nat.le_of_ble_eq_true h1
  have h2 : k ≤ 9223372036854775807 := Nat.le_of_ble_eq_true h2
  obtain ⟨v1, r1, e1, q1, ha⟩ := VRs.cons_iff.1 ha
  obtain ⟨v2, r2, rfl, q2, ha⟩ := VRs.cons_iff.1 ha
  rw [VRs.nil_iff] at ha
  subst ha
  simp only [VR] at q1 q2
  obtain ⟨s, rfl, hs1, hs2⟩ := q1
  subst q2
  have hv : vargs = #[.string s, .int .i64 (k : Int)] := by apply Array.ext'; simpa using e1
  subst hv
  refine (H s k w h2 (by rw [hs1]; exact h1)).mono ?_
  rintro e w' ⟨rfl, hb⟩
  refine ⟨_, ρ, rfl, Ext.below hr hb, _, rfl, ?_, ?_⟩
  · have hl : s.data.toList.length = n := by rw [← hs1]; rfl
    show (Lib.repeatL s.data.toList k).toArray.size = n * k
    simp [Lib.repeatL_length, hl, Nat.mul_comm]
  · show pack (Lib.repeatL s.data.toList k).toArray.toList = _
    have hl : s.data.toList.length = n := by rw [← hs1]; rfl
    have hr := repF_ok s.data.toList k []
    have hp0 : pack ([] : List UInt8) = 0 := rfl
    rw [hl, hs2, List.append_nil, hp0] at hr
    rw [bt_eq]
    by_cases hz : Nat.beq bits 0 = true
    · rw [if_pos hz]
      have hz := Nat.eq_of_beq_eq_true hz
      rw [hz] at hr
      rw [repF_zero] at hr
      simpa using hr.symm
    · rw [if_neg hz]
      simpa using hr.symm

/-- a builder's own address -/
noncomputable def iCopyCheck : CFun := fun _ args h nx => args1 args none fun s => s.onPtr none fun b off => bt (Nat.beq off 0) (ob (h.get b) fun o => onCells o none fun et m cs => bt (bt (exactTy et) (Nat.beq m 2) false)
    (ob (cs.get 0) fun a => a.onPtr (ob (nilP a) fun z => bt z (T.setK (some (.ptr b 0)) (path 0) cs fun cs => setH b (some (.cells et m cs)) h fun h => some (.undef, h, nx)) none)
      fun b' off' => bt (bt (Nat.beq b' b) (Nat.beq off' 0) false) (some (.undef, h, nx)) none) none) none

theorem iCopyCheck_ok {E : Env} {f : Nat}
    (Hu : ∀ (b : Nat) (w : World), w.cell? ⟨b, 0, none⟩ = some (.pointer (some ⟨b, 0, none⟩)) → Calls E.P f #[.pointer (some ⟨b, 0, none⟩)] w fun e w' => e = .returned (.tuple #[]) ∧ w' = w)
    (Hf : ∀ (T0 b : Nat) (w : World), exactTy T0 = true → w.cell? ⟨b, 0, none⟩ = some (.pointer none) → w.shape? b = some (T0, 2) → w.frozen? ⟨b, 0, none⟩ = false → Calls E.P f #[.pointer (some ⟨b, 0, none⟩)] w fun e w' => e = .returned (.tuple #[]) ∧ w' = w.setCell ⟨b, 0, none⟩ (.pointer (some ⟨b, 0, none⟩))) : CFunOk E f iCopyCheck := by
  intro B cf _ args h nx av h' nx' he ρ w vargs hB hr hg ha
  obtain ⟨s, rfl, he1⟩ := args1_some he
  obtain ⟨b, off, rfl, he2⟩ := AV.onPtr_some he1
  obtain ⟨ho, he3⟩ := bt_none he2
  have ho := Nat.eq_of_beq_eq_true ho
  subst ho
  obtain ⟨o, hob, he4⟩ := ob_eq he3
  obtain ⟨et, m, cs, rfl, he5⟩ := onCells_some he4
  obtain ⟨hx, he6⟩ := bt_none he5
  obtain ⟨hx1, hx2⟩ := bt_and' hx
  have hx2 := Nat.eq_of_beq_eq_true hx2
  subst hx2
  obtain ⟨a, hca, he7⟩ := ob_eq he6
  clear he he1 he2 he3 he4 he5 he6
  obtain ⟨v1, r1, e1, q1, ha⟩ := VRs.cons_iff.1 ha
  rw [VRs.nil_iff] at ha
  subst ha
  simp only [VR] at q1
  obtain ⟨p, hp, rfl⟩ := q1
  obtain ⟨arr, lo, hi, c0, c1, c2, c3, ⟨c4, c6⟩, c5⟩ := hr.objAt hob hp
  obtain ⟨hd0, hsz⟩ := c6 hx1
  have hv : vargs = #[.pointer (some ⟨p.blk, 0, none⟩)] := by
    apply Array.ext'
    rw [e1, hd0]
  subst hv
  obtain ⟨va, hva, hvr, _⟩ := c5 0 a hca
  rw [hd0, Nat.add_zero] at hva
  have hcell : w.cell? ⟨p.blk, 0, none⟩ = some va := by simp [World.cell?, c0, hva]
  by_cases hptr : ∃ b' off', a = .ptr b' off'
  · obtain ⟨b', off', rfl⟩ := hptr
    have he8 : bt (bt (Nat.beq b' b) (Nat.beq off' 0) false) (some (AV.undef, h, nx)) none = some (av, h', nx') := he7
    obtain ⟨hb, he9⟩ := bt_none he8
    obtain ⟨hb1, hb2⟩ := bt_and' hb
    have hb1 := Nat.eq_of_beq_eq_true hb1
    have hb2 := Nat.eq_of_beq_eq_true hb2
    subst hb1 hb2
    cases he9
    simp only [VR] at hvr
    obtain ⟨p', hp', rfl⟩ := hvr
    rw [hp] at hp'; cases hp'
    rw [hd0] at hcell
    refine (Hu p.blk w hcell).mono ?_
    rintro e w' ⟨rfl, rfl⟩
    exact ⟨_, ρ, rfl, Ext.refl hr, VR.undef⟩
  · have he8 : ob (nilP a) (fun z => bt z (T.setK (some (.ptr b 0)) (path 0) cs fun cs => setH b (some (.cells et 2 cs)) h fun h => some (AV.undef, h, nx)) none) = some (av, h', nx') := by
      cases a <;> first | exact he7 | exact absurd ⟨_, _, rfl⟩ hptr
    obtain ⟨z, hz, he9⟩ := ob_eq he8
    obtain ⟨rfl, he10⟩ := bt_none he9
    have hnil : a = .nilptr := by cases a <;> first | rfl | (exfalso; revert hz; simp [nilP])
    subst hnil
    rw [T.setK_eq, setH_eq] at he10
    cases he10
    simp only [VR] at hvr
    subst hvr
    have hfz : w.frozen? ⟨p.blk, 0, none⟩ = false := by
      have := c3 0 (by omega)
      simp [World.frozen?, c0]
      omega
    have hsh : w.shape? p.blk = some (et, 2) := by simp [World.shape?, c0, c1, hsz]
    refine (Hf et p.blk w hx1 hcell hsh hfz).mono ?_
    rintro e w' ⟨rfl, rfl⟩
    have hlt : p.blk < w.heap.size := (hr.low b p hp).2
    have hnew : (w.setCell ⟨p.blk, 0, none⟩ (.pointer (some ⟨p.blk, 0, none⟩))).heap[p.blk]? = some (.cells (arr.setIfInBounds 0 (.pointer (some ⟨p.blk, 0, none⟩))) et (lo, hi)) := by
      simp [World.setCell, Array.getElem?_modify, c0]
    refine ⟨_, ρ, rfl, Ext.put hr (b := b) (by rw [hob]; rfl) hp (fun c hc => ?_) ⟨rfl, rfl, rfl, by simp [World.setCell]⟩ (by simp [World.setCell]) (x := some (.cells et 2 (T.set (some (.ptr b 0)) 0 cs))) (fun o ho => ?_) put_get, VR.undef⟩
    · simp [World.setCell, Array.getElem?_modify, Ne.symm hc]
    · cases ho
      refine ⟨_, lo, hi, hnew, by simp [c1], c2, c3, ⟨fun i hi2 => ?_, c6⟩, fun i x hix => ?_⟩
      · rw [T.get_set, if_neg (by omega)]; exact c4 i hi2
      · rw [T.get_set] at hix
        by_cases e : 0 = i
        · subst e
          rw [if_pos rfl] at hix
          cases hix
          refine ⟨.pointer (some ⟨p.blk, 0, none⟩), ?_, ⟨p, hp, ?_⟩, rfl⟩
          · rw [hd0]; simp [c1, hsz]
          · rw [hd0]
        · rw [if_neg e] at hix
          obtain ⟨v, hv, hvr, ho⟩ := c5 i x hix
          refine ⟨v, ?_, hvr, ho⟩
          rw [Array.getElem?_setIfInBounds_ne (by omega)]; exact hv

/-- one bit of the check of 16 bits -/
noncomputable def crcBit (c : Nat) : Nat := bt (Nat.beq (Nat.div c 32768) 1) (Nat.xor (Nat.mul (Nat.mod c 32768) 2) 4129) (Nat.mul (Nat.mod c 32768) 2)
noncomputable def crcBits (k : Nat) : Nat → Nat := Nat.rec (motive := fun _ => Nat → Nat) (fun c => c) (fun _ ih c => forceN (crcBit c) ih) k
/-- a byte more, bit by bit; and by a table -/
noncomputable def crcR (c b : Nat) : Nat := crcBits 8 (Nat.xor c (Nat.mul b 256))
noncomputable def crcT (c b : Nat) : Nat := Nat.xor (Nat.mod (Nat.mul c 256) 65536) (crcBits 8 (Nat.mul (Nat.xor (Nat.div c 256) b) 256))
noncomputable def crcRun (step : Nat → Nat → Nat) (n : Nat) : Nat → Nat → Nat :=
  Nat.rec (motive := fun _ => Nat → Nat → Nat) (fun _ c => c) (fun _ ih bits c => forceN (step c (Nat.mod bits 256)) fun c => forceN (Nat.div bits 256) fun bits => ih bits c) n
noncomputable def iCrc (step : Nat → Nat → Nat) : CFun := fun _ args h nx => args2 args none fun c s => c.onInt none fun kk k => bt (kEq kk .u16) (natI k none fun k => bt (Nat.blt k 65536) (s.onStr none fun n bits =>
    bt (Nat.ble n (nat_lit 4611686018427387904)) (forceN (crcRun step n bits k) fun r => some (.int .u16 (.ofNat r), h, nx)) none) none) none

theorem crcRun_ok (step : Nat → Nat → Nat) : ∀ (l : List UInt8) (c : Nat), crcRun step l.length (pack l) c = l.foldl (fun c b => step c b.toNat) c := by
  intro l
  induction l with
  | nil => intro c; rfl
  | cons b l ih =>
    intro c
    have e1 : Nat.mod (pack (b :: l)) 256 = b.toNat := by
      have := b.toNat_lt
      show (b.toNat + 256 * pack l) % 256 = _
      omega
    have e2 : Nat.div (pack (b :: l)) 256 = pack l := by
      have := b.toNat_lt
      show (b.toNat + 256 * pack l) / 256 = _
      omega
    show forceN (step c (Nat.mod (pack (b :: l)) 256)) (fun c => forceN (Nat.div (pack (b :: l)) 256) fun bits => crcRun step l.length bits c) = _
    rw [forceN_eq, forceN_eq, e1, e2, ih]
    rfl

theorem iCrc_ok {E : Env} {f : Nat} {step : Nat → Nat → Nat} (H : ∀ (c : Nat) (s : ByteArray) (w : World), c < 65536 → s.size ≤ 4611686018427387904 → Calls E.P f #[.int .u16 c, .string s] w fun e w' => e = .returned (.int .u16 (s.data.toList.foldl (fun c b => step c b.toNat) c : Nat)) ∧ Below w.heap.size w w') : CFunOk E f (iCrc step) := by
  intro B cf _ args h nx av h' nx' he ρ w vargs hB hr hg ha
  obtain ⟨c, s, rfl, he1⟩ := args2_some he
  obtain ⟨kk, k, rfl, he2⟩ := AV.onInt_some he1
  obtain ⟨hk, he3⟩ := bt_none he2
  obtain ⟨k, rfl, he4⟩ := natI_some he3
  obtain ⟨hlt, he5⟩ := bt_none he4
  obtain ⟨n, bits, rfl, he6⟩ := AV.onStr_some he5
  obtain ⟨hn, he7⟩ := bt_none he6
  have hk := kEq_eq hk
  subst hk
  have hlt := blt_lt hlt
  have hn : n ≤ 4611686018427387904 := Nat.le_of_ble_eq_true hn
  rw [forceN_eq] at he7
  cases he7
  obtain ⟨v1, r1, e1, q1, ha⟩ := VRs.cons_iff.1 ha
  obtain ⟨v2, r2, rfl, q2, ha⟩ := VRs.cons_iff.1 ha
  rw [VRs.nil_iff] at ha
  subst ha
  simp only [VR] at q1 q2
  obtain ⟨s, rfl, hs1, hs2⟩ := q2
  subst q1
  have hv : vargs = #[.int .u16 (k : Int), .string s] := by apply Array.ext'; simpa using e1
  subst hv
  refine (H k s w hlt (by rw [hs1]; exact hn)).mono ?_
  rintro e w' ⟨rfl, hb⟩
  refine ⟨_, ρ, rfl, Ext.below hr hb, ?_⟩
  have hl : s.data.toList.length = n := by rw [← hs1]; rfl
  have := crcRun_ok step s.data.toList k
  rw [hl, hs2] at this
  show Value.int .u16 _ = Value.int .u16 _
  rw [this]
  rfl
end Go.Vm
