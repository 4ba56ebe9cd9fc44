/- The walks of the program's Overlaps. -/
import Derived.WalkKit
import Derived.Handy
import Derived.WalkSpells
import Derived.WalkLawsBesides
import Derived.BigGuardPart
import Derived.BigCall
import Derived.RowKitTokens
import Derived.Test.YtjdjdlbhaphiiaaGreatDoorProg
set_option linter.unusedVariables false
set_option linter.unusedSimpArgs false
namespace Go.Proofs
open Go.RowKit
def Tz.int2 : Value → Int | .int _ q => q | _ => 0
/-- the spans of a slice -/
def Tz.Spans (w : World) (b off n : Nat) (S C : Nat → Int) : Prop :=
  ∀ i, i < n → w.cell? ⟨b, off + i * 2, none⟩ = some (.int .i64 (S i)) ∧ w.cell? ⟨b, off + i * 2 + 1, none⟩ = some (.int .i64 (C i))
def Tz.fewSpan (s c : Int) : Bool := decide (-1099511627776 ≤ s ∧ s ≤ 1099511627776 ∧ c ≤ 1099511627776)
def Tz.few (S C : Nat → Int) (n : Nat) : Bool := (List.range n).all fun i => Tz.fewSpan (S i) (C i)
theorem Tz.few_bad {S C : Nat → Int} {n k : Nat} (hk : k < n) (h : Tz.fewSpan (S k) (C k) = false) : Tz.few S C n = false := by
  unfold Tz.few
  rw [List.all_eq_false]
  exact ⟨k, by simp [hk], by simp [h]⟩
theorem Tz.few_succ {S C : Nat → Int} {k : Nat} (h : Tz.few S C k = true) (h1 : Tz.fewSpan (S k) (C k) = true) : Tz.few S C (k + 1) = true := by
  unfold Tz.few at *
  rw [List.range_succ, List.all_append, h]
  simp [h1]
theorem Tz.few_get {S C : Nat → Int} {n k : Nat} (h : Tz.few S C n = true) (hk : k < n) : Tz.fewSpan (S k) (C k) = true := by
  unfold Tz.few at h
  rw [List.all_eq_true] at h
  exact h k (by simp [hk])
set_option maxHeartbeats 400000 in
theorem Tz.few_nil (ao : Option Addr) (cap : Nat) (w : World) : Calls Tryz.prog 6 #[.slice ao 0 cap] w fun e w' => e = .returned (.bool true) ∧ w' = w := by
  go_enter Tryz.func6, Tryz.ntmps6
  go_wp2
  go_rounds 1
  go_ret
  exact ⟨rfl, rfl⟩
set_option maxHeartbeats 1000000 in
theorem Tz.few_some (b off n cap : Nat) (S C : Nat → Int) (w : World) (hn : n ≤ 9223372036854775807) (hs : Tz.Spans w b off n S C) :
    Calls Tryz.prog 6 #[.slice (some ⟨b, off, none⟩) n cap] w fun e w' => e = .returned (.bool (Tz.few S C n && decide (n ≤ 60))) ∧ w' = w := by
  have HS : Hid (Tz.Spans w b off n S C) := hs
  clear hs
  go_enter Tryz.func6, Tryz.ntmps6
  go_wp2
  go_loop [3] (fun i => ∃ k : Nat, k ≤ n ∧ i = .int .i64 k ∧ Tz.few S C k = true) (fun i => n - (Tz.int2 i).toNat)
  case atStart => exact ⟨0, Nat.zero_le _, rfl, rfl⟩
  case round =>
    obtain ⟨k, hk, rfl, hd⟩ := hrel
    have HD : Hid (Tz.few S C k = true) := hd
    clear hd
    by_cases hkn : k < n
    · obtain ⟨h1, h2⟩ := HS.out k hkn
      have bad : Tz.fewSpan (S k) (C k) = false → Tz.few S C n = false := fun h => Tz.few_bad hkn h
      go_wp2
      · have h3 : S k < -1099511627776 := by assumption
        rw [bad (by simp [Tz.fewSpan]; omega)]
        go_ret
        exact ⟨rfl, rfl⟩
      · have h3 : 1099511627776 < S k := by assumption
        rw [bad (by simp [Tz.fewSpan]; omega)]
        go_ret
        exact ⟨rfl, rfl⟩
      · have h3 : 1099511627776 < C k := by assumption
        rw [bad (by simp [Tz.fewSpan]; omega)]
        go_ret
        exact ⟨rfl, rfl⟩
      · refine ⟨⟨k + 1, by omega, by go_num, ?_⟩, by simp [Tz.int2]; omega⟩
        refine Tz.few_succ HD.out ?_
        simp [Tz.fewSpan]
        omega
    · go_wp2
      have hk2 : k = n := by omega
      subst hk2
      rw [HD.out]
      go_ret
      simp
      omega
theorem Tz.wrap_u64 (n : Int) : IntKind.u64.wrap n = n % 18446744073709551616 := by simp [IntKind.wrap, IntKind.bits, IntKind.signed]
set_option maxHeartbeats 1000000 in
theorem Tz.ov (s1 c1 s2 c2 : Int) (w : World) (b1 : -1099511627776 ≤ s1 ∧ s1 ≤ 1099511627776) (b2 : -1099511627776 ≤ s2 ∧ s2 ≤ 1099511627776) (d1 : 0 < c1 ∧ c1 ≤ 1099511627776) (d2 : 0 < c2 ∧ c2 ≤ 1099511627776) :
    Calls Tryz.prog 19 #[.agg #[.int .i64 s1, .int .i64 c1], .agg #[.int .i64 s2, .int .i64 c2]] w fun e w' => e = .returned (.bool (decide (s1 < s2 + c2 ∧ s2 < s1 + c1))) ∧ Below w.heap.size w w' := by
  go_enter Tryz.func19, Tryz.ntmps19
  go_wp2
  · have h : s2 < s1 := by assumption
    have e : decide (IntKind.u64.wrap (IntKind.u64.wrap s1 - IntKind.u64.wrap s2) < c2) = decide (s1 < s2 + c2 ∧ s2 < s1 + c1) := by
      rw [Tz.wrap_u64, Tz.wrap_u64, Tz.wrap_u64]
      exact decide_eq_decide.2 (by omega)
    rw [← e]
    go_ret
    exact ⟨rfl, by go_grown⟩
  · have h : s1 ≤ s2 := by assumption
    have e : decide (IntKind.u64.wrap (IntKind.u64.wrap s2 - IntKind.u64.wrap s1) < c1) = decide (s1 < s2 + c2 ∧ s2 < s1 + c1) := by
      rw [Tz.wrap_u64, Tz.wrap_u64, Tz.wrap_u64]
      exact decide_eq_decide.2 (by omega)
    rw [← e]
    go_ret
    exact ⟨rfl, by go_grown⟩

/-- two spans that overlap -/
def Tz.clash (s c s2 c2 : Int) : Bool := decide (0 < c ∧ 0 < c2 ∧ ¬ (s = s2 ∧ c = c2) ∧ s < s2 + c2 ∧ s2 < s + c)
set_option maxHeartbeats 1000000 in
theorem Tz.clos (s c s2 c2 : Int) (p : Nat) (w : World) (b1 : -1099511627776 ≤ s ∧ s ≤ 1099511627776) (b2 : -1099511627776 ≤ s2 ∧ s2 ≤ 1099511627776) (d1 : c ≤ 1099511627776) (d2 : c2 ≤ 1099511627776)
    (h0 : w.cell? ⟨p, 0, none⟩ = some (.int .i64 s)) (h1 : w.cell? ⟨p, 1, none⟩ = some (.int .i64 c)) (hp : p < w.heap.size) :
    Calls Tryz.prog 18 #[.agg #[.int .i64 s2, .int .i64 c2], .pointer (some ⟨p, 0, none⟩)] w fun e w' => e = .returned (.bool (Tz.clash s c s2 c2)) ∧ Below w.heap.size w w' := by
  go_enter Tryz.func18, Tryz.ntmps18
  by_cases hc : 0 < c
  · by_cases hc2 : 0 < c2
    · go_wp2_with fail
      all_goals first
        | (have hf : Tz.clash s c s2 c2 = false := decide_eq_false (by omega)
           rw [hf]
           go_ret
           exact ⟨rfl, by go_grown⟩)
        | (refine (Tz.ov _ _ _ _ _ (by assumption) (by assumption) ⟨by assumption, by assumption⟩ ⟨by assumption, by assumption⟩).mono ?_
           rintro e w1 ⟨rfl, hb⟩
           have hb' : Below w.heap.size w w1 := ((Below.refl _ w).alloc (Nat.le_refl _) _).trans (hb.mono (by simp))
           clear hb
           have HB : Hid (Below w.heap.size w w1) := hb'
           clear hb'
           go_wp2
           go_ret
           refine ⟨?_, HB.out⟩
           show Ending.returned (Value.bool (decide _ && decide _)) = _
           rw [← Bool.decide_and]
           unfold Tz.clash
           congr 2
           exact decide_eq_decide.2 (by omega))
    · have hf : Tz.clash s c s2 c2 = false := decide_eq_false (by omega)
      rw [hf]
      go_wp2
      all_goals (go_ret; exact ⟨rfl, by go_grown⟩)
  · have hf : Tz.clash s c s2 c2 = false := decide_eq_false (by omega)
    rw [hf]
    go_wp2
    all_goals (go_ret; exact ⟨rfl, by go_grown⟩)
def Tz.hit (S C : Nat → Int) (s c : Int) (k : Nat) : Bool := (List.range k).any fun j => Tz.clash s c (S j) (C j)
theorem Tz.hit_succ {S C : Nat → Int} {s c : Int} {k : Nat} : Tz.hit S C s c (k + 1) = (Tz.hit S C s c k || Tz.clash s c (S k) (C k)) := by
  unfold Tz.hit; rw [List.range_succ, List.any_append]; simp
theorem Tz.hit_of {S C : Nat → Int} {s c : Int} {k n : Nat} (hk : k < n) (h : Tz.clash s c (S k) (C k) = true) : Tz.hit S C s c n = true := by
  unfold Tz.hit; rw [List.any_eq_true]; exact ⟨k, by simp [hk], h⟩
theorem Tz.fewSpan_iff {s c : Int} (h : Tz.fewSpan s c = true) : (-1099511627776 ≤ s ∧ s ≤ 1099511627776) ∧ c ≤ 1099511627776 := by
  simp [Tz.fewSpan] at h; omega
set_option maxHeartbeats 1000000 in
theorem Tz.idx (b off n cap p : Nat) (S C : Nat → Int) (s c : Int) (w : World) (hn : n ≤ 4611686018427387904) (hs : Tz.Spans w b off n S C) (hf : Tz.few S C n = true) (hsc : Tz.fewSpan s c = true)
    (h0 : w.cell? ⟨p, 0, none⟩ = some (.int .i64 s)) (h1 : w.cell? ⟨p, 1, none⟩ = some (.int .i64 c)) (hp : p < w.heap.size) (hb : b < w.heap.size) :
    Calls Tryz.prog 51 #[.slice (some ⟨b, off, none⟩) n cap, .func (.func 18) #[] #[.pointer (some ⟨p, 0, none⟩)]] w fun e w' => ∃ r : Int, e = .returned (.int .i64 r) ∧ decide (0 ≤ r) = Tz.hit S C s c n ∧ Below w.heap.size w w' := by
  have HS : Hid (Tz.Spans w b off n S C) := hs
  have HF : Hid (Tz.few S C n = true) := hf
  clear hs hf
  have H0 : Hid (w.cell? ⟨p, 0, none⟩ = some (.int .i64 s)) := h0
  have H1 : Hid (w.cell? ⟨p, 1, none⟩ = some (.int .i64 c)) := h1
  clear h0 h1
  go_enter Tryz.func51, Tryz.ntmps51
  go_wp2
  go_loopw [8] (fun i wr => ∃ k : Nat, k ≤ n ∧ i = .int .i64 k ∧ Tz.hit S C s c k = false ∧ Below w.heap.size w wr) (fun i _ => n - (Tz.int2 i).toNat)
  case atStart => exact ⟨0, Nat.zero_le _, rfl, rfl, Below.refl _ _⟩
  case round =>
    obtain ⟨k, hk, rfl, hd, hbw⟩ := hrel
    have HD : Hid (Tz.hit S C s c k = false) := hd
    have HB : Hid (Below w.heap.size w wr) := hbw
    clear hd hbw
    by_cases hkn : k < n
    · have c1 := (HB.out.cell (p := ⟨b, off + k * 2, none⟩) hb).trans (HS.out k hkn).1
      have c2 := (HB.out.cell (p := ⟨b, off + k * 2 + 1, none⟩) hb).trans (HS.out k hkn).2
      have e0 := (HB.out.cell (p := ⟨p, 0, none⟩) hp).trans H0.out
      have e1 := (HB.out.cell (p := ⟨p, 1, none⟩) hp).trans H1.out
      obtain ⟨f1, f2⟩ := Tz.fewSpan_iff hsc
      obtain ⟨f3, f4⟩ := Tz.fewSpan_iff (Tz.few_get HF.out hkn)
      have hsz := HB.out.size
      go_wp2_with fail
      refine (Tz.clos s c (S k) (C k) p wr f1 f3 f2 f4 e0 e1 (by omega)).mono ?_
      rintro e w1 ⟨rfl, hb1⟩
      have HB1 : Hid (Below w.heap.size w w1) := HB.out.trans (hb1.mono hsz)
      clear hb1 c1 c2 e0 e1 f1 f2 f3 f4 hsz
      cases hcl : Tz.clash s c (S k) (C k) with
      | true =>
        have hh := Tz.hit_of hkn hcl
        go_wp2
        go_ret
        exact ⟨k, rfl, by rw [hh]; simp, HB1.out⟩
      | false =>
        have hh : Tz.hit S C s c (k + 1) = false := by rw [Tz.hit_succ, HD.out, hcl]; rfl
        go_wp2
        go_roundw
        case rel => exact ⟨k + 1, by omega, by go_num, hh, HB1.out⟩
        case measure => simp [Tz.int2]; omega
    · have hk2 : k = n := by omega
      subst hk2
      have hh := HD.out
      go_wp2
      go_ret
      exact ⟨-1, rfl, by rw [hh]; rfl, HB.out⟩
set_option maxHeartbeats 1000000 in
theorem Tz.cont (b off n cap p : Nat) (S C : Nat → Int) (s c : Int) (w : World) (hn : n ≤ 4611686018427387904) (hs : Tz.Spans w b off n S C) (hf : Tz.few S C n = true) (hsc : Tz.fewSpan s c = true)
    (h0 : w.cell? ⟨p, 0, none⟩ = some (.int .i64 s)) (h1 : w.cell? ⟨p, 1, none⟩ = some (.int .i64 c)) (hp : p < w.heap.size) (hb : b < w.heap.size) :
    Calls Tryz.prog 17 #[.slice (some ⟨b, off, none⟩) n cap, .func (.func 18) #[] #[.pointer (some ⟨p, 0, none⟩)]] w fun e w' => e = .returned (.bool (Tz.hit S C s c n)) ∧ Below w.heap.size w w' := by
  have H := Tz.idx b off n cap p S C s c w hn hs hf hsc h0 h1 hp hb
  clear hs hf hsc h0 h1 hp hb
  go_enter Tryz.func17, Tryz.ntmps17
  go_wp2_with fail
  refine H.mono ?_
  rintro e w1 ⟨r, rfl, hr, hb⟩
  have HB : Hid (Below w.heap.size w w1) := hb
  have HR : Hid (decide (0 ≤ r) = Tz.hit S C s c n) := hr
  clear hb hr H
  go_wp2
  go_ret
  exact ⟨by rw [← HR.out]; rfl, HB.out⟩
end Go.Proofs

namespace Go.Proofs
open Go.RowKit
theorem Tz.info3 : (Tryz.prog.info? 3).map (fun i => (i.zero, i.size, i.bytes)) = some (some (.int .i64 0), 1, 8) := by kernel_rfl
def Tz.mk (S C : Nat → Int) (k : Nat) : List Nat := (List.range k).filter fun i => Tz.hit S C (S i) (C i) i
def Tz.ints (l : List Nat) : List Value := l.map fun i => Value.int .i64 (i : Nat)
theorem Tz.mk_hit {S C : Nat → Int} {k : Nat} (h : Tz.hit S C (S k) (C k) k = true) : Tz.mk S C (k + 1) = Tz.mk S C k ++ [k] := by
  unfold Tz.mk; rw [List.range_succ, List.filter_append]; simp [h]
theorem Tz.mk_miss {S C : Nat → Int} {k : Nat} (h : Tz.hit S C (S k) (C k) k = false) : Tz.mk S C (k + 1) = Tz.mk S C k := by
  unfold Tz.mk; rw [List.range_succ, List.filter_append]; simp [h]
theorem Tz.mk_le (S C : Nat → Int) (k : Nat) : (Tz.mk S C k).length ≤ k := by
  unfold Tz.mk; exact Nat.le_trans (List.length_filter_le _ _) (by simp)
theorem Tz.Spans.below {w w' : World} {b off n : Nat} {S C : Nat → Int} (h : Tz.Spans w b off n S C) (hb : b < w.heap.size) (hw : Below w.heap.size w w') : Tz.Spans w' b off n S C :=
  fun i hi => ⟨(hw.cell (p := ⟨b, off + i * 2, none⟩) hb).trans (h i hi).1, (hw.cell (p := ⟨b, off + i * 2 + 1, none⟩) hb).trans (h i hi).2⟩
theorem Tz.Spans.take {w : World} {b off n k : Nat} {S C : Nat → Int} (h : Tz.Spans w b off n S C) (hk : k ≤ n) : Tz.Spans w b off k S C := fun i hi => h i (by omega)
theorem Tz.few_take {S C : Nat → Int} {n k : Nat} (h : Tz.few S C n = true) (hk : k ≤ n) : Tz.few S C k = true := by
  unfold Tz.few at *; rw [List.all_eq_true] at *; intro i hi; exact h i (by simp at hi ⊢; omega)
theorem Tz.own_below {w w' : World} {B e size n : Nat} {v : Value} {xs : List Value} (h : w.ownsRow B e size v n xs) (hb : Below w.heap.size w w') : w'.ownsRow B e size v n xs := by
  refine ⟨h.1, ?_⟩
  rcases h.2 with h | ⟨g, cap, cur, e1, e2, e3, e4⟩
  · exact .inl h
  · refine .inr ⟨g, cap, cur, e1, e2, ?_, e4⟩
    have hlt : g < w.heap.size := (Array.getElem?_eq_some_iff.1 e3).1
    rw [hb.block g hlt]; exact e3
theorem Tz.rel_app {B n : Nat} {e size : Nat} {w wr w1 : World} {v v' : Value} {xs news : List Value} {o : Obj} {m : Nat} (hB : B ≤ wr.heap.size) (hown : wr.ownsRow B e size v n xs) (hb : Below B w wr)
    (_ : w1.ownsRow B e size v' (n + m) (xs ++ news)) (hg : (wr.alloc o).grownBy w1 v.ownBlock) : Below B w w1 :=
  (hb.alloc hB o).grown hg (by simp; omega) (fun j hj => (hown.lt j hj).1)
set_option maxHeartbeats 1000000 in
theorem Tz.over (b off n cap : Nat) (S C : Nat → Int) (w : World) (hn : n ≤ 60) (hs : Tz.Spans w b off n S C) (hf : Tz.few S C n = true) (hb : b < w.heap.size) (hcap : n ≤ cap) :
    Calls Tryz.prog 7 #[.slice (some ⟨b, off, none⟩) n cap] w fun e w' => ∃ v, e = .returned v ∧ w'.ownsRow w.heap.size 3 1 v (Tz.mk S C n).length (Tz.ints (Tz.mk S C n)) ∧ Below w.heap.size w w' := by
  have HS : Hid (Tz.Spans w b off n S C) := hs
  have HF : Hid (Tz.few S C n = true) := hf
  clear hs hf
  obtain ⟨i0, hi, hz0, hz1, hz2⟩ := info_parts Tz.info3
  go_enter Tryz.func7, Tryz.ntmps7
  go_wp2
  go_loopw [3, 8] (fun v i wr => ∃ k : Nat, k ≤ n ∧ i = .int .i64 k ∧ wr.ownsRow w.heap.size 3 1 v (Tz.mk S C k).length (Tz.ints (Tz.mk S C k)) ∧ Below w.heap.size w wr) (fun _ i _ => n - (Tz.int2 i).toNat)
  case atStart => exact ⟨0, Nat.zero_le _, rfl, World.ownsRow_nil _ _ _ _, Below.refl _ _⟩
  case round =>
    obtain ⟨k, hk, rfl, hown, hbw⟩ := hrel
    have HO : Hid (wr.ownsRow w.heap.size 3 1 u3 (Tz.mk S C k).length (Tz.ints (Tz.mk S C k))) := hown
    have HB : Hid (Below w.heap.size w wr) := hbw
    clear hown hbw
    by_cases hkn : k < n
    · have c1 := (HB.out.cell (p := ⟨b, off + k * 2, none⟩) hb).trans (HS.out k hkn).1
      have c2 := (HB.out.cell (p := ⟨b, off + k * 2 + 1, none⟩) hb).trans (HS.out k hkn).2
      go_wp2_with fail
      have hsz := HB.out.size
      refine (Tz.cont b off k cap wr.heap.size S C (S k) (C k) _ (by omega) (((HS.out.take (by omega)).below hb HB.out).below (by omega) ((Below.refl _ wr).alloc (Nat.le_refl _) _)) (Tz.few_take HF.out (by omega)) (Tz.few_get HF.out hkn) (by rw [World.cell?_alloc_at _ _ _ _ rfl]; rfl) (by rw [World.cell?_alloc_at _ _ _ _ rfl]; rfl) (by simp) (by simp; omega)).mono ?_
      rintro e w1 ⟨rfl, hb1⟩
      have HB1 : Hid (Below w.heap.size w w1) := (HB.out.alloc hsz _).trans (hb1.mono (by simp; omega))
      have HO1 : Hid (w1.ownsRow w.heap.size 3 1 u3 (Tz.mk S C k).length (Tz.ints (Tz.mk S C k))) := Tz.own_below (HO.out.alloc _) hb1
      clear hb1 c1 c2 hsz HO HB
      have hml := Tz.mk_le S C k
      cases hh : Tz.hit S C (S k) (C k) k with
      | false =>
        have HE : Hid (Tz.mk S C (k + 1) = Tz.mk S C k) := Tz.mk_miss hh
        clear hh
        go_wp2
        go_roundw
        case rel => exact ⟨k + 1, by omega, by go_num, by rw [HE.out]; exact HO1.out, HB1.out⟩
        case measure => simp [Tz.int2]; omega
      | true =>
        have HE : Hid (Tz.mk S C (k + 1) = Tz.mk S C k ++ [k]) := Tz.mk_hit hh
        clear hh
        go_wp2_with (first | (at_builtin; refine wpList_append_own _ rfl _ _ 25 rfl w.heap.size 3 i0 (.int .i64 0) 1 8 Tryz.underlying25 hi hz0 hz1 hz2 rfl (by decide) _ _ _ rfl (HO1.out.alloc _) ⟨w1.heap.size, 0, none⟩ 1 1 [.int .i64 k] rfl rfl ?c1 ?c2 ?c3 ?c4 ?c5 ?_) | fail)
        case c1 =>
          intro j u hj
          match j, hj with
          | 0, hj => simp at hj; subst hj; simp [Addr.add]
        case c2 => intro u hu; simp at hu; subst hu; rfl
        case c3 => unfold maxLen; omega
        case c4 => omega
        case c5 => have := HB1.out.size; simp; omega
        · intro v' w2 hown' hgrow _
          have HB2 : Hid (Below w.heap.size w w2) := Tz.rel_app HB1.out.size HO1.out HB1.out hown' hgrow
          have h3 : w2.ownsRow w.heap.size 3 1 v' (Tz.mk S C (k + 1)).length (Tz.ints (Tz.mk S C (k + 1))) := by
            rw [HE.out]; simpa [Tz.ints] using hown'
          have HO2 : Hid (w2.ownsRow w.heap.size 3 1 v' (Tz.mk S C (k + 1)).length (Tz.ints (Tz.mk S C (k + 1)))) := h3
          clear h3
          clear hown' hgrow HB1 HO1 HE
          go_wp2
          go_roundw
          case rel => exact ⟨k + 1, by omega, by go_num, HO2.out, HB2.out⟩
          case measure => simp [Tz.int2]; omega
    · have hk2 : k = n := by omega
      subst hk2
      go_wp2
      go_ret
      exact ⟨_, rfl, HO.out, HB.out⟩
end Go.Proofs
