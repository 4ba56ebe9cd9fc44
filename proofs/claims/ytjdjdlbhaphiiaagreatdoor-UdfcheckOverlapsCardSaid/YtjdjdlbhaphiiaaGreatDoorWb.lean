/- The walks of the reference's Overlaps, of slices.Equal and slices.Contains, and of the law. -/
import Derived.Test.YtjdjdlbhaphiiaaGreatDoorWa
import Derived.BigRegion
set_option linter.unusedVariables false
set_option linter.unusedSimpArgs false
namespace Go.Proofs
open Go.RowKit
theorem Tz.new_one {W : World} {a : Addr} {v : Value} (h : W.cell? (a.add 0) = some v) : ∀ j u, [v][j]? = some u → W.cell? (a.add j) = some u := by
  intro j u hj
  match j, hj with
  | 0, hj => simp at hj; subst hj; exact h
theorem Tz.new_cell (k : IntKind) (n : Int) : ∀ u ∈ [Value.int k n], u.oneCell' = true := by intro u hu; simp at hu; subst hu; rfl
theorem Tz.ref_app {w wr W w2 : World} {S C : Nat → Int} {i B : Nat} {u v' : Value} (he : Tz.mk S C (i + 1) = Tz.mk S C i ++ [i]) (hown' : w2.ownsRow B 3 1 v' ((Tz.mk S C i).length + 1) (Tz.ints (Tz.mk S C i) ++ [.int .i64 i]))
    (hb : Below B w W) (hB : B ≤ W.heap.size) (hg : W.grownBy w2 u.ownBlock) (ho : wr.ownsRow B 3 1 u (Tz.mk S C i).length (Tz.ints (Tz.mk S C i))) :
    w2.ownsRow B 3 1 v' (Tz.mk S C (i + 1)).length (Tz.ints (Tz.mk S C (i + 1))) ∧ Below B w w2 :=
  ⟨by rw [he]; simpa [Tz.ints] using hown', hb.grown hg hB (fun j hj => (ho.lt j hj).1)⟩
set_option maxHeartbeats 2000000 in
set_option maxRecDepth 100000 in
theorem Tz.refo (b off n cap : Nat) (S C : Nat → Int) (w : World) (hn : n ≤ 60) (hs : Tz.Spans w b off n S C) (hf : Tz.few S C n = true) (hb : b < w.heap.size) :
    Calls Tryz.prog 9 #[.slice (some ⟨b, off, none⟩) n cap] w fun e w' => ∃ v, e = .returned v ∧ w'.ownsRow w.heap.size 3 1 v (Tz.mk S C n).length (Tz.ints (Tz.mk S C n)) ∧ Below w.heap.size w w' := by
  have HS : Hid (Tz.Spans w b off n S C) := hs
  have HF : Hid (Tz.few S C n = true) := hf
  clear hs hf
  obtain ⟨i0, hi, hz0, hz1, hz2⟩ := info_parts Tz.info3
  go_enter Tryz.func9, Tryz.ntmps9
  go_wp2
  go_loopw [3, 4] (fun v i wr => ∃ k : Nat, k ≤ n ∧ i = .int .i64 k ∧ wr.ownsRow w.heap.size 3 1 v (Tz.mk S C k).length (Tz.ints (Tz.mk S C k)) ∧ Below w.heap.size w wr) (fun _ i _ => n - (Tz.int2 i).toNat)
  case atStart => exact ⟨0, Nat.zero_le _, rfl, World.ownsRow_lit w #[] 0 (Nat.le_refl _) (Nat.zero_le _) rfl, (Below.refl _ w).alloc (Nat.le_refl _) _⟩
  case round =>
    obtain ⟨i, hi1, rfl, hown, hbw⟩ := hrel
    have HO : Hid (wr.ownsRow w.heap.size 3 1 u3 (Tz.mk S C i).length (Tz.ints (Tz.mk S C i))) := hown
    have HB : Hid (Below w.heap.size w wr) := hbw
    clear hown hbw
    by_cases hin : i < n
    · go_wp2_with fail
      go_loopw [3, 5] (fun v j wq => ∃ k : Nat, k ≤ i ∧ j = .int .i64 k ∧ v = u3 ∧ Tz.hit S C (S i) (C i) k = false ∧ wq.ownsRow w.heap.size 3 1 u3 (Tz.mk S C i).length (Tz.ints (Tz.mk S C i)) ∧ Below w.heap.size w wq) (fun _ j _ => i - (Tz.int2 j).toNat)
      case atStart => exact ⟨0, Nat.zero_le _, rfl, rfl, rfl, HO.out, HB.out⟩
      case round =>
        obtain ⟨k, hk, rfl, rfl, hh, hown, hbw⟩ := hrel
        have HO : Hid (wr.ownsRow w.heap.size 3 1 u3 (Tz.mk S C i).length (Tz.ints (Tz.mk S C i))) := hown
        have HB : Hid (Below w.heap.size w wr) := hbw
        have HH : Hid (Tz.hit S C (S i) (C i) k = false) := hh
        clear hown hbw hh
        by_cases hki : k < i
        · have c1 := (HB.out.cell (p := ⟨b, off + k * 2, none⟩) hb).trans (HS.out k (by omega)).1
          have c2 := (HB.out.cell (p := ⟨b, off + k * 2 + 1, none⟩) hb).trans (HS.out k (by omega)).2
          have c3 := (HB.out.cell (p := ⟨b, off + i * 2, none⟩) hb).trans (HS.out i hin).1
          have c4 := (HB.out.cell (p := ⟨b, off + i * 2 + 1, none⟩) hb).trans (HS.out i hin).2
          have hbr : b < wr.heap.size := by have := HB.out.size; omega
          have hsr : w.heap.size ≤ wr.heap.size := HB.out.size
          go_wp2_with fail
          go_region
          all_goals
            obtain ⟨f1, f2⟩ := Tz.fewSpan_iff (Tz.few_get HF.out hin)
            obtain ⟨f3, f4⟩ := Tz.fewSpan_iff (Tz.few_get HF.out (show k < n by omega))
            clear c1 c2 c3 c4 hbr
            have hml := Tz.mk_le S C i
            cases hcl : Tz.clash (S i) (C i) (S k) (C k) with
            | false =>
              have hno : ¬ (0 < C i ∧ 0 < C k ∧ ¬ (S i = S k ∧ C i = C k) ∧ S i < S k + C k ∧ S k < S i + C i) := of_decide_eq_false hcl
              have HH2 : Hid (Tz.hit S C (S i) (C i) (k + 1) = false) := by
                have : Tz.hit S C (S i) (C i) (k + 1) = false := by rw [Tz.hit_succ, HH.out, hcl]; rfl
                exact this
              clear hcl
              go_wp2_with (first | (at_builtin; exfalso; omega) | fail)
              all_goals first
                | (exact ⟨⟨k + 1, by omega, by go_num, rfl, HH2.out, Tz.own_below HO.out (by go_grown), HB.out.trans (Below.mono (by go_grown) hsr)⟩, by simp [Tz.int2]; omega⟩)
                | (exfalso; omega)
            | true =>
              have hyes : 0 < C i ∧ 0 < C k ∧ ¬ (S i = S k ∧ C i = C k) ∧ S i < S k + C k ∧ S k < S i + C i := of_decide_eq_true hcl
              have HT : Hid (Tz.mk S C (i + 1) = Tz.mk S C i ++ [i]) := Tz.mk_hit (Tz.hit_of hki hcl)
              clear hcl
              obtain ⟨y1, y2, y3, y4, y5⟩ := hyes
              have z1 : 1 ≤ C i := y1
              have z2 : 1 ≤ C k := y2
              go_wp2_with (first | (at_builtin; refine wpList_append_own _ rfl _ _ 25 rfl w.heap.size 3 i0 (.int .i64 0) 1 8 Tryz.underlying25 hi hz0 hz1 hz2 rfl (by decide) _ _ _ rfl ((Tz.own_below HO.out (by go_grown)).alloc _) ⟨wr.heap.size + 2, 0, none⟩ 1 1 [.int .i64 i] rfl rfl (Tz.new_one (by simp [Addr.add]; rw [World.cell?_alloc_at _ _ _ _ (by simp)]; rfl)) (Tz.new_cell _ _) (by unfold maxLen; omega) (by omega) (by simp; omega) ?_; intro v' w2 hown' hgrow _; have HG : Hid (w2.ownsRow w.heap.size 3 1 v' (Tz.mk S C (i + 1)).length (Tz.ints (Tz.mk S C (i + 1))) ∧ Below w.heap.size w w2) := Tz.ref_app HT.out hown' (HB.out.trans (Below.mono (by go_grown) hsr)) (by simp; omega) hgrow HO.out; clear hown' hgrow) | fail)
              all_goals first
                | (exfalso; omega)
                | (exact ⟨⟨i + 1, by omega, by go_num, HG.out.1, HG.out.2⟩, by simp [Tz.int2]; omega⟩)
                | skip
        · have hk2 : k = i := by omega
          subst hk2
          have HE : Hid (Tz.mk S C (k + 1) = Tz.mk S C k) := by
            have := Tz.mk_miss (S := S) (C := C) (k := k) HH.out
            exact this
          go_wp2_with fail
          all_goals first
            | (exact ⟨⟨k + 1, by omega, by go_num, by rw [HE.out]; exact HO.out, HB.out⟩, by simp [Tz.int2]; omega⟩)
            | skip
    · have hk2 : i = n := by omega
      subst hk2
      go_wp2
      go_ret
      exact ⟨_, rfl, HO.out, HB.out⟩
end Go.Proofs

namespace Go.Proofs
open Go.RowKit
set_option maxHeartbeats 1000000 in
theorem Tz.eq8 (g1 g2 m c1 c2 : Nat) (xs : Nat → Int) (w : World) (hm : m ≤ 60) (h1 : ∀ j, j < m → w.cell? ⟨g1, j, none⟩ = some (.int .i64 (xs j))) (h2 : ∀ j, j < m → w.cell? ⟨g2, j, none⟩ = some (.int .i64 (xs j)))
    (b1 : g1 < w.heap.size) (b2 : g2 < w.heap.size) :
    Calls Tryz.prog 8 #[.slice (some ⟨g1, 0, none⟩) m c1, .slice (some ⟨g2, 0, none⟩) m c2] w fun e w' => e = .returned (.bool true) ∧ Below w.heap.size w w' := by
  go_enter Tryz.func8, Tryz.ntmps8
  go_wp2
  go_loopw [13] (fun i wr => ∃ k : Nat, k ≤ m ∧ i = .int .i64 k ∧ Below w.heap.size w wr) (fun i _ => m - (Tz.int2 i).toNat)
  case atStart => exact ⟨0, Nat.zero_le _, rfl, Below.refl _ _⟩
  case round =>
    obtain ⟨k, hk, rfl, hbw⟩ := hrel
    have HB : Hid (Below w.heap.size w wr) := hbw
    clear hbw
    by_cases hkm : k < m
    · have q1 := (HB.out.cell (p := ⟨g1, k, none⟩) b1).trans (h1 k hkm)
      have q2 := (HB.out.cell (p := ⟨g2, k, none⟩) b2).trans (h2 k hkm)
      go_wp2
      go_region
      all_goals go_wp2
      all_goals exact ⟨⟨k + 1, by omega, by go_num, HB.out.drew⟩, by simp [Tz.int2]; omega⟩
    · have hk2 : k = m := by omega
      subst hk2
      go_wp2
      go_ret
      exact ⟨rfl, HB.out⟩
set_option maxHeartbeats 1000000 in
theorem Tz.eq8_nil (a1 a2 : Option Addr) (c1 c2 : Nat) (w : World) :
    Calls Tryz.prog 8 #[.slice a1 0 c1, .slice a2 0 c2] w fun e w' => e = .returned (.bool true) ∧ Below w.heap.size w w' := by
  go_enter Tryz.func8, Tryz.ntmps8
  go_wp2
  go_rounds 1
  go_ret
  exact ⟨rfl, Below.refl _ _⟩
def Tz.has (xs : Nat → Int) (v : Int) (m : Nat) : Bool := (List.range m).any fun j => decide (v = xs j)
theorem Tz.has_succ {xs : Nat → Int} {v : Int} {k : Nat} : Tz.has xs v (k + 1) = (Tz.has xs v k || decide (v = xs k)) := by
  unfold Tz.has; rw [List.range_succ, List.any_append]; simp
theorem Tz.has_of {xs : Nat → Int} {v : Int} {k m : Nat} (hk : k < m) (h : v = xs k) : Tz.has xs v m = true := by
  unfold Tz.has; rw [List.any_eq_true]; exact ⟨k, by simp [hk], by simp [h]⟩
set_option maxHeartbeats 1000000 in
theorem Tz.index (g m c : Nat) (xs : Nat → Int) (v : Int) (w : World) (hm : m ≤ 60) (h1 : ∀ j, j < m → w.cell? ⟨g, j, none⟩ = some (.int .i64 (xs j))) (b1 : g < w.heap.size) :
    Calls Tryz.prog 20 #[.slice (some ⟨g, 0, none⟩) m c, .int .i64 v] w fun e w' => ∃ r : Int, e = .returned (.int .i64 r) ∧ decide (0 ≤ r) = Tz.has xs v m ∧ Below w.heap.size w w' := by
  go_enter Tryz.func20, Tryz.ntmps20
  go_wp2
  go_loopw [8] (fun i wr => ∃ k : Nat, k ≤ m ∧ i = .int .i64 k ∧ Tz.has xs v k = false ∧ Below w.heap.size w wr) (fun i _ => m - (Tz.int2 i).toNat)
  case atStart => exact ⟨0, Nat.zero_le _, rfl, rfl, Below.refl _ _⟩
  case round =>
    obtain ⟨k, hk, rfl, hh, hbw⟩ := hrel
    have HB : Hid (Below w.heap.size w wr) := hbw
    have HH : Hid (Tz.has xs v k = false) := hh
    clear hbw hh
    by_cases hkm : k < m
    · have q1 := (HB.out.cell (p := ⟨g, k, none⟩) b1).trans (h1 k hkm)
      by_cases hv : v = xs k
      · have HT : Hid (Tz.has xs v m = true) := by have := Tz.has_of hkm hv; exact this
        subst hv
        go_wp2
        go_ret
        exact ⟨k, rfl, by rw [HT.out]; simp, HB.out⟩
      · have HF : Hid (Tz.has xs v (k + 1) = false) := by
          have : Tz.has xs v (k + 1) = false := by rw [Tz.has_succ, HH.out]; simpa using hv
          exact this
        go_wp2
        go_roundw
        case rel => exact ⟨k + 1, by omega, by go_num, HF.out, HB.out⟩
        case measure => simp [Tz.int2]; omega
    · have hk2 : k = m := by omega
      subst hk2
      go_wp2
      go_ret
      exact ⟨-1, rfl, by rw [HH.out]; rfl, HB.out⟩
set_option maxHeartbeats 1000000 in
theorem Tz.contains (g m c : Nat) (xs : Nat → Int) (v : Int) (w : World) (hm : m ≤ 60) (h1 : ∀ j, j < m → w.cell? ⟨g, j, none⟩ = some (.int .i64 (xs j))) (b1 : g < w.heap.size) :
    Calls Tryz.prog 10 #[.slice (some ⟨g, 0, none⟩) m c, .int .i64 v] w fun e w' => e = .returned (.bool (Tz.has xs v m)) ∧ Below w.heap.size w w' := by
  have H := Tz.index g m c xs v w hm h1 b1
  clear h1
  go_enter Tryz.func10, Tryz.ntmps10
  go_wp2_with fail
  refine H.mono ?_
  rintro e w1 ⟨r, rfl, hr, hb⟩
  have HB : Hid (Below w.heap.size w w1) := hb
  have HR : Hid (decide (0 ≤ r) = Tz.has xs v m) := hr
  clear hb hr H
  go_wp2
  go_ret
  exact ⟨by rw [← HR.out]; rfl, HB.out⟩
set_option maxHeartbeats 1000000 in
theorem Tz.contains_nil (a : Option Addr) (c : Nat) (v : Int) (w : World) :
    Calls Tryz.prog 10 #[.slice a 0 c, .int .i64 v] w fun e w' => e = .returned (.bool false) ∧ Below w.heap.size w w' := by
  go_enter Tryz.func10, Tryz.ntmps10
  go_wp2_with fail
  have H : Calls Tryz.prog 20 #[.slice a 0 c, .int .i64 v] w fun e w' => e = .returned (.int .i64 (-1)) ∧ Below w.heap.size w w' := by
    go_enter Tryz.func20, Tryz.ntmps20
    go_wp2
    go_rounds 1
    go_ret
    exact ⟨rfl, Below.refl _ _⟩
  refine H.mono ?_
  rintro e w1 ⟨rfl, hb⟩
  clear H
  go_wp2
  go_ret
  exact ⟨rfl, hb⟩
def Tz.has2 (S C : Nat → Int) (s c : Int) (m : Nat) : Bool := (List.range m).any fun j => decide (s = S j ∧ c = C j)
theorem Tz.has2_succ {S C : Nat → Int} {s c : Int} {k : Nat} : Tz.has2 S C s c (k + 1) = (Tz.has2 S C s c k || decide (s = S k ∧ c = C k)) := by
  unfold Tz.has2; rw [List.range_succ, List.any_append]; simp
theorem Tz.has2_of {S C : Nat → Int} {s c : Int} {k m : Nat} (hk : k < m) (h : s = S k ∧ c = C k) : Tz.has2 S C s c m = true := by
  unfold Tz.has2; rw [List.any_eq_true]; exact ⟨k, by simp [hk], by simp [h]⟩
set_option maxHeartbeats 1000000 in
theorem Tz.index2 (g m cp : Nat) (S C : Nat → Int) (s c : Int) (w : World) (hm : m ≤ 60) (h1 : Tz.Spans w g 0 m S C) (b1 : g < w.heap.size) :
    Calls Tryz.prog 21 #[.slice (some ⟨g, 0, none⟩) m cp, .agg #[.int .i64 s, .int .i64 c]] w fun e w' => ∃ r : Int, e = .returned (.int .i64 r) ∧ decide (0 ≤ r) = Tz.has2 S C s c m ∧ Below w.heap.size w w' := by
  have HS : Hid (Tz.Spans w g 0 m S C) := h1
  clear h1
  go_enter Tryz.func21, Tryz.ntmps21
  go_wp2
  go_loopw [8] (fun i wr => ∃ k : Nat, k ≤ m ∧ i = .int .i64 k ∧ Tz.has2 S C s c k = false ∧ Below w.heap.size w wr ∧ wr.cell? ⟨w.heap.size, 0, none⟩ = some (.int .i64 s) ∧ wr.cell? ⟨w.heap.size, 1, none⟩ = some (.int .i64 c)) (fun i _ => m - (Tz.int2 i).toNat)
  case atStart => exact ⟨0, Nat.zero_le _, rfl, rfl, (Below.refl _ w).alloc (Nat.le_refl _) _, by rw [World.cell?_alloc_at _ _ _ _ rfl]; rfl, by rw [World.cell?_alloc_at _ _ _ _ rfl]; rfl⟩
  case round =>
    obtain ⟨k, hk, rfl, hh, hbw, e1, e2⟩ := hrel
    have HB : Hid (Below w.heap.size w wr) := hbw
    have HH : Hid (Tz.has2 S C s c k = false) := hh
    clear hbw hh
    by_cases hkm : k < m
    · have q1 := (HB.out.cell (p := ⟨g, k * 2, none⟩) b1).trans ((by simpa using (HS.out k hkm).1))
      have q2 := (HB.out.cell (p := ⟨g, k * 2 + 1, none⟩) b1).trans ((by simpa using (HS.out k hkm).2))
      by_cases hv : s = S k ∧ c = C k
      · have HT : Hid (Tz.has2 S C s c m = true) := by have := Tz.has2_of hkm hv; exact this
        obtain ⟨v1, v2⟩ := hv
        subst v1 v2
        go_wp2
        go_region
        all_goals go_wp2
        all_goals go_ret
        all_goals exact ⟨k, rfl, by rw [HT.out]; simp, HB.out.drew⟩
      · have HF : Hid (Tz.has2 S C s c (k + 1) = false) := by
          have : Tz.has2 S C s c (k + 1) = false := by rw [Tz.has2_succ, HH.out]; simpa using hv
          exact this
        by_cases hs : s = S k
        · have hc : ¬ c = C k := fun h => hv ⟨hs, h⟩
          clear hv
          go_wp2
          go_region
          all_goals go_wp2
          all_goals exact ⟨⟨k + 1, by omega, by go_num, HF.out, HB.out.drew, e1, e2⟩, by simp [Tz.int2]; omega⟩
        · clear hv
          go_wp2
          go_region
          all_goals go_wp2
          all_goals exact ⟨⟨k + 1, by omega, by go_num, HF.out, HB.out.drew, e1, e2⟩, by simp [Tz.int2]; omega⟩
    · have hk2 : k = m := by omega
      subst hk2
      go_wp2
      go_ret
      exact ⟨-1, rfl, by rw [HH.out]; rfl, HB.out⟩
set_option maxHeartbeats 1000000 in
theorem Tz.contains2 (g m cp : Nat) (S C : Nat → Int) (s c : Int) (w : World) (hm : m ≤ 60) (h1 : Tz.Spans w g 0 m S C) (b1 : g < w.heap.size) :
    Calls Tryz.prog 11 #[.slice (some ⟨g, 0, none⟩) m cp, .agg #[.int .i64 s, .int .i64 c]] w fun e w' => e = .returned (.bool (Tz.has2 S C s c m)) ∧ Below w.heap.size w w' := by
  have H := Tz.index2 g m cp S C s c (w.alloc (.cells #[.int .i64 s, .int .i64 c] 29)) hm (h1.below b1 ((Below.refl _ w).alloc (Nat.le_refl _) _)) (by simp; omega)
  clear h1
  go_enter Tryz.func11, Tryz.ntmps11
  go_wp2_with fail
  refine H.mono ?_
  rintro e w1 ⟨r, rfl, hr, hb⟩
  have HB : Hid (Below w.heap.size w w1) := ((Below.refl _ w).alloc (Nat.le_refl _) _).trans (hb.mono (by simp))
  have HR : Hid (decide (0 ≤ r) = Tz.has2 S C s c m) := hr
  clear hb hr H
  go_wp2
  go_ret
  exact ⟨by rw [← HR.out]; rfl, HB.out⟩
set_option maxHeartbeats 1000000 in
theorem Tz.contains2_nil (a : Option Addr) (cp : Nat) (s c : Int) (w : World) :
    Calls Tryz.prog 11 #[.slice a 0 cp, .agg #[.int .i64 s, .int .i64 c]] w fun e w' => e = .returned (.bool false) ∧ Below w.heap.size w w' := by
  go_enter Tryz.func11, Tryz.ntmps11
  go_wp2_with fail
  have H : ∀ w : World, Calls Tryz.prog 21 #[.slice a 0 cp, .agg #[.int .i64 s, .int .i64 c]] w fun e w' => e = .returned (.int .i64 (-1)) ∧ Below w.heap.size w w' := by
    intro w
    go_enter Tryz.func21, Tryz.ntmps21
    go_wp2
    go_rounds 1
    go_ret
    exact ⟨rfl, (Below.refl _ w).alloc (Nat.le_refl _) _⟩
  refine (H _).mono ?_
  rintro e w1 ⟨rfl, hb⟩
  have HB : Hid (Below w.heap.size w w1) := ((Below.refl _ w).alloc (Nat.le_refl _) _).trans (hb.mono (by simp))
  clear H hb
  go_wp2
  go_ret
  exact ⟨rfl, HB.out⟩
end Go.Proofs

namespace Go.Proofs
open Go.RowKit
def Tz.flat (R : List (Int × Int)) : List Value := R.flatMap fun p => [.int .i64 p.1, .int .i64 p.2]
theorem Tz.flat_len (R : List (Int × Int)) : (Tz.flat R).length = R.length * 2 := by
  induction R with
  | nil => rfl
  | cons p R ih => simp only [Tz.flat, List.flatMap_cons, List.length_append, List.length_cons, List.length_nil] at *; omega
theorem Tz.flat_get : ∀ (R : List (Int × Int)) (j : Nat), j < R.length → (Tz.flat R)[j * 2]? = some (.int .i64 (R.getD j (0, 0)).1) ∧ (Tz.flat R)[j * 2 + 1]? = some (.int .i64 (R.getD j (0, 0)).2) := by
  intro R
  induction R with
  | nil => intro j h; simp at h
  | cons p R ih =>
    intro j h
    cases j with
    | zero => exact ⟨rfl, rfl⟩
    | succ j =>
      have e1 : (j + 1) * 2 = j * 2 + 2 := by omega
      rw [e1]
      have := ih j (by simpa using h)
      exact ⟨by simpa [Tz.flat] using this.1, by simpa [Tz.flat] using this.2⟩
theorem Tz.flat_append (R : List (Int × Int)) (p : Int × Int) : Tz.flat (R ++ [p]) = Tz.flat R ++ [.int .i64 p.1, .int .i64 p.2] := by simp [Tz.flat]
def Tz.fst (R : List (Int × Int)) (j : Nat) : Int := (R.getD j (0, 0)).1
def Tz.snd (R : List (Int × Int)) (j : Nat) : Int := (R.getD j (0, 0)).2
theorem Tz.row2 {w : World} {B : Nat} {v : Value} {R : List (Int × Int)} (h : w.ownsRow B 29 2 v R.length (Tz.flat R)) :
    (R = [] ∧ ∃ a c, v = .slice a 0 c) ∨ ∃ g c, v = .slice (some ⟨g, 0, none⟩) R.length c ∧ R.length ≤ c ∧ g < w.heap.size ∧ Tz.Spans w g 0 R.length (Tz.fst R) (Tz.snd R) := by
  rcases h.2 with ⟨e, hn⟩ | ⟨g, cap, cur, e, _, e3, e4, _⟩
  · exact .inl ⟨List.length_eq_zero_iff.1 hn, none, 0, e⟩
  · refine .inr ⟨g, cap, e, e4, (Array.getElem?_eq_some_iff.1 e3).1, fun i hi => ?_⟩
    rw [e] at h
    have h1 := h.cellAt (i * 2) (by omega)
    have h2 := h.cellAt (i * 2 + 1) (by omega)
    rw [(Tz.flat_get R i hi).1] at h1
    rw [(Tz.flat_get R i hi).2] at h2
    exact ⟨by rw [Nat.zero_add]; exact h1, by rw [Nat.zero_add]; exact h2⟩
theorem Tz.row1 {w : World} {B : Nat} {v : Value} {L : List Nat} (h : w.ownsRow B 3 1 v L.length (Tz.ints L)) :
    (L = [] ∧ ∃ a c, v = .slice a 0 c) ∨ ∃ g c, v = .slice (some ⟨g, 0, none⟩) L.length c ∧ g < w.heap.size ∧ ∀ j, j < L.length → w.cell? ⟨g, j, none⟩ = some (.int .i64 ((L.getD j 0 : Nat) : Int)) := by
  rcases h.2 with ⟨e, hn⟩ | ⟨g, cap, cur, e, _, e3, e4, _⟩
  · exact .inl ⟨List.length_eq_zero_iff.1 hn, none, 0, e⟩
  · refine .inr ⟨g, cap, e, (Array.getElem?_eq_some_iff.1 e3).1, fun i hi => ?_⟩
    rw [e] at h
    have h1 := h.cellAt i (by omega)
    rw [h1]
    simp [Tz.ints, List.getD, hi]
theorem Tz.has_list (L : List Nat) (x : Int) : Tz.has (fun j => ((L.getD j 0 : Nat) : Int)) x L.length = L.any fun y => decide (x = (y : Int)) := by
  rw [Bool.eq_iff_iff]
  simp only [Tz.has, List.any_eq_true, List.mem_range, decide_eq_true_eq]
  constructor
  · rintro ⟨j, hj, e⟩
    exact ⟨L[j], List.getElem_mem hj, by rw [e]; simp [List.getD, hj]⟩
  · rintro ⟨y, hy, e⟩
    obtain ⟨j, hj, rfl⟩ := List.mem_iff_getElem.1 hy
    exact ⟨j, hj, by rw [e]; simp [List.getD, hj]⟩
theorem Tz.has2_list (R : List (Int × Int)) (s c : Int) : Tz.has2 (Tz.fst R) (Tz.snd R) s c R.length = R.any fun p => decide (s = p.1 ∧ c = p.2) := by
  rw [Bool.eq_iff_iff]
  simp only [Tz.has2, List.any_eq_true, List.mem_range, decide_eq_true_eq, Tz.fst, Tz.snd]
  constructor
  · rintro ⟨j, hj, e⟩
    exact ⟨R[j], List.getElem_mem hj, by simpa [List.getD, hj] using e⟩
  · rintro ⟨y, hy, e⟩
    obtain ⟨j, hj, rfl⟩ := List.mem_iff_getElem.1 hy
    exact ⟨j, hj, by simpa [List.getD, hj] using e⟩
theorem Tz.contains_row {w : World} {B : Nat} {v : Value} {L : List Nat} (h : w.ownsRow B 3 1 v L.length (Tz.ints L)) (hL : L.length ≤ 60) (x : Int) :
    Calls Tryz.prog 10 #[v, .int .i64 x] w fun e w' => e = .returned (.bool (L.any fun y => decide (x = (y : Int)))) ∧ Below w.heap.size w w' := by
  rcases Tz.row1 h with ⟨rfl, a, c, rfl⟩ | ⟨g, c, rfl, hg, hc⟩
  · exact Tz.contains_nil a c x w
  · rw [← Tz.has_list]; exact Tz.contains g _ c _ x w hL hc hg
theorem Tz.contains2_row {w : World} {B : Nat} {v : Value} {R : List (Int × Int)} (h : w.ownsRow B 29 2 v R.length (Tz.flat R)) (hL : R.length ≤ 60) (s c : Int) :
    Calls Tryz.prog 11 #[v, .agg #[.int .i64 s, .int .i64 c]] w fun e w' => e = .returned (.bool (R.any fun p => decide (s = p.1 ∧ c = p.2))) ∧ Below w.heap.size w w' := by
  rcases Tz.row2 h with ⟨rfl, a, cp, rfl⟩ | ⟨g, cp, rfl, _, hg, hc⟩
  · exact Tz.contains2_nil a cp s c w
  · rw [← Tz.has2_list]; exact Tz.contains2 g _ cp _ _ s c w hL hc hg
theorem Tz.eq_row {w : World} {B B' : Nat} {v v' : Value} {L : List Nat} (h : w.ownsRow B 3 1 v L.length (Tz.ints L)) (h' : w.ownsRow B' 3 1 v' L.length (Tz.ints L)) (hL : L.length ≤ 60) :
    Calls Tryz.prog 8 #[v, v'] w fun e w' => e = .returned (.bool true) ∧ Below w.heap.size w w' := by
  rcases Tz.row1 h with ⟨hn, a, c, rfl⟩ | ⟨g, c, rfl, hg, hc⟩
  · subst hn
    rcases Tz.row1 h' with ⟨_, a', c', rfl⟩ | ⟨g', c', rfl, _, _⟩
    · exact Tz.eq8_nil a a' c c' w
    · exact Tz.eq8_nil a _ c c' w
  · rcases Tz.row1 h' with ⟨hn, a', c', rfl⟩ | ⟨g', c', rfl, hg', hc'⟩
    · subst hn; exact Tz.eq8_nil _ a' c c' w
    · exact Tz.eq8 g g' _ c c' _ w hL hc hc' hg hg'
set_option maxHeartbeats 1000000 in
theorem Tz.over_nil (a : Option Addr) (cap : Nat) (w : World) :
    Calls Tryz.prog 7 #[.slice a 0 cap] w fun e w' => ∃ v, e = .returned v ∧ w'.ownsRow w.heap.size 3 1 v 0 [] ∧ Below w.heap.size w w' := by
  go_enter Tryz.func7, Tryz.ntmps7
  go_wp2
  go_rounds 1
  go_ret
  exact ⟨_, rfl, World.ownsRow_nil _ _ _ _, Below.refl _ _⟩
set_option maxHeartbeats 1000000 in
theorem Tz.refo_nil (a : Option Addr) (cap : Nat) (w : World) :
    Calls Tryz.prog 9 #[.slice a 0 cap] w fun e w' => ∃ v, e = .returned v ∧ w'.ownsRow w.heap.size 3 1 v 0 [] ∧ Below w.heap.size w w' := by
  go_enter Tryz.func9, Tryz.ntmps9
  go_wp2
  go_rounds 1
  go_ret
  exact ⟨_, rfl, World.ownsRow_lit w #[] 0 (Nat.le_refl _) (Nat.zero_le _) rfl, (Below.refl _ w).alloc (Nat.le_refl _) _⟩
theorem Tz.over_row {w : World} {B : Nat} {v : Value} {R : List (Int × Int)} (h : w.ownsRow B 29 2 v R.length (Tz.flat R)) (hL : R.length ≤ 60) (hf : Tz.few (Tz.fst R) (Tz.snd R) R.length = true) :
    Calls Tryz.prog 7 #[v] w fun e w' => ∃ v, e = .returned v ∧ w'.ownsRow w.heap.size 3 1 v (Tz.mk (Tz.fst R) (Tz.snd R) R.length).length (Tz.ints (Tz.mk (Tz.fst R) (Tz.snd R) R.length)) ∧ Below w.heap.size w w' := by
  rcases Tz.row2 h with ⟨rfl, a, cp, rfl⟩ | ⟨g, cp, rfl, hc1, hg, hc⟩
  · exact Tz.over_nil a cp w
  · exact Tz.over g 0 _ cp _ _ w hL hc hf hg hc1
/-! the law's own list -/
def Tz.rest (S C : Nat → Int) : Nat → List (Int × Int)
  | 0 => []
  | k + 1 => bif !Tz.hit S C (S k) (C k) k && !(Tz.rest S C k).any (fun p => decide (S k = p.1 ∧ C k = p.2)) then Tz.rest S C k ++ [(S k, C k)] else Tz.rest S C k
theorem Tz.rest_len (S C : Nat → Int) (k : Nat) : (Tz.rest S C k).length ≤ k := by
  induction k with
  | zero => exact Nat.le_refl _
  | succ k ih =>
    unfold Tz.rest; rw [cond_eq_ite]; split
    · rw [List.length_append, List.length_singleton]; omega
    · omega
theorem Tz.rest_mem (S C : Nat → Int) (k : Nat) : ∀ p ∈ Tz.rest S C k, ∃ j, j < k ∧ p = (S j, C j) := by
  induction k with
  | zero => intro p hp; cases hp
  | succ k ih =>
    intro p hp
    unfold Tz.rest at hp
    rw [cond_eq_ite] at hp
    split at hp
    · rcases List.mem_append.1 hp with hp | hp
      · obtain ⟨j, hj, e⟩ := ih p hp; exact ⟨j, by omega, e⟩
      · simp at hp; exact ⟨k, by omega, hp⟩
    · obtain ⟨j, hj, e⟩ := ih p hp; exact ⟨j, by omega, e⟩
theorem Tz.rest_clash (S C : Nat → Int) (k : Nat) : (Tz.rest S C k).Pairwise fun p q => Tz.clash q.1 q.2 p.1 p.2 = false := by
  induction k with
  | zero => exact List.Pairwise.nil
  | succ k ih =>
    unfold Tz.rest
    rw [cond_eq_ite]
    split
    · rename_i h
      rw [List.pairwise_append]
      refine ⟨ih, List.pairwise_singleton _ _, fun p hp q hq => ?_⟩
      simp at hq
      subst hq
      obtain ⟨j, hj, rfl⟩ := Tz.rest_mem S C k p hp
      simp at h
      have := h.1
      cases hc : Tz.clash (S k) (C k) (S j) (C j) with
      | false => rfl
      | true => rw [Tz.hit_of hj hc] at this; cases this
    · exact ih
theorem Tz.rest_mk (S C : Nat → Int) (k : Nat) : Tz.mk (Tz.fst (Tz.rest S C k)) (Tz.snd (Tz.rest S C k)) (Tz.rest S C k).length = [] := by
  unfold Tz.mk
  rw [List.filter_eq_nil_iff]
  intro i hi
  simp only [List.mem_range] at hi
  simp only [Bool.not_eq_true]
  unfold Tz.hit
  rw [List.any_eq_false]
  intro j hj
  simp only [List.mem_range] at hj
  simp only [Bool.not_eq_true]
  have h := List.pairwise_iff_getElem.1 (Tz.rest_clash S C k) j i (by omega) hi hj
  simpa [Tz.fst, Tz.snd, List.getD, hi, show j < (Tz.rest S C k).length by omega] using h
theorem Tz.rest_few {S C : Nat → Int} {n : Nat} (h : Tz.few S C n = true) : Tz.few (Tz.fst (Tz.rest S C n)) (Tz.snd (Tz.rest S C n)) (Tz.rest S C n).length = true := by
  unfold Tz.few
  rw [List.all_eq_true]
  intro i hi
  simp only [List.mem_range] at hi
  obtain ⟨j, hj, e⟩ := Tz.rest_mem S C n _ (List.getElem_mem hi)
  have := Tz.few_get h hj
  simpa [Tz.fst, Tz.snd, List.getD, hi, e] using this
theorem Tz.mk_any {S C : Nat → Int} {n i : Nat} (hi : i < n) : ((Tz.mk S C n).any fun y => decide ((i : Int) = (y : Int))) = Tz.hit S C (S i) (C i) i := by
  rw [Bool.eq_iff_iff, List.any_eq_true]
  constructor
  · rintro ⟨y, hy, e⟩
    have e := of_decide_eq_true e
    have : i = y := by omega
    subst this
    exact (List.mem_filter.1 hy).2
  · intro h
    exact ⟨i, List.mem_filter.2 ⟨by simpa using hi, h⟩, by simp⟩
end Go.Proofs

namespace Go.Proofs
open Go.RowKit
theorem Tz.info29 : (Tryz.prog.info? 29).map (fun i => (i.zero, i.size, i.bytes)) = some (some (.agg #[.int .i64 0, .int .i64 0]), 2, 16) := by kernel_rfl
theorem Tz.own_mono {w : World} {B B' e size n : Nat} {v : Value} {xs : List Value} (h : w.ownsRow B e size v n xs) (hb : B' ≤ B) : w.ownsRow B' e size v n xs := by
  refine ⟨h.1, h.2.imp id ?_⟩
  rintro ⟨g, cap, cur, e1, e2, e3⟩
  exact ⟨g, cap, cur, e1, by omega, e3⟩
set_option maxHeartbeats 2000000 in
set_option maxRecDepth 100000 in
theorem Tz.law (hA : ∀ w : World, Calls Tryz.prog 5 #[] w fun e w' => e = .returned (.bool true) ∧ Below w.heap.size w w')
    (b off n cap : Nat) (S C : Nat → Int) (w : World) (hn : n ≤ 9223372036854775807) (hs : Tz.Spans w b off n S C) (hb : b < w.heap.size) (hcap : n ≤ cap) :
    Calls Tryz.prog 3 #[.slice (some ⟨b, off, none⟩) n cap] w fun e w' => e = .returned (.bool true) ∧ Below w.heap.size w w' := by
  have HS : Hid (Tz.Spans w b off n S C) := hs
  clear hs
  obtain ⟨i0, hi, hz0, hz1, hz2⟩ := info_parts Tz.info29
  go_enter Tryz.func3, Tryz.ntmps3
  go_wp2_with fail
  refine (hA _).mono ?_
  rintro e w1 ⟨rfl, hb1⟩
  have HB1 : Hid (Below w.heap.size w w1) := hb1
  clear hb1
  go_wp2_with fail
  refine (Tz.few_some b off n cap S C w1 hn (HS.out.below hb HB1.out)).mono ?_
  rintro e w2 ⟨rfl, rfl⟩
  by_cases hfew : (Tz.few S C n && decide (n ≤ 60)) = true
  · have HFW : Hid ((Tz.few S C n && decide (n ≤ 60)) = true) := hfew
    have hf1 : Tz.few S C n = true := by simp at hfew; exact hfew.1
    have hn6 : n ≤ 60 := by simp at hfew; exact hfew.2
    have HF : Hid (Tz.few S C n = true) := hf1
    clear hf1
    rw [hfew]
    clear hfew
    go_wp2_with fail
    refine (Tz.over b off n cap S C w2 hn6 (HS.out.below hb HB1.out) HF.out (by have := HB1.out.size; omega) hcap).mono ?_
    rintro e w3 ⟨v, rfl, hown, hb3⟩
    have HB3 : Hid (Below w.heap.size w w3) := HB1.out.trans (hb3.mono HB1.out.size)
    have HV : Hid (w3.ownsRow w.heap.size 3 1 v (Tz.mk S C n).length (Tz.ints (Tz.mk S C n))) := Tz.own_mono hown HB1.out.size
    clear hown hb3
    go_wp2_with fail
    refine (Tz.refo b off n cap S C w3 hn6 (HS.out.below hb HB3.out) HF.out (by have := HB3.out.size; omega)).mono ?_
    rintro e w4 ⟨v2, rfl, hown, hb4⟩
    have HB4 : Hid (Below w.heap.size w w4) := HB3.out.trans (hb4.mono HB3.out.size)
    have HV4 : Hid (w4.ownsRow w.heap.size 3 1 v (Tz.mk S C n).length (Tz.ints (Tz.mk S C n))) := Tz.own_below HV.out hb4
    have HV5 : Hid (w4.ownsRow w.heap.size 3 1 v2 (Tz.mk S C n).length (Tz.ints (Tz.mk S C n))) := Tz.own_mono hown HB3.out.size
    clear hown hb4 HV HB3
    have hml := Tz.mk_le S C n
    go_wp2_with fail
    refine (Tz.eq_row HV4.out HV5.out (by omega)).mono ?_
    rintro e w5 ⟨rfl, hb5⟩
    have HB5 : Hid (Below w.heap.size w w5) := HB4.out.trans (hb5.mono HB4.out.size)
    have HV : Hid (w5.ownsRow w.heap.size 3 1 v (Tz.mk S C n).length (Tz.ints (Tz.mk S C n))) := Tz.own_below HV4.out hb5
    clear hb5 HV4 HV5 HB4
    go_wp2_with fail
    go_loopw [4, 21] (fun r i wr => ∃ k : Nat, k ≤ n ∧ i = .int .i64 k ∧ wr.ownsRow w5.heap.size 29 2 r (Tz.rest S C k).length (Tz.flat (Tz.rest S C k)) ∧ Below w5.heap.size w5 wr) (fun _ i _ => n - (Tz.int2 i).toNat)
    case atStart => exact ⟨0, Nat.zero_le _, rfl, World.ownsRow_nil _ _ _ _, Below.refl _ _⟩
    case round =>
      obtain ⟨k, hk, rfl, hown, hbw⟩ := hrel
      have HO : Hid (wr.ownsRow w5.heap.size 29 2 u4 (Tz.rest S C k).length (Tz.flat (Tz.rest S C k))) := hown
      have HB : Hid (Below w5.heap.size w5 wr) := hbw
      clear hown hbw
      by_cases hkn : k < n
      · have HBw : Hid (Below w.heap.size w wr) := HB5.out.trans (HB.out.mono HB5.out.size)
        have c1 := (HBw.out.cell (p := ⟨b, off + k * 2, none⟩) hb).trans (HS.out k hkn).1
        have c2 := (HBw.out.cell (p := ⟨b, off + k * 2 + 1, none⟩) hb).trans (HS.out k hkn).2
        have hrl := Tz.rest_len S C k
        go_wp2_with fail
        refine (Tz.contains_row (B := w.heap.size) ((Tz.own_below HV.out HB.out).alloc _) (by omega) (k : Int)).mono ?_
        rintro e w6 ⟨rfl, hb6⟩
        rw [Tz.mk_any hkn]
        have HB6 : Hid (Below w5.heap.size w5 w6) := (HB.out.alloc HB.out.size _).trans (hb6.mono (by have := HB.out.size; simp; omega))
        have HO6 : Hid (w6.ownsRow w5.heap.size 29 2 u4 (Tz.rest S C k).length (Tz.flat (Tz.rest S C k))) := Tz.own_below (HO.out.alloc _) hb6
        have e0 : w6.cell? ⟨wr.heap.size, 0, none⟩ = some (.int .i64 (S k)) := (hb6.cell (p := ⟨wr.heap.size, 0, none⟩) (by simp)).trans (by rw [World.cell?_alloc_at _ _ _ _ rfl]; rfl)
        have e1 : w6.cell? ⟨wr.heap.size, 1, none⟩ = some (.int .i64 (C k)) := (hb6.cell (p := ⟨wr.heap.size, 1, none⟩) (by simp)).trans (by rw [World.cell?_alloc_at _ _ _ _ rfl]; rfl)
        have s6 : wr.heap.size < w6.heap.size := by have := hb6.size; simp at this; omega
        clear hb6 c1 c2 HBw
        cases hh : Tz.hit S C (S k) (C k) k with
        | true =>
          have HE : Hid (Tz.rest S C (k + 1) = Tz.rest S C k) := by
            have : Tz.rest S C (k + 1) = Tz.rest S C k := by rw [Tz.rest, hh]; rfl
            exact this
          clear hh
          go_wp2
          all_goals exact ⟨⟨k + 1, by omega, by go_num, by rw [HE.out]; exact HO6.out, HB6.out⟩, by simp [Tz.int2]; omega⟩
        | false =>
          go_wp2_with fail
          refine (Tz.contains2_row HO6.out (by omega) (S k) (C k)).mono ?_
          rintro e w7 ⟨rfl, hb7⟩
          have HB7 : Hid (Below w5.heap.size w5 w7) := HB6.out.trans (hb7.mono HB6.out.size)
          have HO7 : Hid (w7.ownsRow w5.heap.size 29 2 u4 (Tz.rest S C k).length (Tz.flat (Tz.rest S C k))) := Tz.own_below HO6.out hb7
          have e2 : w7.cell? ⟨wr.heap.size, 0, none⟩ = some (.int .i64 (S k)) := (hb7.cell (p := ⟨wr.heap.size, 0, none⟩) s6).trans e0
          have e3 : w7.cell? ⟨wr.heap.size, 1, none⟩ = some (.int .i64 (C k)) := (hb7.cell (p := ⟨wr.heap.size, 1, none⟩) s6).trans e1
          clear hb7 e0 e1 s6 HB6 HO6
          cases ha : (Tz.rest S C k).any fun p => decide (S k = p.1 ∧ C k = p.2) with
          | true =>
            have HE : Hid (Tz.rest S C (k + 1) = Tz.rest S C k) := by
              have : Tz.rest S C (k + 1) = Tz.rest S C k := by rw [Tz.rest, hh, ha]; rfl
              exact this
            clear hh ha
            go_wp2
            all_goals exact ⟨⟨k + 1, by omega, by go_num, by rw [HE.out]; exact HO7.out, HB7.out⟩, by simp [Tz.int2]; omega⟩
          | false =>
            have HE : Hid (Tz.rest S C (k + 1) = Tz.rest S C k ++ [(S k, C k)]) := by
              have : Tz.rest S C (k + 1) = Tz.rest S C k ++ [(S k, C k)] := by rw [Tz.rest, hh, ha]; rfl
              exact this
            clear hh ha
            go_wp2_with (first | (at_builtin; refine wpList_append_own _ rfl _ _ 22 rfl w5.heap.size 29 i0 (.agg #[.int .i64 0, .int .i64 0]) 2 16 Tryz.underlying22 hi hz0 hz1 hz2 rfl (by decide) _ _ _ rfl (HO7.out.alloc _) ⟨w7.heap.size, 0, none⟩ 1 1 [.int .i64 (S k), .int .i64 (C k)] rfl rfl ?c1 ?c2 ?c3 ?c4 ?c5 ?_) | fail)
            case c1 =>
              intro j u hj
              match j, hj with
              | 0, hj => simp at hj; subst hj; simp [Addr.add]
              | 1, hj => simp at hj; subst hj; simp [Addr.add]
            case c2 => intro u hu; simp at hu; rcases hu with rfl | rfl <;> rfl
            case c3 => unfold maxLen; omega
            case c4 => omega
            case c5 => have := HB7.out.size; simp; omega
            · intro v' w8 hown' hgrow _
              have HB8 : Hid (Below w5.heap.size w5 w8) := Tz.rel_app HB7.out.size HO7.out HB7.out hown' hgrow
              have h3 : w8.ownsRow w5.heap.size 29 2 v' (Tz.rest S C (k + 1)).length (Tz.flat (Tz.rest S C (k + 1))) := by
                rw [HE.out, Tz.flat_append]; simpa using hown'
              have HO8 : Hid (w8.ownsRow w5.heap.size 29 2 v' (Tz.rest S C (k + 1)).length (Tz.flat (Tz.rest S C (k + 1)))) := h3
              clear h3 hown' hgrow HB7 HO7 HE e2 e3
              go_wp2
              all_goals exact ⟨⟨k + 1, by omega, by go_num, HO8.out, HB8.out⟩, by simp [Tz.int2]; omega⟩
      · have hk2 : k = n := by omega
        subst hk2
        have hrl := Tz.rest_len S C k
        go_wp2_with fail
        refine (Tz.over_row HO.out (by omega) (Tz.rest_few HF.out)).mono ?_
        rintro e w6 ⟨r, rfl, hown, hb6⟩
        rw [Tz.rest_mk] at hown
        have HB6 : Hid (Below w.heap.size w w6) := HB5.out.trans ((HB.out.trans (hb6.mono HB.out.size)).mono HB5.out.size)
        obtain ⟨a, c, hr⟩ : ∃ a c, r = .slice a 0 c := by
          rcases Tz.row1 (L := []) hown with ⟨_, a, c, e⟩ | ⟨g, c, e, _⟩
          · exact ⟨a, c, e⟩
          · exact ⟨_, c, e⟩
        subst hr
        clear hown hb6
        go_wp2
        go_ret
        exact ⟨rfl, HB6.out⟩
  · have hfew2 : (Tz.few S C n && decide (n ≤ 60)) = false := by simpa using hfew
    rw [hfew2]
    clear hfew hfew2
    go_wp2
    go_ret
    exact ⟨rfl, HB1.out⟩
set_option maxHeartbeats 2000000 in
set_option maxRecDepth 100000 in
theorem Tz.law_nil (hA : ∀ w : World, Calls Tryz.prog 5 #[] w fun e w' => e = .returned (.bool true) ∧ Below w.heap.size w w') (a : Option Addr) (cap : Nat) (w : World) :
    Calls Tryz.prog 3 #[.slice a 0 cap] w fun e w' => e = .returned (.bool true) ∧ Below w.heap.size w w' := by
  go_enter Tryz.func3, Tryz.ntmps3
  go_wp2_with fail
  refine (hA _).mono ?_
  rintro e w1 ⟨rfl, hb1⟩
  have HB1 : Hid (Below w.heap.size w w1) := hb1
  clear hb1
  go_wp2_with fail
  refine (Tz.few_nil a cap w1).mono ?_
  rintro e w2 ⟨rfl, rfl⟩
  go_wp2_with fail
  refine (Tz.over_nil a cap w2).mono ?_
  rintro e w3 ⟨v, rfl, hown, hb3⟩
  have HB3 : Hid (Below w.heap.size w w3) := HB1.out.trans (hb3.mono HB1.out.size)
  have HV : Hid (w3.ownsRow w.heap.size 3 1 v ([] : List Nat).length (Tz.ints [])) := Tz.own_mono hown HB1.out.size
  clear hown hb3
  go_wp2_with fail
  refine (Tz.refo_nil a cap w3).mono ?_
  rintro e w4 ⟨v2, rfl, hown, hb4⟩
  have HB4 : Hid (Below w.heap.size w w4) := HB3.out.trans (hb4.mono HB3.out.size)
  have HV4 : Hid (w4.ownsRow w.heap.size 3 1 v ([] : List Nat).length (Tz.ints [])) := Tz.own_below HV.out hb4
  have HV5 : Hid (w4.ownsRow w.heap.size 3 1 v2 ([] : List Nat).length (Tz.ints [])) := Tz.own_mono hown HB3.out.size
  clear hown hb4 HV HB3
  go_wp2_with fail
  refine (Tz.eq_row HV4.out HV5.out (by simp)).mono ?_
  rintro e w5 ⟨rfl, hb5⟩
  have HB5 : Hid (Below w.heap.size w w5) := HB4.out.trans (hb5.mono HB4.out.size)
  clear hb5 HV4 HV5 HB4
  go_wp2_with fail
  refine wp_loop_rounds 1 ?_
  rw [rounds_succ]
  go_wp2_with fail
  refine (Tz.over_nil none 0 w5).mono ?_
  rintro e w6 ⟨r, rfl, hown, hb6⟩
  have HB6 : Hid (Below w.heap.size w w6) := HB5.out.trans (hb6.mono HB5.out.size)
  obtain ⟨a2, c, hr⟩ : ∃ a c, r = .slice a 0 c := by
    rcases Tz.row1 (L := []) hown with ⟨_, a, c, e⟩ | ⟨g, c, e, _⟩
    · exact ⟨a, c, e⟩
    · exact ⟨_, c, e⟩
  subst hr
  clear hown hb6
  go_wp2
  go_ret
  exact ⟨rfl, HB6.out⟩
end Go.Proofs
