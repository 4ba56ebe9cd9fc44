/- The row of UdfcheckOverlaps. -/
import Derived.Test.YtjdjdlbhaphiiaaGreatDoorWc
import Derived.Test.YtjdjdlbhaphiiaaGreatDoorTa
import Derived.Test.YtjdjdlbhaphiiaaGreatDoorJd
import Derived.ProofKit
import Derived.LaidMore
import Derived.OpenShut
import Derived.Stop.Joined
import Derived.Lay
import Derived.LaidOnce
import Derived.Deep.SlicePairs
import Derived.Test.YtjdjdlbhaphiiaaGreatDoorCards
set_option linter.unusedVariables false
set_option linter.unusedSimpArgs false
namespace Go.Proofs.YtjdjdlbhaphiiaaGreatDoor
open Go Go.ChangeShapes Go.WideShapes Go.ChangeAt Go.RowKit Go.Deep
theorem own : ownKnob Tryz.prog.godebug = none := by kernel_rfl
theorem noInit3 : Tryz.prog.inits.idxOf? 3 = none := by kernel_rfl
abbrev laid5 : List (String × DataW Unit) := Rows.udfcheckOverlapsRow.laid
theorem w1 (os : Os) : (World.laidAll Tryz.prog os laid5).variablesZipB Tryz.prog = true := by kernel_rfl
theorem w2 (os : Os) : ((World.laidAll Tryz.prog os laid5).heap.toList.drop Tryz.prog.globals.size).take ((begin Tryz.prog (fun _ _ => 0) default).world.heap.size - Tryz.prog.globals.size) =
      (begin Tryz.prog (fun _ _ => 0) default).world.heap.toList.drop Tryz.prog.globals.size := by kernel_rfl
theorem w3 : (laid5.all fun x => x.2.handleName?.isNone) = true := by kernel_rfl
theorem w4 (os : Os) : (World.holding Tryz.prog os ⟨#[], #[], []⟩).layFits Tryz.prog laid5 [] = true := by kernel_rfl
theorem w5 (os : Os) : (World.holding Tryz.prog os ⟨#[], #[], []⟩).layIfaces Tryz.prog laid5 (World.laidAll Tryz.prog os laid5) = true := by kernel_rfl

theorem ce29 : Tryz.prog.cellsOf 29 = 2 := by kernel_rfl
theorem ce3 : Tryz.prog.cellsOf 3 = 1 := by kernel_rfl
theorem wf1 (os : Os) : (World.laidAll Tryz.prog os laid5).Shaped Tryz.prog := World.shaped_of_ZipB (w1 os) (w2 os)
set_option maxHeartbeats 1000000 in
set_option maxRecDepth 100000 in
theorem lifted (os : Os) (started : os.Started) (H : Type) (enc : TypeId × Value → H) :
    ReturnsInHanded {} Tryz.checked os 3 .any (fun w args => (Rows.udfcheckOverlapsSpec.pre enc Tryz.prog Tryz.f3 [] false w args ∧ laidMetH Tryz.prog laid5 w) ∧ sizedMet enc Tryz.prog Tryz.f3 (OpenSpec.ofChange Rows.udfcheckOverlapsSpec) false w args)
      (Rows.udfcheckOverlapsSpec.post enc Tryz.prog Tryz.f3 false true false false) := by
  refine returnsInHanded_of_change_and (C := Tryz.checked) (X := fun w _ => laidMetH Tryz.prog laid5 w) (fun _ _ _ hh h => h.of_heap hh) own started noInit3 Tryz.func3
    (ChangeSpec.witness_shaped (enc := enc) (C := Tryz.checked) (os := os) (X := fun w _ => laidMetH Tryz.prog laid5 w) false (World.laidAll Tryz.prog os laid5) #[.slice none 0 0] 8 (World.laidAll_os _ _ _)
      (wf1 os) (by kernel_rfl) (by kernel_rfl) (by kernel_rfl) (by rw [MakeChecks.laidMetH_plain _ _ _ w3]; exact laidMet_laidAll _ (w4 os) (w5 os))) ?_
  intro W base args ds gs before hval0 hW _ _ _ _
  have hval : ∀ (j : Nat) t v, Tryz.f3.params[j]? = some t → args[j]? = some v → Value.okWide Tryz.prog W .any base t v := hval0
  have hW' := hW
  obtain ⟨p, q, hA0, hV, rfl, _, _⟩ := hW
  have hA : DataW.TrodAll enc Tryz.prog W 0 (fun _ => true) true Tryz.f3.params.toList args.toList ds p := hA0
  rw [Tryz.params3] at hA hval
  obtain ⟨v0, d0, rfl, rfl, h0⟩ := trodAll_one hA
  obtain ⟨rfl, rfl⟩ := trodVars_none hV
  obtain ⟨a0, len, cap, rfl⟩ := okWide_slice Tryz.underlying22 (hval 0 22 v0 rfl rfl)
  clear hA0 hval0 hval hA hV
  obtain ⟨fuel, hf⟩ := h0
  have fin : ∀ (e : Ending) (W' : World), e = .returned (.bool true) → Below W.heap.size W W' → DataW.Trod enc Tryz.prog W' 0 (fun b => decide (b < W.heap.size)) true 22 (.slice a0 len cap) d0 p →
      ∃ v, e = .returned v ∧ Rows.udfcheckOverlapsSpec.post enc Tryz.prog Tryz.f3 false true false false W #[.slice a0 len cap] v W' := by
    intro e W' he bel ht
    subst he
    exact ⟨_, rfl, _, _, _, [], _, [], hW', trodAll_mk1 (shut_bool Tryz.underlying4 _), trodAll_mk1 ht, rfl, bel.frame _, fun h => by cases h⟩
  rcases open_slice_pairs Tryz.underlying22 Tryz.underlying29 ce29 rfl rfl ce3 ce3 hf with ⟨hcs, hx⟩ | ⟨a, l, c, m, n, V0, V1, D0, D1, P0, P1, hcs, _, hl, hm, hmm, hx, hcell⟩
  · simp [Value.cells] at hcs
    obtain ⟨rfl, rfl, rfl⟩ := hcs
    cases hx
    refine (Tz.law_nil Tz.awake none 0 W).mono fun e W' ⟨he, bel⟩ => fin e W' he bel (shut_slice_nil Tryz.underlying22)
  · simp [Value.cells] at hcs
    obtain ⟨rfl, rfl, rfl⟩ := hcs
    simp only [if_true] at hmm
    subst hmm
    cases hx
    have hz : ∀ i, i < m → ∃ z0 z1 : Int, (W.cell? (a.add (i * 2)) = some (.int .i64 z0) ∧ W.cell? (a.add (i * 2 + 1)) = some (.int .i64 z1)) ∧ (V0 i = .int .i64 z0 ∧ V1 i = .int .i64 z1) ∧ ((D0 i, P0 i) = (.lit (.int .i64 z0), []) ∧ (D1 i, P1 i) = (.lit (.int .i64 z1), [])) ∧ (Lit.int .i64 z0).wf = true ∧ (Lit.int .i64 z1).wf = true := by
      intro i hi
      obtain ⟨e1, e2, e3, e4⟩ := hcell i hi
      obtain ⟨z0, f1, f2, f3⟩ := DataW.trod_int Tryz.underlying3 e3
      obtain ⟨z1, g1, g2, g3⟩ := DataW.trod_int Tryz.underlying3 e4
      simp only [List.cons.injEq, and_true] at f1 g1
      exact ⟨z0, z1, ⟨f1 ▸ e1, g1 ▸ e2⟩, ⟨f1, g1⟩, ⟨f2, g2⟩, f3, g3⟩
    by_cases hm0 : m = 0
    · subst hm0
      have hl0 : len = 0 := by omega
      subst hl0
      refine (Tz.law_nil Tz.awake (some a) 0 W).mono fun e W' ⟨he, bel⟩ => fin e W' he bel ?_
      by_cases hsp : decide (a.block < W.heap.size) = true
      · obtain ⟨n', hn'⟩ := shut_slice_whole_cells (enc := enc) (P := Tryz.prog) (w := W') (base := 0) (spare := fun b => decide (b < W.heap.size)) (held := true) (a := a) (len := 0) (cap := 0) Tryz.underlying22 (Nat.zero_le _) (Nat.le_refl _) (Nat.zero_le _) hsp (fun i => .agg [D0 i, D1 i]) (fun i => P0 i ++ P1 i) (fun i hi => absurd hi (Nat.not_lt_zero _))
        exact ⟨n', by show DataW.trod enc Tryz.prog W' 0 (fun b => decide (b < W.heap.size)) true n' 22 [Value.slice (some a) 0 0] = _; simpa [MemPlace.row] using hn'⟩
      · obtain ⟨n', hn'⟩ := shut_slice_cells (enc := enc) (P := Tryz.prog) (w := W') (base := 0) (spare := fun b => decide (b < W.heap.size)) (held := true) (a := a) (len := 0) (cap := 0) Tryz.underlying22 (Nat.zero_le _) (Nat.le_refl _) (Nat.zero_le _) (by simpa using hsp) (fun i => .agg [D0 i, D1 i]) (fun i => P0 i ++ P1 i) (fun i hi => absurd hi (Nat.not_lt_zero _))
        exact ⟨n', by show DataW.trod enc Tryz.prog W' 0 (fun b => decide (b < W.heap.size)) true n' 22 [Value.slice (some a) 0 0] = _; simpa [MemPlace.row] using hn'⟩
    · obtain ⟨b, off, spot⟩ := a
      obtain ⟨z0, z1, ⟨q0, _⟩, _⟩ := hz 0 (by omega)
      have hspot : spot = none := by simpa [Addr.add] using World.cell?_spot q0
      subst hspot
      have hb : b < W.heap.size := by
        simp only [Nat.zero_mul, add_plain] at q0
        unfold World.cell? at q0
        rcases Nat.lt_or_ge b W.heap.size with h | h
        · exact h
        · simp [Array.getElem?_eq_none h] at q0
      have each : ∀ i, i < m → ∃ z : Int × Int, (W.cell? ⟨b, off + i * 2, none⟩ = some (.int .i64 z.1) ∧ W.cell? ⟨b, off + i * 2 + 1, none⟩ = some (.int .i64 z.2)) ∧ (V0 i = .int .i64 z.1 ∧ V1 i = .int .i64 z.2) ∧ ((D0 i, P0 i) = (.lit (.int .i64 z.1), []) ∧ (D1 i, P1 i) = (.lit (.int .i64 z.2), [])) ∧ (Lit.int .i64 z.1).wf = true ∧ (Lit.int .i64 z.2).wf = true := by
        intro i hi
        obtain ⟨z0, z1, h1, h2, h3, h4⟩ := hz i hi
        rw [add_plain, add_plain] at h1
        exact ⟨(z0, z1), h1, h2, h3, h4⟩
      obtain ⟨Z, hZ⟩ := choose_lt each
      refine (Tz.law Tz.awake b off len m (fun i => (Z i).1) (fun i => (Z i).2) W (by unfold maxLen at hm; omega) (fun i hi => (hZ i (by omega)).1) hb hl).mono fun e W' ⟨he, bel⟩ => fin e W' he bel ?_
      obtain ⟨n', hn'⟩ := shut_slice_pairs_whole (enc := enc) (P := Tryz.prog) (w := W') (base := 0) (spare := fun b => decide (b < W.heap.size)) (held := true) Tryz.underlying22 Tryz.underlying29 ce29 rfl rfl ce3 ce3 (b := b) (off := off) (len := len) (cap := m) (Nat.zero_le _) hl hm (by simpa using hb) V0 V1 D0 D1 P0 P1
        (fun i hi => by rw [(hZ i hi).2.1.1]; exact (bel.cell (p := ⟨b, off + i * 2, none⟩) hb).trans (hZ i hi).1.1) (fun i hi => by rw [(hZ i hi).2.1.2]; exact (bel.cell (p := ⟨b, off + i * 2 + 1, none⟩) hb).trans (hZ i hi).1.2)
        (fun i hi => ⟨1, by rw [(hZ i hi).2.1.1, (hZ i hi).2.2.1.1]; exact trod_int_mk 0 Tryz.underlying3 (hZ i hi).2.2.2.1⟩) (fun i hi => ⟨1, by rw [(hZ i hi).2.1.2, (hZ i hi).2.2.1.2]; exact trod_int_mk 0 Tryz.underlying3 (hZ i hi).2.2.2.2⟩)
      exact ⟨n', hn'⟩
theorem notWrapper : Tryz.f3.isWrapper Tryz.prog Rows.udfcheckOverlapsRow.wrapper Rows.udfcheckOverlapsRow.mainSum := by unfold Func.isWrapper; first | (rw [if_pos (by decide +kernel)]; kernel_rfl) | (rw [if_neg (by decide +kernel)]; exact ⟨rfl, rfl⟩)
theorem notInstance : Tryz.f3.isInstance Tryz.prog Rows.udfcheckOverlapsRow.origin Rows.udfcheckOverlapsRow.targs := of_decide_eq_true (by kernel_rfl)
theorem overlaps_holds : Rows.UdfcheckOverlapsSaid :=
  OpenClaim.holds_of_wide (p := Tryz.pinned) (s := Rows.udfcheckOverlapsSpec) (c := Rows.udfcheckOverlapsRow) 3 Tryz.f3 rfl rfl rfl rfl rfl rfl rfl ⟨rfl, rfl, rfl, rfl, rfl⟩ rfl rfl rfl rfl rfl kfn Tryz.func3 joined notInstance notWrapper
    (fun os started H enc _ => lifted os started H enc)
end Go.Proofs.YtjdjdlbhaphiiaaGreatDoor
