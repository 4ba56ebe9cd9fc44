/- The table of the checksum, by the machine. -/
import Derived.Test.YtjdjdlbhaphiiaaGreatDoorVe
import Derived.Test.YtjdjdlbhaphiiaaGreatDoorVd
import Derived.KernelRfl
set_option linter.unusedVariables false
set_option linter.unusedSimpArgs false
namespace Go.Vm
noncomputable def resA (o : Option (AV × T AObj × Nat)) (av : AV) : Bool := Option.rec (motive := fun _ => Bool) false (fun r => avEqN 6 av r.1) o
noncomputable def tblA : AV := .agg ((List.range 256).map fun b => .int .u16 (.ofNat (crcBits 8 (b * 256))))
set_option maxRecDepth 100000
theorem direct_run : resA (callF envT .nil 50 (.fn 560) [] .nil 0) tblA = true := by kernel_rfl
theorem ints_ok {ρ : Ren} {k : IntKind} : ∀ {l : List Nat} {vs : List Value}, VRs ρ (l.map fun n => .int k (.ofNat n)) vs → vs = l.map fun n => Value.int k (n : Nat) := by
  intro l
  induction l with
  | nil => intro vs h; rw [List.map_nil, VRs.nil_iff] at h; exact h
  | cons n l ih =>
    intro vs h
    rw [List.map_cons, VRs.cons_iff] at h
    obtain ⟨x, xs, rfl, h1, h2⟩ := h
    rw [ih h2]
    cases h1
    rfl
theorem Ext.toBelow {B : Nat} {ρ : Ren} {h' : Heap} {nx' : Nat} {w w' : World} {ρ' : Ren} (x : Ext B ρ (fun _ => none) 0 w ρ' h' nx' w') : Go.RowKit.Below w.heap.size w w' :=
  ⟨x.same.os, x.same.tape, x.same.output, x.same.size, fun k hk => x.keep k hk fun ⟨_, _, _, e, _⟩ => by cases e⟩
theorem direct_calls (w : World) : Calls Go.Proofs.Tryz.prog 560 #[] w fun e w' => e = .returned (.agg ((List.range 256).map fun b => Value.int .u16 (crcBits 8 (b * 256) : Nat)).toArray) ∧ Go.RowKit.Below w.heap.size w w' := by
  cases hr : callF envT .nil 50 (.fn 560) [] .nil 0 with
  | none => have := direct_run; rw [hr] at this; cases this
  | some r =>
    obtain ⟨av, h', nx'⟩ := r
    have hd := direct_run
    rw [hr] at hd
    have hd := avEqN_ok 6 _ _ hd
    subst hd
    refine (callF_calls (E := envT) (intr := .nil) (fun f g e => by rw [T.get_nil] at e; cases e) hr w (fun g cs e => by cases e)).mono ?_
    rintro e w' ⟨v, ρ', rfl, hx, hv⟩
    obtain ⟨vs, rfl, hvs⟩ := hv
    have hvs : VRs ρ' (((List.range 256).map fun b => crcBits 8 (b * 256)).map fun n => .int .u16 (.ofNat n)) vs.toList := by rw [List.map_map]; exact hvs
    have e2 := ints_ok hvs
    rw [List.map_map] at e2
    have e3 : vs = (List.map ((fun n : Nat => Value.int .u16 (n : Nat)) ∘ fun b => crcBits 8 (b * 256)) (List.range 256)).toArray := by rw [← e2]
    exact ⟨by rw [e3]; rfl, hx.toBelow⟩
end Go.Vm
