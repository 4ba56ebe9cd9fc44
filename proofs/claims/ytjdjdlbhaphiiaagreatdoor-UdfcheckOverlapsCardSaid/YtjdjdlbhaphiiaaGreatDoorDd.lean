/- The laws of the functions that the machine does not run. -/
import Derived.Test.YtjdjdlbhaphiiaaGreatDoorVe
import Derived.Test.YtjdjdlbhaphiiaaGreatDoorVd
import Derived.Test.YtjdjdlbhaphiiaaGreatDoorDb
import Derived.Test.YtjdjdlbhaphiiaaGreatDoorDc
set_option linter.unusedVariables false
set_option linter.unusedSimpArgs false
namespace Go.Vm
open Go.Proofs Go.RowKit
theorem ok376 : CFunOk envT 376 iIndexByte := iIndexByte_ok fun s c w => Tryz.IndexByte s c w
theorem ok277 : CFunOk envT 277 iRepeat := iRepeat_ok fun s c w hc hl => Tryz.strings_Repeat s c w hc hl
theorem ok481 : CFunOk envT 481 (iCrc crcT) := iCrc_ok fun c s w hc hs => Tz.crc481 c s w hc hs
theorem ok381 : CFunOk envT 381 (iCrc crcR) := iCrc_ok fun c s w hc hs => (Tz.ref02 c s w hc hs).mono fun e w' ⟨h1, h2⟩ => ⟨h1, by rw [h2]; exact Below.refl _ _⟩
theorem ok373 : CFunOk envT 373 iCopyCheck := iCopyCheck_ok (fun b w h => Tryz.copyUsed b w h) fun T0 b w hT h0 hs hf => by
  have hT : bt (Nat.beq T0 322) true (Nat.beq T0 383) = true := by rw [bt_eq]; cases h : Nat.beq T0 322 <;> simp_all [exactTy]
  cases h1 : Nat.beq T0 322 with
  | true =>
    have := Nat.eq_of_beq_eq_true h1
    subst this
    exact Tryz.copyFresh b w h0 hs hf
  | false =>
    rw [h1, bt_false] at hT
    have := Nat.eq_of_beq_eq_true hT
    subst this
    exact Tryz.copyFreshAt Tryz.lies383 b w h0 hs hf
noncomputable def intrT : T CFun := T.set (some iIndexByte) 376 (T.set (some iRepeat) 277 (T.set (some (iCrc crcT)) 481 (T.set (some (iCrc crcR)) 381 (T.set (some iCopyCheck) 373 (T.set (some (framed (plainF envT 311))) 311 (T.set (some (framed (plainF envT 72))) 72 (T.set (some (framed (plainF envT 68))) 68 (T.set (some (framed (plainF envT 457))) 457 .nil))))))))
/-- a table of laws -/
def IntrOk (E : Env) (t : T CFun) : Prop := ∀ f g, t.get f = some g → CFunOk E f g
theorem IntrOk.nil {E : Env} : IntrOk E .nil := fun f g e => by rw [T.get_nil] at e; cases e
theorem IntrOk.set {E : Env} {t : T CFun} (h : IntrOk E t) {f : Nat} {g : CFun} (hg : CFunOk E f g) : IntrOk E (T.set (some g) f t) := fun f' g' e => by
  rw [T.get_set] at e
  by_cases hf : f = f'
  · rw [if_pos hf] at e; cases e; subst hf; exact hg
  · rw [if_neg hf] at e; exact h f' g' e
theorem intrT_ok : IntrOk envT intrT := ((((((((IntrOk.nil.set (framed_ok plainF_ok)).set (framed_ok plainF_ok)).set (framed_ok plainF_ok)).set (framed_ok plainF_ok)).set ok373).set ok381).set ok481).set ok277).set ok376
end Go.Vm
