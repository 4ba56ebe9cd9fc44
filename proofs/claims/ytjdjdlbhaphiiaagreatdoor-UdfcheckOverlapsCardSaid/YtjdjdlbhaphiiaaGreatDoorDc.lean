/- The shelf's contracts at this seat. -/
import Derived.Shelf.Strings.Repeat
import Derived.Shelf.Strings.Search1
import Derived.Shelf.Strings.Builder1
import Derived.Test.YtjdjdlbhaphiiaaGreatDoorProg
import Derived.KernelRfl
set_option linter.unusedVariables false
set_option linter.unusedSimpArgs false
namespace Go.Proofs
open Go.Shelf
def Tryz.laysRepeat_ren : Go.Shelf.Ren := ⟨fun | 105 => 277 | 212 => 416 | 99 => 402 | 165 => 417 | 166 => 290 | 170 => 418 | 169 => 217 | 263 => 512 | 264 => 513 | 206 => 499 | 240 => 373 | 241 => 514 | 276 => 482 | 277 => 573 | n => n, fun | 9 => 9 | 3 => 3 | 4 => 4 | 20 => 20 | 0 => 0 | 46 => 323 | 109 => 499 | 5 => 5 | 72 => 322 | 76 => 327 | 51 => 485 | 146 => 552 | 53 => 112 | 148 => 570 | 70 => 320 | 37 => 160 | 75 => 326 | 127 => 465 | 164 => 550 | 80 => 267 | n => n, fun | n => n⟩
theorem Tryz.laysRepeat : Go.Proofs.Lays.n105 Tryz.prog Tryz.laysRepeat_ren := {
  mixed := by kernel_rfl
  f99 := Tryz.func402.trans (congrArg some (by kernel_rfl))
  f105 := Tryz.func277.trans (congrArg some (by kernel_rfl))
  f165 := Tryz.func417.trans (congrArg some (by kernel_rfl))
  f166 := Tryz.func290.trans (congrArg some (by kernel_rfl))
  f169 := Tryz.func217.trans (congrArg some (by kernel_rfl))
  f170 := Tryz.func418.trans (congrArg some (by kernel_rfl))
  f206 := Tryz.func499.trans (congrArg some (by kernel_rfl))
  f212 := Tryz.func416.trans (congrArg some (by kernel_rfl))
  f240 := Tryz.func373.trans (congrArg some (by kernel_rfl))
  f241 := Tryz.func514.trans (congrArg some (by kernel_rfl))
  f263 := Tryz.func512.trans (congrArg some (by kernel_rfl))
  f264 := Tryz.func513.trans (congrArg some (by kernel_rfl))
  f276 := Tryz.func482.trans (congrArg some (by kernel_rfl))
  f277 := Tryz.func573.trans (congrArg some (by kernel_rfl))
  t0 := Tryz.underlying0
  a0 := Tryz.isAgg0
  z0 := Tryz.sizeOf0
  v0 := Tryz.zeroValue0
  t3 := Tryz.underlying3
  a3 := Tryz.isAgg3
  z3 := Tryz.sizeOf3
  v3 := Tryz.zeroValue3
  t4 := Tryz.underlying4
  a4 := Tryz.isAgg4
  z4 := Tryz.sizeOf4
  v4 := Tryz.zeroValue4
  t5 := Tryz.underlying5
  a5 := Tryz.isAgg5
  z5 := Tryz.sizeOf5
  v5 := Tryz.zeroValue5
  t9 := Tryz.underlying9
  a9 := Tryz.isAgg9
  z9 := Tryz.sizeOf9
  v9 := Tryz.zeroValue9
  t20 := Tryz.underlying20
  a20 := Tryz.isAgg20
  z20 := Tryz.sizeOf20
  v20 := Tryz.zeroValue20
  t37 := Tryz.underlying160
  a37 := Tryz.isAgg160
  z37 := Tryz.sizeOf160
  v37 := Tryz.zeroValue160
  t46 := Tryz.underlying323
  a46 := Tryz.isAgg323
  z46 := Tryz.sizeOf323
  v46 := Tryz.zeroValue323
  t51 := Tryz.underlying485
  a51 := Tryz.isAgg485
  z51 := Tryz.sizeOf485
  v51 := Tryz.zeroValue485
  t53 := Tryz.underlying112
  a53 := Tryz.isAgg112
  z53 := Tryz.sizeOf112
  v53 := Tryz.zeroValue112
  t70 := Tryz.underlying320
  a70 := Tryz.isAgg320
  z70 := Tryz.sizeOf320
  v70 := Tryz.zeroValue320
  t72 := Tryz.underlying322
  a72 := Tryz.isAgg322
  z72 := Tryz.sizeOf322
  v72 := Tryz.zeroValue322
  t75 := Tryz.underlying326
  a75 := Tryz.isAgg326
  z75 := Tryz.sizeOf326
  v75 := Tryz.zeroValue326
  t76 := Tryz.underlying327
  a76 := Tryz.isAgg327
  z76 := Tryz.sizeOf327
  v76 := Tryz.zeroValue327
  t109 := Tryz.underlying499
  a109 := Tryz.isAgg499
  z109 := Tryz.sizeOf499
  v109 := Tryz.zeroValue499
  t127 := Tryz.underlying465
  a127 := Tryz.isAgg465
  z127 := Tryz.sizeOf465
  v127 := Tryz.zeroValue465
  t146 := Tryz.underlying552
  a146 := Tryz.isAgg552
  z146 := Tryz.sizeOf552
  v146 := Tryz.zeroValue552
  t148 := Tryz.underlying570
  a148 := Tryz.isAgg570
  z148 := Tryz.sizeOf570
  v148 := Tryz.zeroValue570
  t164 := Tryz.underlying550
  a164 := Tryz.isAgg550
  z164 := Tryz.sizeOf550
  v164 := Tryz.zeroValue550 }
def Tryz.lays217_ren : Go.Shelf.Ren := ⟨fun | 217 => 376 | 266 => 484 | n => n, fun | 9 => 9 | 5 => 5 | 3 => 3 | n => n, fun | n => n⟩
theorem Tryz.lays217 : Go.Proofs.Lays.n217 Tryz.prog Tryz.lays217_ren := {
  mixed := by kernel_rfl
  f217 := Tryz.func376.trans (congrArg some (by kernel_rfl))
  f266 := Tryz.func484.trans (congrArg some (by kernel_rfl))
  t3 := Tryz.underlying3
  a3 := Tryz.isAgg3
  z3 := Tryz.sizeOf3
  v3 := Tryz.zeroValue3
  t5 := Tryz.underlying5
  a5 := Tryz.isAgg5
  z5 := Tryz.sizeOf5
  v5 := Tryz.zeroValue5
  t9 := Tryz.underlying9
  a9 := Tryz.isAgg9
  z9 := Tryz.sizeOf9
  v9 := Tryz.zeroValue9 }
end Go.Proofs

namespace Go.Proofs
open Go.Shelf Go.RowKit
theorem Tryz.extraR : Builder.Extra Tryz.prog Tryz.laysRepeat_ren where
  sizeBuilder := by kernel_rfl
  liesBuilder := by kernel_rfl
  t5 := Tryz.laysRepeat.t5
  a5 := Tryz.laysRepeat.a5
  z5 := Tryz.laysRepeat.z5
  v5 := Tryz.laysRepeat.v5
  infoByte := by kernel_rfl
  cellsByte := by kernel_rfl
  sizeByte := by kernel_rfl
  neB5 := by decide
theorem Tryz.strings_Repeat (s : ByteArray) (c : Nat) (w : World) (hc : c ≤ 9223372036854775807) (hlen : s.size * c ≤ 140737488355328) :
    Calls Tryz.prog 277 #[.string s, .int .i64 c] w fun e w' => e = .returned (.string ⟨(Lib.repeatL s.data.toList c).toArray⟩) ∧ Below w.heap.size w w' :=
  Any.strings_Repeat Tryz.laysRepeat Tryz.extraR s c w hc hlen
theorem Tryz.IndexByte (s : ByteArray) (c : Int) (w : World) : Calls Tryz.prog 376 #[.string s, .int .u8 c] w fun e w' => e = .returned (.int .i64 (Lib.indexByte s.data.toList c.toNat.toUInt8)) ∧ w' = w :=
  Any.stringslite_IndexByte Tryz.lays217 s c w
theorem Tryz.copyUsed (b : Nat) (w : World) (h0 : w.cell? ⟨b, 0, none⟩ = some (.pointer (some ⟨b, 0, none⟩))) : Calls Tryz.prog 373 #[.pointer (some ⟨b, 0, none⟩)] w fun e w' => e = .returned (.tuple #[]) ∧ w' = w :=
  Any.Builder_copyCheck_used { Tryz.laysRepeat with } Tryz.extraR.toX72 b w h0
theorem Tryz.copyFresh (b : Nat) (w : World) (h0 : w.cell? ⟨b, 0, none⟩ = some (.pointer none)) (hsh : w.shape? b = some (322, 2)) (hfz : w.frozen? ⟨b, 0, none⟩ = false) :
    Calls Tryz.prog 373 #[.pointer (some ⟨b, 0, none⟩)] w fun e w' => e = .returned (.tuple #[]) ∧ w' = w.setCell ⟨b, 0, none⟩ (.pointer (some ⟨b, 0, none⟩)) :=
  Any.Builder_copyCheck_fresh { Tryz.laysRepeat with } Tryz.extraR.toX72 b w h0 hsh hfz
set_option maxHeartbeats 1000000 in
set_option maxRecDepth 100000 in
theorem Tryz.copyFreshAt {T0 : TypeId} (hl : liesAt Tryz.prog Tryz.prog.depth T0 (2 / Tryz.prog.cellsOf T0) 0 322 1 = true) (b : Nat) (w : World) (h0 : w.cell? ⟨b, 0, none⟩ = some (.pointer none)) (hsh : w.shape? b = some (T0, 2)) (hfz : w.frozen? ⟨b, 0, none⟩ = false) :
    Calls Tryz.prog 373 #[.pointer (some ⟨b, 0, none⟩)] w fun e w' => e = .returned (.tuple #[]) ∧ w' = w.setCell ⟨b, 0, none⟩ (.pointer (some ⟨b, 0, none⟩)) := by
  have L : Lays.n240 Tryz.prog Tryz.laysRepeat_ren := { Tryz.laysRepeat with }
  have X := Tryz.extraR.toX72
  obtain ⟨j, hj, hjs⟩ := Option.map_eq_some_iff.1 X.sizeBuilder
  have mixed := L.mixed
  have t72 := L.t72; have a72 := L.a72; have z72 := L.z72; have v72 := L.v72; have u72 := run_underlying L.t72
  have t70 := L.t70; have a70 := L.a70; have z70 := L.z70; have v70 := L.v70; have u70 := run_underlying L.t70
  have t9 := L.t9; have a9 := L.a9; have z9 := L.z9; have v9 := L.v9; have u9 := run_underlying L.t9
  have t4 := L.t4; have a4 := L.a4; have z4 := L.z4; have v4 := L.v4; have u4 := run_underlying L.t4
  have t164 := L.t164; have a164 := L.a164; have z164 := L.z164; have v164 := L.v164; have u164 := run_underlying L.t164
  have hlies : liesAt Tryz.prog Tryz.prog.depth T0 (2 / Tryz.prog.cellsOf T0) 0 (Tryz.laysRepeat_ren.t 72) 1 = true := hl
  show Calls Tryz.prog (Tryz.laysRepeat_ren.f 240) _ _ _
  go_enter L.f240, Body.n240_ntmps Tryz.laysRepeat_ren
  go_wp2
  rw [Lib.run_to_unsafe w ⟨b, 0, none⟩ L.t70 L.t164 hj (by rw [hjs]; decide) hsh (Nat.zero_lt_succ 1)]
  simp only [Result.andThen]
  rw [Oper.upon_value]
  go_wp2
  rw [run_callFunc_extern L.f276 (by kernel_rfl) (by kernel_rfl) (by kernel_rfl) (e := Extern.AbiNoEscape.same) (by kernel_rfl)]
  rw [Lib.run_noEscape]
  simp only [Result.andThen]
  rw [Oper.upon_value]
  go_wp2
  rw [Lib.run_from_unsafe w ⟨b, 0, none⟩ L.t164 L.t70 hj hsh hlies]
  simp only [Result.andThen]
  rw [Oper.upon_value]
  go_wp2
  go_end0
  exact ⟨rfl, rfl⟩
theorem Tryz.lies383 : liesAt Tryz.prog Tryz.prog.depth 383 (2 / Tryz.prog.cellsOf 383) 0 322 1 = true := by kernel_rfl
end Go.Proofs
