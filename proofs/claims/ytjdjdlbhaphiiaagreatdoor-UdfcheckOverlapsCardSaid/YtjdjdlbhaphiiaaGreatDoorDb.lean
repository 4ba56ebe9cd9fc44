/- The walks of both checksums. -/
import Derived.WalkKit
import Derived.Handy
import Derived.KernelRfl
import Derived.BigGuardPart
import Derived.BigCall
import Derived.RowKitTokens
import Derived.Laws.BitsLemmas
import Derived.Test.YtjdjdlbhaphiiaaGreatDoorProg
import Derived.Test.YtjdjdlbhaphiiaaGreatDoorDa
set_option linter.unusedVariables false
set_option linter.unusedSimpArgs false
namespace Go.Proofs
open Go.RowKit
def Tz.intOf : Value → Int | .int _ q => q | _ => 0

theorem Tz.wrap_u16 (n : Int) : IntKind.u16.wrap n = n % 65536 := by simp [IntKind.wrap, IntKind.bits, IntKind.signed]
theorem Tz.xor16 (a b : Nat) (ha : a < 65536) (hb : b < 65536) : Go.bits .xor .u16 (a : Int) (b : Int) = ((a ^^^ b : Nat) : Int) := by
  have h1 : a % 2 ^ 16 = a := Nat.mod_eq_of_lt ha
  have h2 : b % 2 ^ 16 = b := Nat.mod_eq_of_lt hb
  have h3 : a ^^^ b < 2 ^ 16 := Nat.xor_lt_two_pow ha hb
  have hbits : IntKind.u16.bits = 16 := rfl
  simp only [Go.bits, hbits, BitVec.ofInt_natCast, BitVec.toNat_xor, BitVec.toNat_ofNat, h1, h2]
  rw [Tz.wrap_u16]
  omega
theorem Tz.bit_eq (c : Nat) : Vm.crcBit c = if c / 32768 = 1 then (c % 32768 * 2) ^^^ 4129 else c % 32768 * 2 := by
  unfold Vm.crcBit
  rw [Vm.bt_eq]
  by_cases h : c / 32768 = 1
  · have : Nat.beq (Nat.div c 32768) 1 = true := by show Nat.beq (c / 32768) 1 = true; rw [h]; rfl
    rw [if_pos this, if_pos h]; rfl
  · have : ¬ Nat.beq (Nat.div c 32768) 1 = true := fun hh => h (Nat.eq_of_beq_eq_true hh)
    rw [if_neg this, if_neg h]; rfl
theorem Tz.bit_lt {c : Nat} (_ : c < 65536) : Vm.crcBit c < 65536 := by
  rw [Tz.bit_eq]
  split
  · exact Nat.xor_lt_two_pow (n := 16) (by omega) (by omega)
  · omega
theorem Tz.bits_succ (k c : Nat) : Vm.crcBits (k + 1) c = Vm.crcBits k (Vm.crcBit c) := by
  show Vm.forceN (Vm.crcBit c) (Vm.crcBits k) = _
  rw [Vm.forceN_eq]
noncomputable def Tz.foldR (c : Nat) (l : List UInt8) : Nat := l.foldl (fun c b => Vm.crcR c b.toNat) c
theorem Tz.byte16 (b : UInt8) : IntKind.u16.wrap (IntKind.u16.wrap (b.toNat : Int) * 256) = ((b.toNat * 256 : Nat) : Int) := by
  have := b.toNat_lt
  rw [Tz.wrap_u16, Tz.wrap_u16]; omega

theorem Tz.ref02 (c : Nat) (s : ByteArray) (w : World) (hc : c < 65536) (hs : s.size ≤ 4611686018427387904) :
    Calls Tryz.prog 381 #[.int .u16 c, .string s] w fun e w' => e = .returned (.int .u16 (Tz.foldR c s.data.toList : Nat)) ∧ w' = w := by
  go_enter Tryz.func381, Tryz.ntmps381
  go_wp2
  go_loop [0, 5] (fun t i => ∃ (k C : Nat), k ≤ s.size ∧ i = .int .i64 k ∧ t = .int .u16 C ∧ C < 65536 ∧ Tz.foldR c s.data.toList = Tz.foldR C (s.data.toList.drop k)) (fun _ i => s.size - (Tz.intOf i).toNat)
  case atStart => exact ⟨0, c, by omega, rfl, rfl, hc, rfl⟩
  case round =>
    obtain ⟨k, C, hk, rfl, rfl, hC, hd⟩ := hrel
    have HD : Hid (Tz.foldR c s.data.toList = Tz.foldR C (s.data.toList.drop k)) := hd
    clear hd
    go_wp2
    · have hlt : k < s.size := by assumption
      have hb := (s[k]).toNat_lt
      rw [Tz.byte16, Tz.xor16 _ _ hC (by omega)]
      have hX : C ^^^ (s[k]).toNat * 256 < 65536 := Nat.xor_lt_two_pow (n := 16) hC (by omega)
      have hdrop : s.data.toList.drop k = s[k] :: s.data.toList.drop (k + 1) := by
        rw [List.drop_eq_getElem_cons (by simpa using hlt)]
        rfl
      have HE : Hid (Tz.foldR c s.data.toList = Tz.foldR (Vm.crcBits 8 (C ^^^ (s[k]).toNat * 256)) (s.data.toList.drop (k + 1))) := by rw [HD.out, hdrop]; rfl
      clear HD hdrop
      generalize C ^^^ (s[k]).toNat * 256 = X at hX HE
      go_loop [0, 6] (fun t j => ∃ (m D : Nat), m ≤ 8 ∧ j = .int .i64 m ∧ t = .int .u16 D ∧ D < 65536 ∧ Vm.crcBits 8 X = Vm.crcBits (8 - m) D) (fun _ j => 8 - (Tz.intOf j).toNat)
      case atStart => exact ⟨0, X, by omega, rfl, rfl, hX, rfl⟩
      case round =>
        obtain ⟨m, D, hm, rfl, rfl, hD, hd⟩ := hrel
        have HF : Hid (Vm.crcBits 8 X = Vm.crcBits (8 - m) D) := hd
        clear hd
        go_wp2
        · have h1 : ((D : Int) / 32768 == 1) = true := by assumption
          have hlt8 : (m : Int) < 8 := by assumption
          have h1' : D / 32768 = 1 := by simp at h1; omega
          go_round
          case rel =>
            refine ⟨m + 1, Vm.crcBit D, by omega, by go_num, ?_, Tz.bit_lt hD, ?_⟩
            · rw [Tz.bit_eq, if_pos h1']
              have e2 : ((D : Int) % 32768 * 2) = ((D % 32768 * 2 : Nat) : Int) := by omega
              have e4 : (4129 : Int) = ((4129 : Nat) : Int) := rfl
              rw [e2, e4, Tz.xor16 _ _ (by omega) (by omega)]
            · have e8 : 8 - m = (8 - (m + 1)) + 1 := by omega
              rw [HF.out, e8, Tz.bits_succ]
          case measure => simp [Tz.intOf]; omega
        · have h1 : ((D : Int) / 32768 == 1) = false := by assumption
          have hlt8 : (m : Int) < 8 := by assumption
          have h1' : ¬ D / 32768 = 1 := by simp at h1; omega
          go_round
          case rel =>
            refine ⟨m + 1, Vm.crcBit D, by omega, by go_num, ?_, Tz.bit_lt hD, ?_⟩
            · rw [Tz.bit_eq, if_neg h1']
              have e2 : ((D : Int) % 32768 * 2) = ((D % 32768 * 2 : Nat) : Int) := by omega
              rw [e2]
            · have e8 : 8 - m = (8 - (m + 1)) + 1 := by omega
              rw [HF.out, e8, Tz.bits_succ]
          case measure => simp [Tz.intOf]; omega
        · have hge : (8 : Int) ≤ (m : Int) := by assumption
          have hm8 : m = 8 := by omega
          subst hm8
          go_round
          case rel => exact ⟨k + 1, D, by omega, by go_num, rfl, hD, by rw [HE.out, HF.out]; rfl⟩
          case measure => simp [Tz.intOf]; omega
    · have hge : ¬ k < s.size := by assumption
      have hk2 : k = s.size := by omega
      have hnil : s.data.toList.drop k = [] := List.drop_eq_nil_of_le (by subst hk2; show s.data.size ≤ _; exact Nat.le_refl _)
      rw [HD.out, hnil]
      go_ret
      exact ⟨rfl, rfl⟩
theorem Tz.zeros599 : Tryz.zeroCells599.size = 256 := by kernel_rfl
theorem Tz.size599 (w : World) : (sizeOf 599).run Tryz.prog w = .ok 256 w := by kernel_rfl
theorem Tz.agg599 (w : World) : (isAgg 599).run Tryz.prog w = .ok true w := by kernel_rfl
noncomputable def Tz.tbl : List Nat := (List.range 256).map fun b => Vm.crcBits 8 (b * 256)
noncomputable def Tz.tblV : Array Value := (Tz.tbl.map fun n => Value.int .u16 (n : Nat)).toArray
theorem Tz.tblV_size : Tz.tblV.size = 256 := by simp [Tz.tblV, Tz.tbl]
theorem Tz.tblV_get (i : Nat) (h : i < 256) : Tz.tblV[i]? = some (.int .u16 (Vm.crcBits 8 (i * 256) : Nat)) := by
  simp [Tz.tblV, Tz.tbl, h]
theorem Tz.tblV_one : ∀ v ∈ Tz.tblV.toList, Vm.Value.one v = true := fun v hv => by simp [Tz.tblV] at hv; obtain ⟨n, _, rfl⟩ := hv; rfl
theorem Tz.wrap_u8 (n : Int) : IntKind.u8.wrap n = n % 256 := by simp [IntKind.wrap, IntKind.bits, IntKind.signed]
theorem Tz.xor8 (a b : Nat) (ha : a < 256) (hb : b < 256) : Go.bits .xor .u8 (a : Int) (b : Int) = ((a ^^^ b : Nat) : Int) := by
  have h1 : a % 2 ^ 8 = a := Nat.mod_eq_of_lt ha
  have h2 : b % 2 ^ 8 = b := Nat.mod_eq_of_lt hb
  have h3 : a ^^^ b < 2 ^ 8 := Nat.xor_lt_two_pow ha hb
  have hbits : IntKind.u8.bits = 8 := rfl
  simp only [Go.bits, hbits, BitVec.ofInt_natCast, BitVec.toNat_xor, BitVec.toNat_ofNat, h1, h2]
  rw [Tz.wrap_u8]
  omega
theorem Tz.bits_lt : ∀ (n : Nat) {c : Nat}, c < 65536 → Vm.crcBits n c < 65536 := by
  intro n
  induction n with
  | zero => intro c h; exact h
  | succ n ih => intro c h; rw [Tz.bits_succ]; exact ih (Tz.bit_lt h)
theorem Tz.direct (w : World) : Calls Tryz.prog 560 #[] w fun e w' => e = .returned (.agg Tz.tblV) ∧ Below w.heap.size w w' := by
  have h := Vm.direct_calls w
  have e : Tz.tblV = ((List.range 256).map fun b => Value.int .u16 (Vm.crcBits 8 (b * 256) : Nat)).toArray := by unfold Tz.tblV Tz.tbl; rw [List.map_map]; rfl
  rw [e]; exact h
set_option maxRecDepth 20000 in
theorem Tz.crc481 (c : Nat) (s : ByteArray) (w : World) (hc : c < 65536) (hs : s.size ≤ 4611686018427387904) :
    Calls Tryz.prog 481 #[.int .u16 c, .string s] w fun e w' => e = .returned (.int .u16 (s.data.toList.foldl (fun c b => Vm.crcT c b.toNat) c : Nat)) ∧ Below w.heap.size w w' := by
  go_enter Tryz.func481, Tryz.ntmps481
  go_wp2_with fail
  go_call (Tz.direct w) as e w1 ⟨he, hb⟩
  subst he
  rename_i K1 hK1 K2 hK2
  refine hK2 _ _ ?_
  clear hK2
  refine wpList_plain rfl fun K3 hK3 => ?_
  have hal : (execOp (Act.eval { tmps := #[Value.int IntKind.u16 ↑c, Value.string s, undef, undef, Value.int IntKind.u16 0, undef, undef, .agg Tz.tblV, undef, undef, undef, undef, undef, undef, undef, undef, undef, undef, undef, undef, undef, undef, undef, undef, undef, undef, undef], defers := [] }) { dst := some 5, op := Op.alloc 599, type := 0, pos := "checksum.go:60", after := #[], guard := none }).run Tryz.prog w1 = .ok (.value (.pointer (some ⟨w1.heap.size, 0, none⟩))) (w1.alloc (.cells Tryz.zeroCells599 599)) := by
    simp [execOp, Instr.alloc, newVar, newRow, Value.cells]
  unfold Oper.wp
  rw [hal, Oper.upon_value]
  clear hal
  refine hK3 _ _ ?_
  clear hK3
  show wpList Tryz.prog _ _ _ { tmps := #[Value.int IntKind.u16 ↑c, Value.string s, undef, undef, Value.int IntKind.u16 0, .pointer (some ⟨w1.heap.size, 0, none⟩), undef, .agg Tz.tblV, undef, undef, undef, undef, undef, undef, undef, undef, undef, undef, undef, undef, undef, undef, undef, undef, undef, undef, undef], defers := [] } _
  refine wpList_plain rfl fun K4 hK4 => ?_
  have htl : Tz.tblV.size = 256 := Tz.tblV_size
  have htv := Tz.tblV_get
  have hto := Tz.tblV_one
  have hZs := Tz.zeros599
  generalize Tryz.zeroCells599 = Z at hZs ⊢
  generalize Tz.tblV = TV at htl htv hto ⊢
  have g1 : (⟨w1.heap.size, 0, none⟩ : Addr).add 0 = ⟨w1.heap.size, 0, none⟩ := rfl
  have g2 : (w1.alloc (.cells Z 599)).heap[w1.heap.size]? = some (.cells Z 599 (0, 0)) := heap_alloc_new w1 _
  have g3 : 0 + TV.toList.length ≤ Z.size := by simp [htl, hZs]
  have g4 := Vm.run_storeCells (P := Tryz.prog) (c := w1.heap.size) TV.toList 0 ⟨w1.heap.size, 0, none⟩ 0 (w1.alloc (.cells Z 599)) Z 599 0 0 g1 rfl g2 g3 (fun j _ => by omega) hto
  refine Exists.elim g4 fun w3 hw3 => ?_
  have hst := hw3.1
  have hwr := hw3.2
  clear g4 hw3 g3 g2 g1
  have hal : (execOp (Act.eval { tmps := #[Value.int IntKind.u16 ↑c, Value.string s, undef, undef, Value.int IntKind.u16 0, .pointer (some ⟨w1.heap.size, 0, none⟩), undef, .agg TV, undef, undef, undef, undef, undef, undef, undef, undef, undef, undef, undef, undef, undef, undef, undef, undef, undef, undef, undef], defers := [] }) { dst := none, op := Op.store 599 (Operand.tmp 5) (Operand.tmp 7), type := 0, pos := "checksum.go:60", after := #[{ on := 1, ground := Ground.data }, { on := 0, ground := Ground.data }, { on := 0, ground := Ground.chain }, { on := 0, ground := Ground.phase }, { on := 1, ground := Ground.phase }], guard := none }).run Tryz.prog (w1.alloc (.cells Z 599)) = .ok .skip w3 := by
    simp [execOp, Act.eval, Instr.storeAt, Instr.sureAddr, storeVar, Tz.size599, Value.cells, htl, hst]
  unfold Oper.wp
  rw [hal, Oper.upon_skip]
  clear hal hst
  refine hK4 _ _ ?_
  clear hK4
  show wpList Tryz.prog _ _ _ { tmps := #[Value.int IntKind.u16 ↑c, Value.string s, undef, undef, Value.int IntKind.u16 0, .pointer (some ⟨w1.heap.size, 0, none⟩), undef, .agg TV, undef, undef, undef, undef, undef, undef, undef, undef, undef, undef, undef, undef, undef, undef, undef, undef, undef, undef, undef], defers := [] } _
  refine wpList_nil ?_
  show K1 _ _
  refine hK1 _ _ ?_
  clear hK1
  have hsz3 : w3.heap.size = w1.heap.size + 1 := by rw [hwr.size]; simp
  have HC : Hid (∀ i, i < 256 → w3.heap[w1.heap.size]? ≠ none ∧ w3.cell? ⟨w1.heap.size, i, none⟩ = some (.int .u16 (Vm.crcBits 8 (i * 256) : Nat))) := by
    intro i hi
    obtain ⟨arr, q1, q2, q3⟩ := hwr.at_ Z 599 (0, 0) (heap_alloc_new w1 _)
    refine ⟨by rw [q1]; simp, ?_⟩
    simp only [World.cell?, q1]
    have := q3 i
    rw [if_pos ⟨by omega, by simp [htl]; omega, by omega⟩] at this
    simp only [Nat.sub_zero, Array.getElem?_toList] at this
    rw [htv i hi] at this
    exact this
  have HB : Hid (Below w.heap.size w w3) := by
    refine hb.trans ⟨by rw [hwr.os]; rfl, by rw [hwr.tape]; rfl, by rw [hwr.output]; rfl, by omega, fun k hk => ?_⟩
    have := hb.size
    rw [hwr.other k (by omega)]
    exact Below.heap_alloc _ _ _ (by omega)
  have hblk : w1.heap.size < w3.heap.size := by omega
  clear hwr htv hto htl hZs hsz3 hb
  generalize w1.heap.size = bk at HC hblk ⊢
  clear Z w1
  generalize TV.size = tv
  go_wp2
  go_loop [0, 10] (fun t i => ∃ (k C : Nat), k ≤ s.size ∧ i = .int .i64 k ∧ t = .int .u16 C ∧ C < 65536 ∧ s.data.toList.foldl (fun c b => Vm.crcT c b.toNat) c = (s.data.toList.drop k).foldl (fun c b => Vm.crcT c b.toNat) C) (fun _ i => s.size - (Tz.intOf i).toNat)
  case atStart => exact ⟨0, c, by omega, rfl, rfl, hc, rfl⟩
  case round =>
    obtain ⟨k, C, hk, rfl, rfl, hC, hd⟩ := hrel
    have HD : Hid (s.data.toList.foldl (fun c b => Vm.crcT c b.toNat) c = (s.data.toList.drop k).foldl (fun c b => Vm.crcT c b.toNat) C) := hd
    clear hd
    go_wp2_with fail
    rotate_right
    · have hge : ¬ k < s.size := by assumption
      have hk2 : k = s.size := by omega
      have hnil : s.data.toList.drop k = [] := List.drop_eq_nil_of_le (by subst hk2; show s.data.size ≤ _; exact Nat.le_refl _)
      have hd := HD.out
      rw [hnil] at hd
      have hd2 : Array.foldl (fun c b => Vm.crcT c b.toNat) c s.data 0 s.size = C := by
        have := hd
        rw [Array.foldl_toList] at this
        exact this
      rw [hd2]
      have hb := HB.out
      clear HD HC
      go_ret
      exact ⟨rfl, hb⟩
    all_goals have hlt : k < s.size := by assumption
    all_goals have hb := (s[k]).toNat_lt
    all_goals have hX : (C / 256) ^^^ (s[k]).toNat < 256 := Nat.xor_lt_two_pow (n := 8) (by omega) (by omega)
    all_goals have hx : Go.bits .xor .u8 ((C : Int) / 256) ((s[k]).toNat : Int) = (((C / 256) ^^^ (s[k]).toNat : Nat) : Int) := (by have := Tz.xor8 (C / 256) (s[k]).toNat (by omega) (by omega); simpa using this)
    all_goals have hcell := (HC.out _ hX).2
    · rename_i heq
      rw [hx] at heq
      simp only [Int.toNat_natCast] at heq
      rw [hcell] at heq
      cases heq
      simp only [Result.andThen, Oper.upon_value]
      rename_i hK h1 h2
      refine hK _ _ ?_
      clear hK hcell
      have HX : Hid (s.data.toList.drop k = s[k] :: s.data.toList.drop (k + 1)) := by
        show s.data.toList.drop k = _
        rw [List.drop_eq_getElem_cons (by simpa using hlt)]
        rfl
      go_wp2
      have hD : Vm.crcBits 8 (((C / 256) ^^^ (s[k]).toNat) * 256) < 65536 := Tz.bits_lt 8 (by omega)
      have hW : IntKind.u16.wrap ((C : Int) * 256) = ((C * 256 % 65536 : Nat) : Int) := by rw [Tz.wrap_u16]; omega
      refine ⟨⟨k + 1, (C * 256 % 65536) ^^^ Vm.crcBits 8 (((C / 256) ^^^ (s[k]).toNat) * 256), by omega, by go_num, ?_, Nat.xor_lt_two_pow (n := 16) (by omega) hD, ?_⟩, by simp [Tz.intOf]; omega⟩
      · rw [hW, Tz.xor16 _ _ (by omega) hD]
      · rw [HD.out, HX.out]; rfl
    all_goals exfalso
    · have hn : w3.cell? { block := bk, off := (bits BinOp.xor IntKind.u8 (↑C / 256) ↑s[k].toNat).toNat } = none := by assumption
      rw [hx, Int.toNat_natCast, hcell] at hn
      cases hn
    · have hn : w3.cell? { block := bk, off := (bits BinOp.xor IntKind.u8 (↑C / 256) ↑s[k].toNat).toNat } = none := by assumption
      rw [hx, Int.toNat_natCast, hcell] at hn
      cases hn
    · have hn : ¬(0 ≤ bits BinOp.xor IntKind.u8 (↑C / 256) ↑s[k].toNat ∧ bits BinOp.xor IntKind.u8 (↑C / 256) ↑s[k].toNat < 256) := by assumption
      rw [hx] at hn
      omega
end Go.Proofs
