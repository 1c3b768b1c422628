/- The walk of the reference of layer 2: the long division, bit by bit, leaves the sum. -/
import Derived.Test.YtljfomgcoodjkaaXor
import Derived.Test.YtljfomgcoodjkaaDiv
import Derived.BigRegion
namespace Go.Proofs.Ytljfomgcoodjkaa
open Go.RowKit

/-- The bits of a number, n of them, as cells. -/
def bitCells (n R : Nat) : List Value := (List.range n).map fun j => .int .i64 (Crc.bit R j : Nat)
theorem bitCells_length (n R : Nat) : (bitCells n R).length = n := by simp [bitCells]
theorem bitCells_snoc (n R b : Nat) (h : R < 2 ^ n) (hb : b ≤ 1) : bitCells (n + 1) (R + b * 2 ^ n) = bitCells n R ++ [.int .i64 (b : Nat)] := by
  unfold bitCells
  rw [List.range_succ, List.map_append, List.map_cons, List.map_nil, Crc.bit_top R b n h hb]
  congr 1
  refine List.map_congr_left fun j hj => ?_
  rw [Crc.bit_low R b n j (List.mem_range.1 hj)]
theorem info3 : (Try.prog.info? 3).map (fun i => (i.zero, i.size, i.bytes)) = some (some (.int .i64 0), 1, 8) := by kernel_rfl

/-- A block whose first n cells are the bits of a number. -/
def BitBlk (w : World) (b n R : Nat) : Prop := ∃ cur, w.heap[b]? = some (.cells cur 3 (0, 0)) ∧ ∀ j, j < n → cur[j]? = some (.int .i64 (Crc.bit R j : Nat))
theorem BitBlk.cell {w : World} {b n R j : Nat} (h : BitBlk w b n R) (hj : j < n) : w.cell? ⟨b, j, none⟩ = some (.int .i64 (Crc.bit R j : Nat)) := by
  obtain ⟨cur, hb, hc⟩ := h
  rw [cell_of_row w b j cur 3 (0, 0) hb]; exact hc j hj
theorem BitBlk.free {w : World} {b n R : Nat} (h : BitBlk w b n R) (j : Nat) : w.frozen? ⟨b, j, none⟩ = false := by
  obtain ⟨cur, hb, _⟩ := h
  simp [World.frozen?, hb]
theorem BitBlk.flip {w : World} {b n R i : Nat} (h : BitBlk w b n R) (hi : i < n) : BitBlk (w.setCell ⟨b, i, none⟩ (.int .i64 ((1 - Crc.bit R i : Nat) : Int))) b n (R ^^^ 2 ^ i) := by
  obtain ⟨cur, hb, hc⟩ := h
  refine ⟨cur.setIfInBounds i (.int .i64 ((1 - Crc.bit R i : Nat) : Int)), by simp [World.setCell, Array.getElem?_modify, hb], fun j hj => ?_⟩
  by_cases e : j = i
  · subst e
    rw [Crc.bit_flip]
    exact Array.getElem?_setIfInBounds_self_of_lt (Array.getElem?_eq_some_iff.1 (hc j hj)).1
  · rw [Array.getElem?_setIfInBounds_ne (Ne.symm e), Crc.bit_far R i j (Ne.symm e)]
    exact hc j hj
theorem BitBlk.drew {w : World} {b n R : Nat} (h : BitBlk w b n R) : BitBlk w.drew b n R := h
theorem BitBlk.alloc {w : World} {b n R : Nat} (h : BitBlk w b n R) (o : Obj) : BitBlk (w.alloc o) b n R := by
  obtain ⟨cur, hb, hc⟩ := h
  exact ⟨cur, (Below.heap_alloc w o b (Array.getElem?_eq_some_iff.1 hb).1).trans hb, hc⟩
theorem BitBlk.of_own {w : World} {B n R : Nat} {v : Value} (h : w.ownsRow B 3 1 v n (bitCells n R)) (hn : 0 < n) : ∃ b c, v = .slice (some ⟨b, 0, none⟩) n c ∧ B ≤ b ∧ n ≤ c ∧ c ≤ maxLen ∧ b < w.heap.size ∧ BitBlk w b n R := by
  rcases h.2 with ⟨_, h0⟩ | ⟨g, cap, cur, rfl, hb, hh, hc, hm, hs, ht⟩
  · omega
  · refine ⟨g, cap, rfl, hb, hc, hm, (Array.getElem?_eq_some_iff.1 hh).1, cur, hh, fun j hj => ?_⟩
    have h2 : (cur.toList.take (n * 1))[j]? = (bitCells n R)[j]? := by rw [ht]
    rw [List.getElem?_take, if_pos (by omega), Array.getElem?_toList] at h2
    rw [h2]
    unfold bitCells
    rw [List.getElem?_map, List.getElem?_range hj]
    rfl

theorem ofInt_i64 (a : Nat) (ha : a < 9223372036854775808) : (BitVec.ofInt 64 (a : Int)).toNat = a := by
  rw [BitVec.ofInt_natCast, BitVec.toNat_ofNat]; exact Nat.mod_eq_of_lt (by omega)
theorem i64_and_nat (a b : Nat) (ha : a < 9223372036854775808) (hb : b < 9223372036854775808) : bits .and .i64 (a : Int) (b : Int) = ((a &&& b : Nat) : Int) := by
  have hx : a &&& b < 2 ^ 63 := Nat.and_lt_two_pow _ (by omega)
  show IntKind.i64.wrap ((BitVec.ofInt 64 (a : Int) &&& BitVec.ofInt 64 (b : Int)).toNat : Int) = _
  rw [BitVec.toNat_and, ofInt_i64 a ha, ofInt_i64 b hb, IntKind.wrap_i64]
  omega
theorem bit_of (c m : Nat) (hc : c ≤ 255) : bits BinOp.and IntKind.i64 ((c : Int) / 2 ^ m) 1 = ((Crc.bit c m : Nat) : Int) := by
  have hl : c / 2 ^ m ≤ 255 := Nat.le_trans (Nat.div_le_self _ _) hc
  rw [show (c : Int) / 2 ^ m = ((c / 2 ^ m : Nat) : Int) by simp, show (1 : Int) = ((1 : Nat) : Int) from rfl, i64_and_nat _ _ (by omega) (by decide), nat_mask1]
  rfl
theorem low_next (R c m k : Nat) : R + c % 2 ^ (m + 1) * 2 ^ (8 * k) = R + c % 2 ^ m * 2 ^ (8 * k) + Crc.bit c m * 2 ^ (8 * k + m) := by
  unfold Crc.bit
  rw [Nat.mod_pow_succ, Nat.add_mul, Nat.pow_add, Nat.add_assoc]
  congr 2
  rw [Nat.mul_comm (2 ^ m), Nat.mul_comm (2 ^ (8 * k)), Nat.mul_assoc]

theorem row_bit {w : World} {B k m x c : Nat} {v : Value} {l : List UInt8} (hl : l.length = k) (hx : x = Crc.bit c m)
    (h : w.ownsRow B 3 1 v (8 * k + m + 1) (bitCells (8 * k + m) (Crc.num l + c % 2 ^ m * 2 ^ (8 * k)) ++ [.int .i64 (x : Int)])) :
    w.ownsRow B 3 1 v (8 * k + (m + 1)) (bitCells (8 * k + (m + 1)) (Crc.num l + c % 2 ^ (m + 1) * 2 ^ (8 * k))) := by
  have h1 := Crc.num_lt l
  rw [hl] at h1
  have h2 : c % 2 ^ m * 2 ^ (8 * k) + 2 ^ (8 * k) ≤ 2 ^ (8 * k + m) := by
    have h3 : c % 2 ^ m + 1 ≤ 2 ^ m := Nat.mod_lt c (Nat.pow_pos (by omega))
    have h4 := Nat.mul_le_mul_right (2 ^ (8 * k)) h3
    rw [Nat.add_mul, Nat.one_mul] at h4
    rw [Nat.pow_add, Nat.mul_comm (2 ^ (8 * k))]
    exact h4
  rw [low_next, ← Nat.add_assoc, bitCells_snoc _ _ _ (by omega) (Crc.bit_le _ _), ← hx]
  exact h
theorem row_byte {w : World} {B k : Nat} {v : Value} {l : List UInt8} {c : UInt8} (hl : l.length = k) (h : w.ownsRow B 3 1 v (8 * k + 8) (bitCells (8 * k + 8) (Crc.num l + c.toNat % 2 ^ 8 * 2 ^ (8 * k)))) :
    w.ownsRow B 3 1 v (8 * (k + 1)) (bitCells (8 * (k + 1)) (Crc.num (l ++ [c]))) := by
  rw [Nat.mod_eq_of_lt c.toNat_lt] at h
  rw [Crc.num_snoc, hl]
  exact h
theorem row_zero {w : World} {B n R : Nat} {v : Value} (hR : R < 2 ^ n) (h : w.ownsRow B 3 1 v (n + 1) (bitCells n R ++ [.int .i64 0])) : w.ownsRow B 3 1 v (n + 1) (bitCells (n + 1) R) := by
  have := bitCells_snoc n R 0 hR (by omega)
  simp only [Nat.zero_mul, Nat.add_zero] at this
  rw [this]
  exact h
theorem zeros_lt {s : ByteArray} {R : Nat} (h : R < 2 ^ (8 * s.data.toList.length)) (m : Nat) : R < 2 ^ (8 * s.size + m) := by
  have e : s.data.toList.length = s.size := by simp
  rw [e] at h
  exact Nat.lt_of_lt_of_le h (Nat.pow_le_pow_right (by omega) (by omega))
theorem last_bits {w : World} {b n F S : Nat} (h : BitBlk w b (8 * n + 32) (Crc.reg F (8 * n))) (hS : S = Crc.sts (8 * n) F) : ∀ q, q < 32 → w.cell? ⟨b, 8 * n + q, none⟩ = some (.int .i64 (Crc.bit S q : Nat)) := fun q hq => by
  have hc := h.cell (j := 8 * n + q) (by omega)
  rw [Crc.reg_eq, ← hS, Crc.bit_up] at hc
  exact hc
theorem crc_of (s : ByteArray) : Crc.sts (8 * s.size) (Crc.num s.data.toList ^^^ (2 ^ 32 - 1)) ^^^ 4294967295 = Crc.crc s.data.toList := by
  have e : s.data.toList.length = s.size := by simp
  rw [Crc.crc_eq, e, Nat.xor_comm (Crc.num _)]
theorem bytes_take (s : ByteArray) (k : Nat) (h : k < s.size) : s.data.toList.take (k + 1) = s.data.toList.take k ++ [s[k]] := by
  rw [List.take_succ_eq_append_getElem (by simpa using h)]; rfl

/-- The block of the powers. -/
def PwBlk (w : World) (b : Nat) : Prop := ∀ k, k < 15 → w.cell? ⟨b, k, none⟩ = some (.int .i64 (Crc.pw k : Nat))
theorem PwBlk.far {w : World} {p b i : Nat} (h : PwBlk w p) (hne : p ≠ b) (v : Value) : PwBlk (w.setCell ⟨b, i, none⟩ v).drew p := fun k hk => by
  rw [World.cell?_drew, World.cell?_setCell_other w _ _ _ (fun e => hne (congrArg Addr.block e).symm)]; exact h k hk
theorem powers_made (w : World) : PwBlk (w.alloc (.cells #[.int .i64 32, .int .i64 26, .int .i64 23, .int .i64 22, .int .i64 16, .int .i64 12, .int .i64 11, .int .i64 10, .int .i64 8, .int .i64 7, .int .i64 5, .int .i64 4, .int .i64 2, .int .i64 1, .int .i64 0] 3)) w.heap.size := fun k hk => by
  rw [cell_of_row _ _ k _ 3 (0, 0) (heap_alloc_new w _)]
  have e : (#[.int .i64 32, .int .i64 26, .int .i64 23, .int .i64 22, .int .i64 16, .int .i64 12, .int .i64 11, .int .i64 10, .int .i64 8, .int .i64 7, .int .i64 5, .int .i64 4, .int .i64 2, .int .i64 1, .int .i64 0] : Array Value) = (Crc.pws.map fun n : Nat => Value.int .i64 (n : Int)).toArray := rfl
  rw [e, List.getElem?_toArray, List.getElem?_map]
  unfold Crc.pw
  rw [List.getD_eq_getElem?_getD, List.getElem?_eq_getElem (show k < Crc.pws.length from hk)]
  rfl

set_option maxRecDepth 100000 in
set_option maxHeartbeats 400000 in
theorem ref_of (s : ByteArray) (w : World) (hs : s.size ≤ 1000) :
    Calls Try.prog 23 #[.string s] w fun e w' => e = .returned (.int .u32 (Crc.crc s.data.toList : Nat)) ∧ Below w.heap.size w w' := by
  obtain ⟨i0, hi0, hz0, hz1, hz2⟩ := info_parts info3
  go_enter Try.func23, Try.ntmps23
  go_wp2_with fail
  go_loopw [3, 4] (fun v i wr => ∃ (k : Nat), k ≤ s.size ∧ i = .int .i64 k ∧ wr.ownsRow w.heap.size 3 1 v (8 * k) (bitCells (8 * k) (Crc.num (s.data.toList.take k))) ∧ Below w.heap.size w wr) (fun _ i _ => s.size - (intOf i).toNat)
  case atStart => exact ⟨0, by omega, rfl, World.ownsRow_made w #[] 0 (Nat.le_refl _) (by simp [maxLen]) rfl, (Below.refl _ _).alloc (Nat.le_refl _) _⟩
  case round =>
    obtain ⟨k, hk, rfl, ho, hb⟩ := hrel
    have OW := hide ho
    have BW := hide hb
    clear ho hb
    by_cases hlt : k < s.size
    · obtain ⟨c, hc⟩ : ∃ c, c = s[k] := ⟨_, rfl⟩
      have HC := hide hc
      clear hc
      obtain ⟨wo, rfl⟩ : ∃ wo : World, wo = wr := ⟨_, rfl⟩
      go_wp2_with fail
      go_loopw [3, 5] (fun v j wr => ∃ (m : Nat), m ≤ 8 ∧ j = .int .i64 m ∧ wr.ownsRow w.heap.size 3 1 v (8 * k + m) (bitCells (8 * k + m) (Crc.num (s.data.toList.take k) + c.toNat % 2 ^ m * 2 ^ (8 * k))) ∧ Below w.heap.size w wr) (fun _ j _ => 8 - (intOf j).toNat)
      case atStart => exact ⟨0, by omega, rfl, by simpa [Nat.mod_one] using OW.out, BW.out⟩
      case round =>
        obtain ⟨m, hm, rfl, ho2, hb2⟩ := hrel
        have OV := hide ho2
        have BV := hide hb2
        clear ho2 hb2
        by_cases hlm : m < 8
        · have hcb : s[k].toNat ≤ 255 := by have := s[k].toNat_lt; omega
          have hbit := bit_of s[k].toNat m hcb
          have hb1 := Crc.bit_le s[k].toNat m
          obtain ⟨x, hx⟩ : ∃ x, x = Crc.bit s[k].toNat m := ⟨_, rfl⟩
          rw [← hx] at hbit hb1
          have HX := hide hx
          clear hx
          go_wp2_with (at_builtin; go_loud (refine wpList_append_own _ rfl _ _ 91 rfl w.heap.size 3 i0 (.int .i64 0) 1 8 Try.underlying91 hi0 hz0 hz1 hz2 rfl (by decide) _ _ _ rfl (OV.out.alloc _) ⟨wr.heap.size, 0, none⟩ 1 1 [.int .i64 (x : Int)] rfl rfl (cell_one_new _ _ _) (by simp [Value.oneCell']) (by unfold maxLen; omega) (by omega) (by simpa using Nat.le_succ_of_le BV.out.size) ?_); intro v' w5 hown5 hg5 _)
          have L5 := hide ((BV.out.alloc BV.out.size (.cells #[.int .i64 (x : Int)] 3)).grown hg5 (by simpa using Nat.le_succ_of_le BV.out.size) (fun q hq => (OV.out.lt q hq).1))
          have N5 := hide hown5
          clear hown5 hg5
          go_roundw
          case rel => exact ⟨m + 1, by omega, by go_num, row_bit (by simp; omega) (by rw [HC.out]; exact HX.out) N5.out, L5.out⟩
          case measure => simp [intOf]; omega
        · obtain rfl : m = 8 := by omega
          go_wp2_with fail
          go_roundw
          case rel => exact ⟨k + 1, by omega, by go_num, by rw [bytes_take s k hlt, ← HC.out]; exact row_byte (by simp; omega) OV.out, BV.out⟩
          case measure => simp [intOf]; omega
    · obtain rfl : k = s.size := by omega
      have M0 := hide (Crc.num_lt s.data.toList)
      have O0 := hide (show wr.ownsRow w.heap.size 3 1 u3 (8 * s.size) (bitCells (8 * s.size) (Crc.num s.data.toList)) by
        have h := OW.out
        rw [List.take_of_length_le (by simp)] at h
        exact h)
      obtain ⟨wo, rfl⟩ : ∃ wo : World, wo = wr := ⟨_, rfl⟩
      go_wp2_with fail
      go_loopw [3, 6] (fun v j wr => ∃ (m : Nat), m ≤ 32 ∧ j = .int .i64 m ∧ wr.ownsRow w.heap.size 3 1 v (8 * s.size + m) (bitCells (8 * s.size + m) (Crc.num s.data.toList)) ∧ Below w.heap.size w wr) (fun _ j _ => 32 - (intOf j).toNat)
      case atStart => exact ⟨0, by omega, rfl, O0.out, BW.out⟩
      case round =>
        obtain ⟨m, hm, rfl, ho2, hb2⟩ := hrel
        have OV := hide ho2
        have BV := hide hb2
        clear ho2 hb2
        by_cases hlm : m < 32
        · go_wp2_with (at_builtin; go_loud (refine wpList_append_own _ rfl _ _ 91 rfl w.heap.size 3 i0 (.int .i64 0) 1 8 Try.underlying91 hi0 hz0 hz1 hz2 rfl (by decide) _ _ _ rfl (OV.out.alloc _) ⟨wr.heap.size, 0, none⟩ 1 1 [.int .i64 0] rfl rfl (cell_one_new _ _ _) (by simp [Value.oneCell']) (by unfold maxLen; omega) (by omega) (by simpa using Nat.le_succ_of_le BV.out.size) ?_); intro v' w5 hown5 hg5 _)
          have L5 := hide ((BV.out.alloc BV.out.size (.cells #[.int .i64 0] 3)).grown hg5 (by simpa using Nat.le_succ_of_le BV.out.size) (fun q hq => (OV.out.lt q hq).1))
          have N5 := hide hown5
          clear hown5 hg5
          go_roundw
          case rel => exact ⟨m + 1, by omega, by go_num, row_zero (zeros_lt M0.out m) N5.out, L5.out⟩
          case measure => simp [intOf]; omega
        · obtain rfl : m = 32 := by omega
          obtain ⟨b, c, hv, hBb, hnc, hcm, hbl, hbb⟩ := BitBlk.of_own OV.out (by omega)
          subst hv
          obtain ⟨M, hM⟩ : ∃ M, M = Crc.num s.data.toList := ⟨_, rfl⟩
          rw [← hM] at hbb
          have HM := hide hM
          have BB := hide hbb
          clear hM hbb
          clear OV M0 O0
          obtain ⟨wo, rfl⟩ : ∃ wo : World, wo = wr := ⟨_, rfl⟩
          go_wp2_with fail
          go_loopw [8] (fun j wr => ∃ (m : Nat), m ≤ 32 ∧ j = .int .i64 m ∧ BitBlk wr b (8 * s.size + 32) (M ^^^ (2 ^ m - 1)) ∧ Below w.heap.size w wr ∧ b < wr.heap.size) (fun j _ => 32 - (intOf j).toNat)
          case atStart => exact ⟨0, by omega, rfl, by simpa using BB.out, BV.out, hbl⟩
          case round =>
            obtain ⟨m, hm, rfl, hb4, hb5, hb6⟩ := hrel
            have B4 := hide hb4
            have B5 := hide hb5
            clear hb4 hb5
            by_cases hlm : m < 32
            · have hcell := B4.out.cell (show m < 8 * s.size + 32 by omega)
              have hfr := B4.out.free m
              have hy1 := Crc.bit_le (M ^^^ (2 ^ m - 1)) m
              have NX := B4.out.flip (show m < 8 * s.size + 32 by omega)
              rw [Crc.ones_step] at NX
              obtain ⟨y, hy⟩ : ∃ y, y = Crc.bit (M ^^^ (2 ^ m - 1)) m := ⟨_, rfl⟩
              rw [← hy] at hcell hy1 NX
              obtain ⟨z, hz⟩ : ∃ z, z = 1 - y := ⟨_, rfl⟩
              have hz' : (1 : Int) - (y : Int) = (z : Int) := by omega
              rw [← hz] at NX
              have NX' := hide NX
              clear NX hy hz
              go_wp2_with fail
              go_roundw
              case rel => exact ⟨m + 1, by omega, by go_num, NX'.out, B5.out.setCell hBb _, by simpa [World.setCell] using hb6⟩
              case measure => simp [intOf]; omega
            · obtain rfl : m = 32 := by omega
              obtain ⟨F, hF⟩ : ∃ F, F = M ^^^ (2 ^ 32 - 1) := ⟨_, rfl⟩
              rw [← hF] at B4
              have HF := hide hF
              clear hF
              obtain ⟨wo, rfl⟩ : ∃ wo : World, wo = wr := ⟨_, rfl⟩
              have PB := hide (powers_made wo)
              have B4' := hide (B4.out.alloc (.cells #[.int .i64 32, .int .i64 26, .int .i64 23, .int .i64 22, .int .i64 16, .int .i64 12, .int .i64 11, .int .i64 10, .int .i64 8, .int .i64 7, .int .i64 5, .int .i64 4, .int .i64 2, .int .i64 1, .int .i64 0] 3))
              have B5' := hide (B5.out.alloc B5.out.size (.cells #[.int .i64 32, .int .i64 26, .int .i64 23, .int .i64 22, .int .i64 16, .int .i64 12, .int .i64 11, .int .i64 10, .int .i64 8, .int .i64 7, .int .i64 5, .int .i64 4, .int .i64 2, .int .i64 1, .int .i64 0] 3))
              go_wp2_with fail
              go_loopw [10] (fun j wr => ∃ (i : Nat), i ≤ 8 * s.size ∧ j = .int .i64 i ∧ BitBlk wr b (8 * s.size + 32) (Crc.reg F i) ∧ Below w.heap.size w wr ∧ PwBlk wr wo.heap.size) (fun j _ => 8 * s.size - (intOf j).toNat)
              case atStart => exact ⟨0, by omega, rfl, B4'.out, B5'.out, PB.out⟩
              case round =>
                obtain ⟨i, hi, rfl, hb7, hb8, hb9⟩ := hrel
                have B7 := hide hb7
                have B8 := hide hb8
                have B9 := hide hb9
                clear hb7 hb8 hb9
                by_cases hli : i < 8 * s.size
                · have hcell := B7.out.cell (show i < 8 * s.size + 32 by omega)
                  by_cases hbit : Crc.bit (Crc.reg F i) i = 1
                  · have hb1 : (((Crc.bit (Crc.reg F i) i : Nat) : Int) == 1) = true := by rw [hbit]; rfl
                    obtain ⟨y, hy⟩ : ∃ y, y = Crc.bit (Crc.reg F i) i := ⟨_, rfl⟩
                    rw [← hy] at hcell hb1
                    have HBIT := hide hbit
                    clear hy hbit
                    obtain ⟨wp, rfl⟩ : ∃ wp : World, wp = wr := ⟨_, rfl⟩
                    go_wp2_with fail
                    go_loopw [11] (fun j wr => ∃ (k : Nat), k ≤ 15 ∧ j = .int .i64 k ∧ BitBlk wr b (8 * s.size + 32) (Crc.reg F i ^^^ Crc.part k * 2 ^ i) ∧ Below w.heap.size w wr ∧ PwBlk wr wo.heap.size) (fun j _ => 15 - (intOf j).toNat)
                    case atStart => exact ⟨0, by omega, rfl, by simpa [Crc.part] using B7.out, B8.out, B9.out⟩
                    case round =>
                      obtain ⟨k, hk, rfl, hb10, hb11, hb12⟩ := hrel
                      have C7 := hide hb10
                      have C8 := hide hb11
                      have C9 := hide hb12
                      clear hb10 hb11 hb12
                      by_cases hlk : k < 15
                      · have hpc := C9.out k hlk
                        have hq := Crc.pw_le k hlk
                        obtain ⟨q, hqe⟩ : ∃ q, q = Crc.pw k := ⟨_, rfl⟩
                        rw [← hqe] at hpc hq
                        obtain ⟨m, hm⟩ : ∃ m, m = i + (32 - q) := ⟨_, rfl⟩
                        have hm' : (i : Int) + 32 - (q : Int) = (m : Int) := by omega
                        have hml : m < 8 * s.size + 32 := by omega
                        have hml' : (m : Int) < 8 * (s.size : Int) + 32 := by omega
                        have hcm := C7.out.cell hml
                        have hfm := C7.out.free m
                        have hz1 := Crc.bit_le (Crc.reg F i ^^^ Crc.part k * 2 ^ i) m
                        have NX := C7.out.flip hml
                        have hst := Crc.part_step (Crc.reg F i) i k
                        rw [← hqe, ← hm] at hst
                        rw [hst] at NX
                        obtain ⟨x, hx⟩ : ∃ x, x = Crc.bit (Crc.reg F i ^^^ Crc.part k * 2 ^ i) m := ⟨_, rfl⟩
                        rw [← hx] at hcm hz1 NX
                        obtain ⟨z, hz⟩ : ∃ z, z = 1 - x := ⟨_, rfl⟩
                        have hz' : (1 : Int) - (x : Int) = (z : Int) := by omega
                        rw [← hz] at NX
                        have NX' := hide NX
                        have FAR := hide (C9.out.far (b := b) (i := m) (by omega) (.int .i64 (z : Int)))
                        clear NX hx hz hst hm hqe
                        go_wp2_with fail
                        go_region
                        go_wp2
                        go_roundw
                        case rel => exact ⟨k + 1, by omega, by go_num, NX'.out, (C8.out.setCell hBb _).drew, FAR.out⟩
                        case measure => simp [intOf]; omega
                      · obtain rfl : k = 15 := by omega
                        go_wp2_with fail
                        go_roundw
                        case rel => exact ⟨i + 1, by omega, by go_num, by rw [Crc.reg, if_pos HBIT.out, ← Crc.part_all]; exact C7.out, C8.out, C9.out⟩
                        case measure => simp [intOf]; omega
                  · have hb1 : (((Crc.bit (Crc.reg F i) i : Nat) : Int) == 1) = false := by simp; omega
                    obtain ⟨y, hy⟩ : ∃ y, y = Crc.bit (Crc.reg F i) i := ⟨_, rfl⟩
                    rw [← hy] at hcell hb1
                    have HBIT := hide hbit
                    clear hy hbit
                    go_wp2_with fail
                    go_roundw
                    case rel => exact ⟨i + 1, by omega, by go_num, by rw [Crc.reg, if_neg HBIT.out]; exact B7.out, B8.out, B9.out⟩
                    case measure => simp [intOf]; omega
                · obtain rfl : i = 8 * s.size := by omega
                  obtain ⟨S, hS⟩ : ∃ S, S = Crc.sts (8 * s.size) F := ⟨_, rfl⟩
                  have hbits := last_bits B7.out hS
                  obtain ⟨T, hT⟩ : ∃ T, T = S ^^^ 4294967295 := ⟨_, rfl⟩
                  have HT := hide (show T = Crc.crc s.data.toList by rw [hT, hS, HF.out, HM.out]; exact crc_of s)
                  have hTl : T < 2 ^ 32 := by rw [HT.out]; exact Crc.crc_lt _
                  have HB := hide hbits
                  have HTS := hide hT
                  clear hbits hT hS
                  go_wp2_with fail
                  go_loop [12, 13] (fun v j => ∃ (x : Int) (m : Nat), m ≤ 32 ∧ x + 1 = m ∧ j = .int .i64 x ∧ v = .int .u32 (T / 2 ^ m : Nat)) (fun _ j => (intOf j + 1).toNat)
                  case atStart => exact ⟨31, 32, by omega, rfl, rfl, by rw [Nat.div_eq_of_lt hTl]; rfl⟩
                  case round =>
                    obtain ⟨x, m, hm, hxm, rfl, rfl⟩ := hrel
                    by_cases hx0 : 0 ≤ x
                    · obtain ⟨q, rfl⟩ : ∃ q : Nat, x = q := ⟨x.toNat, by omega⟩
                      obtain rfl : m = q + 1 := by omega
                      clear hxm
                      obtain ⟨p, hp⟩ : ∃ p, p = 8 * s.size + q := ⟨_, rfl⟩
                      have hp' : (8 * (s.size : Int)) + (q : Int) = (p : Int) := by omega
                      have hpl : p < 8 * s.size + 32 := by omega
                      have hpl' : (p : Int) < 8 * (s.size : Int) + 32 := by omega
                      have hcell := HB.out q (by omega)
                      rw [← hp] at hcell
                      have hy1 := Crc.bit_le S q
                      have hnot := Crc.bit_not S q (by omega)
                      rw [← HTS.out] at hnot
                      obtain ⟨y, hy⟩ : ∃ y, y = Crc.bit S q := ⟨_, rfl⟩
                      rw [← hy] at hcell hy1 hnot
                      obtain ⟨z, hz⟩ : ∃ z, z = 1 - y := ⟨_, rfl⟩
                      have hz' : (1 : Int) - (y : Int) = (z : Int) := by omega
                      have hz1 : z ≤ 1 := by omega
                      have hts := Crc.told_step T q
                      rw [hnot, ← hz] at hts
                      have hlast : T / 2 ^ q < 4294967296 := Nat.lt_of_le_of_lt (Nat.div_le_self _ _) hTl
                      obtain ⟨V, hV⟩ : ∃ V, V = T / 2 ^ (q + 1) := ⟨_, rfl⟩
                      rw [← hV] at hts ⊢
                      have hVl : 2 * V + z < 4294967296 := by omega
                      have HV := hide hts
                      clear hts hz hy hnot hp hV hlast
                      go_wp2_with fail
                      go_round
                      case rel => exact ⟨(q : Int) - 1, q, by omega, by omega, rfl, u32_eq (by rw [HV.out]; omega)⟩
                      case measure => simp [intOf]
                    · obtain rfl : m = 0 := by omega
                      have hneg : x = -1 := by omega
                      subst hneg
                      go_wp2_with fail
                      go_ret
                      exact ⟨ret_int (by rw [HT.out]), B8.out⟩
end Go.Proofs.Ytljfomgcoodjkaa
