/- A super's cell: super.cell and the document's own four. -/
import Derived.Test.YtljfomgcoodjkaaSCheck
import Derived.Test.YtljfomgcoodjkaaPGets
namespace Go.Proofs.Ytljfomgcoodjkaa
open Go.RowKit

theorem row_of_own {W : World} {B n : Nat} {v : Value} {xs : List UInt8} (h : W.ownsRow B 5 1 v n (xs.map bv)) (hn : xs.length = n) (h0 : 0 < n) : ∃ g c, v = .slice (some ⟨g, 0, none⟩) n c ∧ Row W g 0 xs := by
  rcases h.2 with ⟨_, h1⟩ | ⟨g, cap, cur, rfl, hb, hh, hc, hcm, _, ht⟩
  · omega
  · refine ⟨g, cap, rfl, row_of_block hh xs ?_⟩
    rw [hn, ← ht, Nat.mul_one]

theorem four_vals (v : Nat) (hv : v ≤ 4294967295) : [Value.int .u8 ((v : Int) / 16777216), .int .u8 ((v : Int) / 65536 % 256), .int .u8 ((v : Int) / 256 % 256), .int .u8 ((v : Int) % 256)] = (four v).map bv := by
  show [_, _, _, _] = [bv _, bv _, bv _, bv _]
  simp only [bv, UInt8.toNat_ofNat']
  have e1 : (v : Int) / 16777216 = ((v / 16777216 % 2 ^ 8 : Nat) : Int) := by omega
  have e2 : (v : Int) / 65536 % 256 = ((v / 65536 % 2 ^ 8 : Nat) : Int) := by omega
  have e3 : (v : Int) / 256 % 256 = ((v / 256 % 2 ^ 8 : Nat) : Int) := by omega
  have e4 : (v : Int) % 256 = ((v % 2 ^ 8 : Nat) : Int) := by omega
  rw [e1, e2, e3, e4]
theorem own_four {W : World} {B n : Nat} {v : Value} (xs : List UInt8) (k : Nat) (hk : k ≤ 4294967295) (h : W.ownsRow B 5 1 v n (xs.map bv ++ [Value.int .u8 ((k : Int) / 16777216), .int .u8 ((k : Int) / 65536 % 256), .int .u8 ((k : Int) / 256 % 256), .int .u8 ((k : Int) % 256)])) : W.ownsRow B 5 1 v n ((xs ++ four k).map bv) := by
  rw [four_vals k hk] at h
  rw [List.map_append]; exact h
/-- The first k of three numbers, four bytes each. -/
def cellTo (a b c : Nat) : Nat → List UInt8
  | 0 => []
  | 1 => four a
  | 2 => four a ++ four b
  | _ => four a ++ four b ++ four c

set_option maxRecDepth 100000 in
set_option maxHeartbeats 1600000 in
/-- 'super.cell'. -/
theorem cell_any (ep : Int) (a b c : Nat) (w : World) (ha : a ≤ 4294967295) (hb : b ≤ 4294967295) (hc : c ≤ 4294967295) :
    Calls Try.prog 52 #[.agg #[.int .i64 ep, .int .i64 a, .int .i64 b, .int .i64 c]] w fun e w' => e = .returned (.string (strOf (cellTo a b c 3))) ∧ Below w.heap.size w w' := by
  obtain ⟨i0, hi0, hz0, hz1, hz2⟩ := info_parts info5
  obtain ⟨wb, hwb⟩ : ∃ wb, wb = w.alloc (.cells #[.int .i64 ep, .int .i64 (a : Int), .int .i64 (b : Int), .int .i64 (c : Int)] 41) := ⟨_, rfl⟩
  obtain ⟨k0, k1, k2, k3⟩ := su_cells w ⟨ep, a, b, c⟩
  have NB : Below w.heap.size w wb := by rw [hwb]; exact (Below.refl _ _).alloc (Nat.le_refl _) _
  dsimp only at k0 k1 k2 k3
  rw [← hwb] at k0 k1 k2 k3
  have NN := hide NB
  clear NB
  go_enter Try.func52, Try.ntmps52
  go_upto_region 1 with fail
  rw [← hwb]
  clear hwb
  go_wp2_with fail
  have j0 : ∀ w, (Instr.index 95 (.agg #[.int .i64 (a : Int), .int .i64 (b : Int), .int .i64 (c : Int)]) (.int .i64 0)).run Try.prog w = .ok (.int .i64 (a : Int)) w := fun _ => by kernel_rfl
  have j1 : ∀ w, (Instr.index 95 (.agg #[.int .i64 (a : Int), .int .i64 (b : Int), .int .i64 (c : Int)]) (.int .i64 1)).run Try.prog w = .ok (.int .i64 (b : Int)) w := fun _ => by kernel_rfl
  have j2 : ∀ w, (Instr.index 95 (.agg #[.int .i64 (a : Int), .int .i64 (b : Int), .int .i64 (c : Int)]) (.int .i64 2)).run Try.prog w = .ok (.int .i64 (c : Int)) w := fun _ => by kernel_rfl
  go_loopw [3, 13] (fun v i wr => ∃ k : Nat, k ≤ 3 ∧ i = .int .i64 k ∧ wr.ownsRow wb.heap.size 5 1 v (4 * k) ((cellTo a b c k).map bv) ∧ Below wb.heap.size wb wr) (fun _ i _ => 3 - (intOf i).toNat)
  case atStart => exact ⟨0, by omega, rfl, ⟨rfl, .inl ⟨rfl, rfl⟩⟩, Below.refl _ _⟩
  case round =>
    obtain ⟨k, hk, rfl, hown, hbl⟩ := hrel
    have OW := hide hown
    have BW := hide hbl
    clear hown hbl
    rcases (show k = 0 ∨ k = 1 ∨ k = 2 ∨ k = 3 by omega) with rfl | rfl | rfl | rfl
    · go_wp2_with (at_builtin; go_loud (refine wpList_append_own _ rfl _ _ 28 rfl wb.heap.size 5 i0 (.int .u8 0) 1 1 Try.underlying28 hi0 hz0 hz1 hz2 rfl (by decide) _ _ _ rfl (own_below OW.out ((Below.refl _ _).alloc (Nat.le_refl _) _)) ⟨wr.heap.size, 0, none⟩ 4 4 [.int .u8 ((a : Int) / 16777216), .int .u8 ((a : Int) / 65536 % 256), .int .u8 ((a : Int) / 256 % 256), .int .u8 ((a : Int) % 256)] rfl rfl (World.news_of_block (cs := #[.int .u8 ((a : Int) / 16777216), .int .u8 ((a : Int) / 65536 % 256), .int .u8 ((a : Int) / 256 % 256), .int .u8 ((a : Int) % 256)]) (t := 5) (fr := (0, 0)) (heap_alloc_new wr _)) (by simp [Value.oneCell']) (by unfold maxLen; omega) (by omega) (by simpa using Nat.le_succ_of_le BW.out.size) ?_); intro v5 w5 o5 g5 q5)
      have O5 := hide (own_four (cellTo a b c 0) a ha o5)
      have B5 := hide ((BW.out.alloc BW.out.size _).grown g5 (by simpa using Nat.le_succ_of_le BW.out.size) (OW.out.lt · · |>.1))
      clear o5 g5 q5
      go_roundw
      case rel => exact ⟨1, by omega, by go_num, by simpa [cellTo] using O5.out, B5.out⟩
      case measure => simp [intOf]
    · go_wp2_with (at_builtin; go_loud (refine wpList_append_own _ rfl _ _ 28 rfl wb.heap.size 5 i0 (.int .u8 0) 1 1 Try.underlying28 hi0 hz0 hz1 hz2 rfl (by decide) _ _ _ rfl (own_below OW.out ((Below.refl _ _).alloc (Nat.le_refl _) _)) ⟨wr.heap.size, 0, none⟩ 4 4 [.int .u8 ((b : Int) / 16777216), .int .u8 ((b : Int) / 65536 % 256), .int .u8 ((b : Int) / 256 % 256), .int .u8 ((b : Int) % 256)] rfl rfl (World.news_of_block (cs := #[.int .u8 ((b : Int) / 16777216), .int .u8 ((b : Int) / 65536 % 256), .int .u8 ((b : Int) / 256 % 256), .int .u8 ((b : Int) % 256)]) (t := 5) (fr := (0, 0)) (heap_alloc_new wr _)) (by simp [Value.oneCell']) (by unfold maxLen; omega) (by omega) (by simpa using Nat.le_succ_of_le BW.out.size) ?_); intro v5 w5 o5 g5 q5)
      have O5 := hide (own_four (cellTo a b c 1) b hb o5)
      have B5 := hide ((BW.out.alloc BW.out.size _).grown g5 (by simpa using Nat.le_succ_of_le BW.out.size) (OW.out.lt · · |>.1))
      clear o5 g5 q5
      go_roundw
      case rel => exact ⟨2, by omega, by go_num, by simpa [cellTo] using O5.out, B5.out⟩
      case measure => simp [intOf]
    · go_wp2_with (at_builtin; go_loud (refine wpList_append_own _ rfl _ _ 28 rfl wb.heap.size 5 i0 (.int .u8 0) 1 1 Try.underlying28 hi0 hz0 hz1 hz2 rfl (by decide) _ _ _ rfl (own_below OW.out ((Below.refl _ _).alloc (Nat.le_refl _) _)) ⟨wr.heap.size, 0, none⟩ 4 4 [.int .u8 ((c : Int) / 16777216), .int .u8 ((c : Int) / 65536 % 256), .int .u8 ((c : Int) / 256 % 256), .int .u8 ((c : Int) % 256)] rfl rfl (World.news_of_block (cs := #[.int .u8 ((c : Int) / 16777216), .int .u8 ((c : Int) / 65536 % 256), .int .u8 ((c : Int) / 256 % 256), .int .u8 ((c : Int) % 256)]) (t := 5) (fr := (0, 0)) (heap_alloc_new wr _)) (by simp [Value.oneCell']) (by unfold maxLen; omega) (by omega) (by simpa using Nat.le_succ_of_le BW.out.size) ?_); intro v5 w5 o5 g5 q5)
      have O5 := hide (own_four (cellTo a b c 2) c hc o5)
      have B5 := hide ((BW.out.alloc BW.out.size _).grown g5 (by simpa using Nat.le_succ_of_le BW.out.size) (OW.out.lt · · |>.1))
      clear o5 g5 q5
      go_roundw
      case rel => exact ⟨3, by omega, by go_num, by simpa [cellTo] using O5.out, B5.out⟩
      case measure => simp [intOf]
    · obtain ⟨gg, cap, rfl, hrow⟩ := row_of_own OW.out (by rfl) (by omega)
      have cv := conv_back (c := cap) (n := 12) hrow (by rfl)
      clear hrow
      go_wp2_with fail
      go_ret
      exact ⟨rfl, NN.out.trans (BW.out.mono NN.out.size)⟩
end Go.Proofs.Ytljfomgcoodjkaa
