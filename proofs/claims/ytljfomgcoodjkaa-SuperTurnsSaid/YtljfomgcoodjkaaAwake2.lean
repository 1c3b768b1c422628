/- The walks of New and of the chapter's example (awake): it returns true, and nothing that was there has turned. -/
import Derived.Test.YtljfomgcoodjkaaSum
import Derived.Lib.SlBytesConst
namespace Go.Proofs.Ytljfomgcoodjkaa
open Go.RowKit

theorem zero_size : Try.zeroCells90.size = 260 := by kernel_rfl
theorem zero_0 : Try.zeroCells90[0]? = some (.int .u32 0) := by kernel_rfl
theorem zero_1 : Try.zeroCells90[1]? = some (.int .i32 0) := by kernel_rfl
theorem zero_259 : Try.zeroCells90[259]? = some (.int .i64 0) := by kernel_rfl

theorem sum_new (w : World) : SumAt (w.alloc (.cells Try.zeroCells90 90)) w.heap.size 0 :=
  ⟨_, Blk.new w 90 _, zero_size, zero_1, zero_259, .inl zero_0⟩

theorem count_ten (g : Nat) (w : World) (h : SumUp w g (wrap64 (wrap64 (wrap64 (0 + 9) + 1) + 0))) :
    Calls Try.prog 27 #[.pointer (some ⟨g, 0, none⟩)] w fun e w' => e = .returned (.int .i64 10) ∧ w = w' := by
  have e10 : wrap64 (wrap64 (wrap64 (0 + 9) + 1) + 0) = 10 := by simp only [wrap64]; rfl
  have H := count_any g _ w h
  rw [e10] at H
  exact H

/-- The words of a walk over one summer: the summer in block g has counted n; below B nothing has turned. -/
def Und (B : Nat) (w0 w : World) (g : Nat) (n : Int) : Prop := SumAt w g n ∧ Below B w0 w ∧ B ≤ g ∧ B ≤ w.heap.size

theorem Und.grown {B : Nat} {w0 w w' : World} {g : Nat} {n m : Int} (h : Und B w0 w g n) (hs : SumAt w' g m) (hg : w.grownBy w' (some g)) : Und B w0 w' g m :=
  ⟨hs, h.2.1.grown hg h.2.2.2 (by intro k hk; cases hk; exact h.2.2.1), h.2.2.1, Nat.le_trans h.2.2.2 hg.size⟩

set_option maxRecDepth 100000 in
set_option maxHeartbeats 400000 in
theorem new_any (w : World) :
    Calls Try.prog 21 #[] w fun e w' => ∃ g, e = .returned (.pointer (some ⟨g, 0, none⟩)) ∧ Und w.heap.size w w' g 0 := by
  go_enter Try.func21, Try.ntmps21
  go_wp2
  go_ret
  exact ⟨_, rfl, sum_new w, (Below.refl _ _).alloc (Nat.le_refl _) _, Nat.le_refl _, by simp⟩

theorem awake_crc1 : Crc.crc [49, 50, 51, 52, 53, 54, 55, 56, 57] = 3421780262 := by decide +kernel
theorem awake_crc2 : Crc.crc [97] = 3904355907 := by decide +kernel
theorem awake_crc3 : Crc.crc [] = 0 := by decide +kernel

theorem RB.made {w : World} {g : Nat} (hg : g < w.heap.size) (C : Array Value) (t : TypeId) (fr : Nat × Nat) (c : Nat) (xs : List UInt8) (hC : C.toList.take xs.length = xs.map bv) :
    RB (w.alloc (.cells C t fr)) g (.slice (some ⟨w.heap.size, 0, none⟩) xs.length c) xs := by
  refine ⟨_, _, rfl, .inr ⟨_, _, rfl, Nat.ne_of_gt hg, fun i hi => ?_⟩⟩
  have h1 : (w.alloc (.cells C t fr)).cell? ⟨w.heap.size, 0 + i, none⟩ = C[i]? := by
    rw [Nat.zero_add]; exact cell_of_row _ _ _ C t fr (heap_alloc_new w _)
  have h2 : (C.toList.take xs.length)[i]? = (xs.map bv)[i]? := by rw [hC]
  rw [List.getElem?_take, if_pos hi, List.getElem?_map, List.getElem?_eq_getElem hi, Array.getElem?_toList] at h2
  rw [h1, h2]; rfl

theorem of1 (g : Nat) (n : Int) (w : World) (h : SumAt w g n) :
    Calls Try.prog 24 #[.pointer (some ⟨g, 0, none⟩), .slice (some ⟨w.heap.size, 0, none⟩) 9 9] (w.alloc (.cells #[.int .u8 49, .int .u8 50, .int .u8 51, .int .u8 52, .int .u8 53, .int .u8 54, .int .u8 55, .int .u8 56, .int .u8 57] 5 (9, 10))) fun e w' =>
      e = .returned (.int .u32 3421780262) ∧ SumAt w' g (wrap64 (n + 9)) ∧ w.grownBy w' (some g) := by
  have H := of_any g n _ [49, 50, 51, 52, 53, 54, 55, 56, 57] _ (h.alloc _) (RB.made h.lt #[.int .u8 49, .int .u8 50, .int .u8 51, .int .u8 52, .int .u8 53, .int .u8 54, .int .u8 55, .int .u8 56, .int .u8 57] 5 (9, 10) 9 [49, 50, 51, 52, 53, 54, 55, 56, 57] rfl) (by simp)
  rw [awake_crc1] at H
  exact H.mono fun e w' ⟨h1, h2, h3⟩ => ⟨h1, h2.at_, grown_trans (World.grownBy_alloc w _ _) h3⟩

theorem of2 (g : Nat) (n : Int) (w : World) (h : SumAt w g n) :
    Calls Try.prog 24 #[.pointer (some ⟨g, 0, none⟩), .slice (some ⟨w.heap.size, 0, none⟩) 1 1] (w.alloc (.cells #[.int .u8 97] 5 (1, 2))) fun e w' =>
      e = .returned (.int .u32 3904355907) ∧ SumAt w' g (wrap64 (n + 1)) ∧ w.grownBy w' (some g) := by
  have H := of_any g n _ [97] _ (h.alloc _) (RB.made h.lt #[.int .u8 97] 5 (1, 2) 1 [97] rfl) (by simp)
  rw [awake_crc2] at H
  exact H.mono fun e w' ⟨h1, h2, h3⟩ => ⟨h1, h2.at_, grown_trans (World.grownBy_alloc w _ _) h3⟩

theorem of3 (g : Nat) (n : Int) (w : World) (h : SumAt w g n) :
    Calls Try.prog 24 #[.pointer (some ⟨g, 0, none⟩), .slice none 0 0] w fun e w' =>
      e = .returned (.int .u32 0) ∧ SumUp w' g (wrap64 (n + 0)) ∧ w.grownBy w' (some g) := by
  have H := of_any g n (.slice none 0 0) [] _ h ⟨_, _, rfl, .inl rfl⟩ (by simp)
  rw [awake_crc3] at H
  exact H

theorem right2 (g : Nat) (n : Int) (w : World) (h : SumAt w g n) :
    Calls Try.prog 25 #[.pointer (some ⟨g, 0, none⟩), .slice (some ⟨w.heap.size, 0, none⟩) 1 1, .int .u32 3904355907] (w.alloc (.cells #[.int .u8 97] 5 (1, 2))) fun e w' =>
      e = .returned (.bool true) ∧ SumAt w' g (wrap64 (n + 1)) ∧ w.grownBy w' (some g) := by
  have H := right_any g n _ [97] 3904355907 _ (h.alloc _) (RB.made h.lt #[.int .u8 97] 5 (1, 2) 1 [97] rfl) (by simp)
  rw [awake_crc2] at H
  exact H.mono fun e w' ⟨h1, h2, h3⟩ => ⟨h1, h2.at_, grown_trans (World.grownBy_alloc w _ _) h3⟩

set_option maxRecDepth 100000 in
set_option maxHeartbeats 400000 in
theorem awake2 (w : World) :
    Calls Try.prog 22 #[] w fun e w' => e = .returned (.bool true) ∧ Below w.heap.size w w' := by
  have kc := fun (w : World) (C : Array Value) (n c : Nat) => Lib.run_convert_bytes_const (P := Try.prog) w 28 5 C n c Try.underlying28 Try.underlying5
  go_enter Try.func22, Try.ntmps22
  go_wp2_with fail
  refine (new_any _).mono ?_
  rintro e w1 ⟨g, rfl, hu⟩
  have U1 := hide hu
  clear hu
  go_wp2_with fail
  refine (of1 g 0 _ U1.out.1).mono ?_
  rintro e w2 ⟨rfl, hs, hgr⟩
  have U2 := hide (U1.out.grown hs hgr)
  clear hs hgr
  go_wp2_with fail
  refine (of2 g _ _ U2.out.1).mono ?_
  rintro e w3 ⟨rfl, hs, hgr⟩
  have U3 := hide (U2.out.grown hs hgr)
  clear hs hgr
  go_wp2_with fail
  refine (of3 g _ _ U3.out.1).mono ?_
  rintro e w4 ⟨rfl, hs, hgr⟩
  have U4 := hide (U3.out.grown hs.at_ hgr)
  have C4 := hide (count_ten g _ hs)
  clear hs hgr
  go_wp2_with fail
  refine C4.out.mono ?_
  rintro e w5 ⟨rfl, rfl⟩
  go_wp2_with fail
  refine (right2 g _ _ U4.out.1).mono ?_
  rintro e w5 ⟨rfl, hs, hgr⟩
  have U5 := hide (U4.out.grown hs hgr)
  clear hs hgr
  go_wp2_with fail
  go_ret
  exact ⟨rfl, U5.out.2.1⟩
end Go.Proofs.Ytljfomgcoodjkaa
