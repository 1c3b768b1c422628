/- page.Put where there is no page: too long, out of bounds; the words for where there is one. -/
import Derived.Test.YtljfomgcoodjkaaOver
import Derived.Test.YtljfomgcoodjkaaBody
namespace Go.Proofs.Ytljfomgcoodjkaa
open Go.RowKit

/-- May a page's numbers be? -/
def formB (p : Pg) : Bool := decide (1 ≤ p.kd) && decide (p.kd ≤ 255) && decide (mx3 p.no p.ep p.lk 3 ≤ 4294967295) && decide (0 ≤ mn3 p.no p.ep p.lk 3)

set_option maxRecDepth 100000 in
set_option maxHeartbeats 800000 in
/-- 'page.Put', the cells too long. -/
theorem put_long (g : Nat) (v : Value) (p : Pg) (w : World) (h : PV w g v p) (hl : p.cells.length ≤ 300) (hs : ∀ s ∈ p.cells, s.size ≤ 300) (hf : fitsB p.cells = false) :
    Calls Try.prog 36 #[.pointer (some ⟨g, 0, none⟩), v] w fun e w' => e = .returned (.tuple #[.slice none 0 0, .int .i64 40]) ∧ Below w.heap.size w w' := by
  obtain ⟨cv, rfl, hr⟩ := h
  obtain ⟨A, c, hv, _⟩ := hr.len
  subst hv
  have F := fun (w' : World) (hb : Below w.heap.size w w') => fits_any g _ p.cells w' (hr.below hb) hl hs
  simp only [hf] at F
  have F' := hide F
  clear F hr hs hf
  go_enter Try.func36, Try.ntmps36
  go_wp2_with fail
  refine (F'.out _ (by exact ((Below.refl _ _).alloc (Nat.le_refl _) _).alloc (by simp) _)).mono ?_
  rintro e w' ⟨rfl, rfl⟩
  go_wp2_with fail
  go_ret2
  exact ⟨rfl, ((Below.refl _ _).alloc (Nat.le_refl _) _).alloc (by simp) _⟩

set_option maxRecDepth 100000 in
set_option maxHeartbeats 800000 in
/-- 'page.Put', its numbers out of bounds. -/
theorem put_form (g : Nat) (v : Value) (p : Pg) (w : World) (h : PV w g v p) (hl : p.cells.length ≤ 300) (hs : ∀ s ∈ p.cells, s.size ≤ 300) (hf : fitsB p.cells = true) (hn : formB p = false) :
    Calls Try.prog 36 #[.pointer (some ⟨g, 0, none⟩), v] w fun e w' => e = .returned (.tuple #[.slice none 0 0, .int .i64 41]) ∧ Below w.heap.size w w' := by
  obtain ⟨cv, rfl, hr⟩ := h
  obtain ⟨A, c, hv, _⟩ := hr.len
  subst hv
  have F := fun (w' : World) (hb : Below w.heap.size w w') => fits_any g _ p.cells w' (hr.below hb) hl hs
  simp only [hf] at F
  have F' := hide F
  clear F hr hs hf
  by_cases h1 : p.kd < 1
  · clear hn
    go_enter Try.func36, Try.ntmps36
    go_wp2_with fail
    refine (F'.out _ (by exact ((Below.refl _ _).alloc (Nat.le_refl _) _).alloc (by simp) _)).mono ?_
    rintro e w' ⟨rfl, rfl⟩
    go_wp2_with fail
    go_ret2
    exact ⟨rfl, ((Below.refl _ _).alloc (Nat.le_refl _) _).alloc (by simp) _⟩
  · by_cases h2 : 255 < p.kd
    · clear hn
      go_enter Try.func36, Try.ntmps36
      go_wp2_with fail
      refine (F'.out _ (by exact ((Below.refl _ _).alloc (Nat.le_refl _) _).alloc (by simp) _)).mono ?_
      rintro e w' ⟨rfl, rfl⟩
      go_wp2_with fail
      go_ret2
      exact ⟨rfl, ((Below.refl _ _).alloc (Nat.le_refl _) _).alloc (by simp) _⟩
    · by_cases h3 : 4294967295 < mx3 p.no p.ep p.lk 3
      · clear hn
        go_enter Try.func36, Try.ntmps36
        go_wp2_with fail
        refine (F'.out _ (by exact ((Below.refl _ _).alloc (Nat.le_refl _) _).alloc (by simp) _)).mono ?_
        rintro e w' ⟨rfl, rfl⟩
        go_wp2_with fail
        refine (max_any _ _ p.no p.ep p.lk _ (two_boxes_2 _ _ _ rfl) (two_boxes_2 _ _ _ rfl) (two_boxes_2 _ _ _ rfl)).mono ?_
        rintro e w' ⟨rfl, rfl⟩
        go_wp2_with fail
        go_ret2
        exact ⟨rfl, ((Below.refl _ _).alloc (Nat.le_refl _) _).alloc (by simp) _⟩
      · have h4 : mn3 p.no p.ep p.lk 3 < 0 := by
          unfold formB at hn
          rw [decide_eq_true (show 1 ≤ p.kd by omega), decide_eq_true (show p.kd ≤ 255 by omega), decide_eq_true (show mx3 p.no p.ep p.lk 3 ≤ 4294967295 by omega)] at hn
          simpa using hn
        clear hn
        go_enter Try.func36, Try.ntmps36
        go_wp2_with fail
        refine (F'.out _ (by exact ((Below.refl _ _).alloc (Nat.le_refl _) _).alloc (by simp) _)).mono ?_
        rintro e w' ⟨rfl, rfl⟩
        go_wp2_with fail
        refine (max_any _ _ p.no p.ep p.lk _ (two_boxes_2 _ _ _ rfl) (two_boxes_2 _ _ _ rfl) (two_boxes_2 _ _ _ rfl)).mono ?_
        rintro e w' ⟨rfl, rfl⟩
        go_wp2_with fail
        refine (min_any _ _ p.no p.ep p.lk _ (two_boxes_2 _ _ _ rfl) (two_boxes_2 _ _ _ rfl) (two_boxes_2 _ _ _ rfl)).mono ?_
        rintro e w' ⟨rfl, rfl⟩
        go_wp2_with fail
        go_ret2
        exact ⟨rfl, ((Below.refl _ _).alloc (Nat.le_refl _) _).alloc (by simp) _⟩

/-- A page that may be, as numbers. -/
theorem form_iff (p : Pg) : formB p = true ↔ (1 ≤ p.kd ∧ p.kd ≤ 255) ∧ (0 ≤ p.no ∧ p.no ≤ 4294967295) ∧ (0 ≤ p.ep ∧ p.ep ≤ 4294967295) ∧ (0 ≤ p.lk ∧ p.lk ≤ 4294967295) := by
  unfold formB
  rw [Bool.and_eq_true, Bool.and_eq_true, Bool.and_eq_true, decide_eq_true_eq, decide_eq_true_eq, decide_eq_true_eq, decide_eq_true_eq, mx3_le, mn3_ge]
  omega

theorem slice28_lhm (a : Option Addr) (n c l h m : Nat) (h1 : l ≤ h) (h2 : h ≤ m) (h3 : m ≤ c) (w : World) :
    (Instr.slice 28 (.slice a n c) (some (.int .i64 (l : Int))) (some (.int .i64 (h : Int))) (some (.int .i64 (m : Int)))).run Try.prog w = .ok (.slice (cutAt a l m) (h - l) (m - l)) w := by
  rw [run_slice_lhm w 28 a n c ht28 .i64 .i64 .i64 l h m (by omega) (by omega) (by omega) (by omega), run_size5]
  simp [sliced, cutAt]
theorem slice28_hm (a : Option Addr) (n c h m : Nat) (h2 : h ≤ m) (h3 : m ≤ c) (w : World) :
    (Instr.slice 28 (.slice a n c) none (some (.int .i64 (h : Int))) (some (.int .i64 (m : Int)))).run Try.prog w = .ok (.slice (cutAt a 0 m) h m) w := by
  rw [run_slice_hm w 28 a n c ht28 .i64 .i64 h m (by omega) (by omega) (by omega), run_size5]
  simp [sliced, cutAt]
theorem cutAt_some (b o l m : Nat) (h : m ≠ l) : cutAt (some ⟨b, o, none⟩) l m = some ⟨b, o + l, none⟩ := by
  unfold cutAt
  rw [if_neg h]
  by_cases h0 : l = 0
  · subst h0; rfl
  · simp [Addr.add, h0]

theorem make256 (w : World) : (Instr.makeSlice 28 (.int .i64 256) (.int .i64 256)).run Try.prog w = .ok (.slice (some ⟨w.heap.size, 0, none⟩) 256 256) (zeroW w 256) := make28 256 (by omega) w
theorem zeroW_buf (w : World) (n : Nat) : Buf (zeroW w n) w.heap.size (List.replicate n 0) := ⟨(zeroW_bytes w n).row, (zeroW_bytes w n).loose⟩

theorem u8_nat (n : Nat) (h : n ≤ 255) : (((UInt8.ofNat n).toNat : Nat) : Int) = (n : Int) := by
  rw [UInt8.toNat_ofNat']; omega

/-- What stands when the buffer has been made: the page in block B, its three numbers in the next, the buffer in the one behind. -/
structure PutStart (w W : World) (kd no ep lk : Nat) (cv : Value) : Prop where
  k0 : W.cell? ⟨w.heap.size, 0, none⟩ = some (.int .i64 (kd : Int))
  k4 : W.cell? ⟨w.heap.size, 4, none⟩ = some cv
  f0 : W.cell? ⟨w.heap.size + 1, 0, none⟩ = some (.int .i64 (no : Int))
  f1 : W.cell? ⟨w.heap.size + 1, 1, none⟩ = some (.int .i64 (ep : Int))
  f2 : W.cell? ⟨w.heap.size + 1, 2, none⟩ = some (.int .i64 (lk : Int))
  buf : Buf W (w.heap.size + 1 + 1) (List.replicate 256 0)
  below : Below w.heap.size w W
  size : w.heap.size + 1 + 1 < W.heap.size
theorem put_start (w : World) (kd no ep lk : Nat) (cv : Value) :
    PutStart w (zeroW ((w.alloc (.cells #[.int .i64 (kd : Int), .int .i64 (no : Int), .int .i64 (ep : Int), .int .i64 (lk : Int), cv] 58)).alloc (.cells #[.int .i64 (no : Int), .int .i64 (ep : Int), .int .i64 (lk : Int)] 95)) 256) kd no ep lk cv := by
  have Z := zeroW_bytes ((w.alloc (.cells #[.int .i64 (kd : Int), .int .i64 (no : Int), .int .i64 (ep : Int), .int .i64 (lk : Int), cv] 58)).alloc (.cells #[.int .i64 (no : Int), .int .i64 (ep : Int), .int .i64 (lk : Int)] 95)) 256
  have ZB := zeroW_buf ((w.alloc (.cells #[.int .i64 (kd : Int), .int .i64 (no : Int), .int .i64 (ep : Int), .int .i64 (lk : Int), cv] 58)).alloc (.cells #[.int .i64 (no : Int), .int .i64 (ep : Int), .int .i64 (lk : Int)] 95)) 256
  have sz : ((w.alloc (.cells #[.int .i64 (kd : Int), .int .i64 (no : Int), .int .i64 (ep : Int), .int .i64 (lk : Int), cv] 58)).alloc (.cells #[.int .i64 (no : Int), .int .i64 (ep : Int), .int .i64 (lk : Int)] 95)).heap.size = w.heap.size + 1 + 1 := by simp
  rw [sz] at ZB
  exact ⟨Z.below.old (two_boxes_1 _ _ _ rfl), Z.below.old (two_boxes_1 _ _ _ rfl), Z.below.old (two_boxes_2 _ _ _ rfl), Z.below.old (two_boxes_2 _ _ _ rfl), Z.below.old (two_boxes_2 _ _ _ rfl), ZB,
    (((Below.refl _ _).alloc (Nat.le_refl _) _).alloc (by simp) _).trans (Z.below.mono (by rw [sz]; omega)), by have := Z.lt; rw [sz] at this; exact this⟩

end Go.Proofs.Ytljfomgcoodjkaa
