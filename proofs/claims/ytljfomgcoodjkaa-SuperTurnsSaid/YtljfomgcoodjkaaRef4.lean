/- lunetteref04.Put: the document's answer, a text put together. -/
import Derived.Test.YtljfomgcoodjkaaPut
import Derived.Deep.RegionHeld3
namespace Go.Proofs.Ytljfomgcoodjkaa
open Go.RowKit

set_option maxRecDepth 100000 in
set_option maxHeartbeats 800000 in
/-- 'lunetteref04.four'. -/
theorem ref_four (n : Nat) (w : World) (hn : n ≤ 4294967295) :
    Calls Try.prog 56 #[.int .i64 n] w fun e w' => e = .returned (.string (strOf (four n))) ∧ Below w.heap.size w w' := by
  have cv := conv_back (c := 4) (row_of_block (heap_alloc_new w (.cells #[.int .u8 ((n : Int) / 16777216 % 256), .int .u8 ((n : Int) / 65536 % 256), .int .u8 ((n : Int) / 256 % 256), .int .u8 ((n : Int) % 256)] 5)) (four n) (by
    show [_, _, _, _] = [bv _, bv _, bv _, bv _]
    simp only [bv, UInt8.toNat_ofNat']
    have e1 : (n : Int) / 16777216 % 256 = ((n / 16777216 % 2 ^ 8 : Nat) : Int) := by omega
    have e2 : (n : Int) / 65536 % 256 = ((n / 65536 % 2 ^ 8 : Nat) : Int) := by omega
    have e3 : (n : Int) / 256 % 256 = ((n / 256 % 2 ^ 8 : Nat) : Int) := by omega
    have e4 : (n : Int) % 256 = ((n % 2 ^ 8 : Nat) : Int) := by omega
    rw [e1, e2, e3, e4])) (four_length n)
  go_enter Try.func56, Try.ntmps56
  go_wp2_with fail
  go_ret
  exact ⟨rfl, (Below.refl _ _).alloc (Nat.le_refl _) _⟩

set_option maxRecDepth 100000 in
set_option maxHeartbeats 800000 in
/-- 'lunetteref04.Put', the cells too long. -/
theorem ref_put_long (g : Nat) (v : Value) (p : Pg) (w : World) (h : PV w g v p) (hl : p.cells.length ≤ 300) (hf : fitsB p.cells = false) :
    Calls Try.prog 37 #[v] w fun e w' => e = .returned (.tuple #[.string (strOf []), .int .i64 40]) ∧ Below w.heap.size w w' := by
  obtain ⟨cv, rfl, hr⟩ := h
  obtain ⟨A, c, hv, _⟩ := hr.len
  subst hv
  have F := fun (w' : World) (hb : Below w.heap.size w w') => ref_fits g _ p.cells w' (hr.below hb) hl
  simp only [hf] at F
  have F' := hide F
  clear F hr hf
  go_enter Try.func37, Try.ntmps37
  go_wp2_with fail
  refine (F'.out _ (by exact (Below.refl _ _).alloc (Nat.le_refl _) _)).mono ?_
  rintro e w' ⟨rfl, rfl⟩
  go_wp2_with fail
  go_ret2
  exact ⟨rfl, (Below.refl _ _).alloc (Nat.le_refl _) _⟩

set_option maxRecDepth 100000 in
set_option maxHeartbeats 1600000 in
/-- 'lunetteref04.Put', its numbers out of bounds. -/
theorem ref_put_form (g : Nat) (v : Value) (p : Pg) (w : World) (h : PV w g v p) (hl : p.cells.length ≤ 300) (hf : fitsB p.cells = true) (hn : formB p = false) :
    Calls Try.prog 37 #[v] w fun e w' => e = .returned (.tuple #[.string (strOf []), .int .i64 41]) ∧ Below w.heap.size w w' := by
  obtain ⟨cv, rfl, hr⟩ := h
  obtain ⟨A, c, hv, _⟩ := hr.len
  subst hv
  have F := fun (w' : World) (hb : Below w.heap.size w w') => ref_fits g _ p.cells w' (hr.below hb) hl
  simp only [hf] at F
  have F' := hide F
  have hfm : ¬ ((1 ≤ p.kd ∧ p.kd ≤ 255) ∧ (0 ≤ p.no ∧ p.no ≤ 4294967295) ∧ (0 ≤ p.ep ∧ p.ep ≤ 4294967295) ∧ (0 ≤ p.lk ∧ p.lk ≤ 4294967295)) := fun h => by
    rw [(form_iff p).2 h] at hn; simp at hn
  clear F hr hf hn
  obtain ⟨kd, no, ep, lk, cells⟩ := p
  dsimp only at *
  have hc : kd < 1 ∨ (1 ≤ kd ∧ 255 < kd) ∨ (1 ≤ kd ∧ kd ≤ 255 ∧ no < 0) ∨ (1 ≤ kd ∧ kd ≤ 255 ∧ 0 ≤ no ∧ 4294967295 < no) ∨ (1 ≤ kd ∧ kd ≤ 255 ∧ 0 ≤ no ∧ no ≤ 4294967295 ∧ ep < 0) ∨ (1 ≤ kd ∧ kd ≤ 255 ∧ 0 ≤ no ∧ no ≤ 4294967295 ∧ 0 ≤ ep ∧ 4294967295 < ep) ∨
      (1 ≤ kd ∧ kd ≤ 255 ∧ 0 ≤ no ∧ no ≤ 4294967295 ∧ 0 ≤ ep ∧ ep ≤ 4294967295 ∧ lk < 0) ∨ (1 ≤ kd ∧ kd ≤ 255 ∧ 0 ≤ no ∧ no ≤ 4294967295 ∧ 0 ≤ ep ∧ ep ≤ 4294967295 ∧ 0 ≤ lk ∧ 4294967295 < lk) := by omega
  clear hfm
  rcases hc with h1 | ⟨h1, h2⟩ | ⟨h1, h2, h3⟩ | ⟨h1, h2, h3, h4⟩ | ⟨h1, h2, h3, h4, h5⟩ | ⟨h1, h2, h3, h4, h5, h6⟩ | ⟨h1, h2, h3, h4, h5, h6, h7⟩ | ⟨h1, h2, h3, h4, h5, h6, h7, h8⟩ <;> (
    go_enter Try.func37, Try.ntmps37
    go_wp2_with fail
    refine (F'.out _ (by exact (Below.refl _ _).alloc (Nat.le_refl _) _)).mono ?_
    rintro e w' ⟨rfl, rfl⟩
    go_wp2_with fail
    go_ret2
    exact ⟨rfl, (Below.refl _ _).alloc (Nat.le_refl _) _⟩)
end Go.Proofs.Ytljfomgcoodjkaa
