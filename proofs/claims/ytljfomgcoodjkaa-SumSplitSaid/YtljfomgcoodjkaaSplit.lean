/- The walk of SumSplit: whatever the cuts, the law returns true and nothing that was there has turned. -/
import Derived.Test.YtljfomgcoodjkaaMem
import Derived.Deep.RegionWith
namespace Go.Proofs.Ytljfomgcoodjkaa
open Go.RowKit

theorem cut3 {α : Type} (xs : List α) (i k : Nat) (h : i ≤ k) : xs.take i ++ ((xs.drop i).take (k - i) ++ xs.drop k) = xs := by
  have e : xs.drop k = (xs.drop i).drop (k - i) := by rw [List.drop_drop]; congr 1; omega
  rw [e, List.take_append_drop, List.take_append_drop]

theorem split_parts {w : World} {g b c i k : Nat} {n : Int} {xs : List UInt8} (hs : SumAt w g n) (hr : Row w b 0 xs) (hbg : b ≠ g) (hik : i ≤ k) (hk : k ≤ xs.length) (hc : xs.length ≤ c) (h5 : xs.length ≤ 500) :
    Calls Try.prog 26 #[.pointer (some ⟨g, 0, none⟩), .slice (some ⟨w.heap.size, 0, none⟩) 3 3]
      (w.alloc (.cells #[.slice (some ⟨b, 0, none⟩) i c, .slice (cutAt (some ⟨b, 0, none⟩) i c) (k - i) (c - i), .slice (cutAt (some ⟨b, 0, none⟩) k c) (xs.length - k) (c - k)] 28)).drew fun e w' =>
      e = .returned (.int .u32 (Crc.crc xs : Nat)) ∧ (∃ m, SumAt w' g m) ∧ w.grownBy w' (some g) := by
  have hr' : Row (w.alloc (.cells #[.slice (some ⟨b, 0, none⟩) i c, .slice (cutAt (some ⟨b, 0, none⟩) i c) (k - i) (c - i), .slice (cutAt (some ⟨b, 0, none⟩) k c) (xs.length - k) (c - k)] 28)).drew b 0 xs :=
    hr.grown (grown_drew (World.grownBy_alloc w _ _)) hbg
  have r0 := Row.cut (c := c) (m := c) hr' hbg (Nat.zero_le i) (by omega) (by omega)
  have r1 := Row.cut (c := c) (m := c - i) hr' hbg hik hk (by omega)
  have r2 := Row.cut (c := c) (m := c - k) hr' hbg hk (Nat.le_refl _) hc
  have e0 : cutAt (some ⟨b, 0, none⟩) 0 c = some ⟨b, 0, none⟩ := by unfold cutAt; split <;> rfl
  rw [e0] at r0
  have hl := RL.three (bb := w.heap.size) (c := 3) (Nat.ne_of_gt hs.lt) (by simp) (by simp) (by simp) r0 r1 r2
  refine (parts_any g n _ _ _ (hs.alloc _).drew hl (by simp) (by simp only [List.mem_cons, List.not_mem_nil, or_false]; rintro x (rfl | rfl | rfl) <;> simp <;> omega)).mono ?_
  rintro e w' ⟨rfl, h2, h3⟩
  refine ⟨ret_int ?_, ⟨_, h2.at_⟩, grown_trans (grown_drew (World.grownBy_alloc w _ _)) h3⟩
  simp only [List.flatten_cons, List.flatten_nil, List.append_nil, List.drop_zero, Nat.sub_zero]
  rw [List.take_of_length_le (l := xs.drop k) (by simp), cut3 xs i k hik]

set_option maxRecDepth 100000 in
set_option maxHeartbeats 400000 in
theorem split_long (a : ByteArray) (x y : Nat) (w : World) (hs : a.size ≤ 9223372036854775807) (hlong : 500 < a.size) :
    Calls Try.prog 10 #[.string a, .agg #[.int .u16 x, .int .u16 y]] w fun e w' => e = .returned (.bool true) ∧ Below w.heap.size w w' := by
  go_enter Try.func10, Try.ntmps10
  go_wp2_with fail
  refine (new_any _).mono ?_
  rintro e w1 ⟨g, rfl, hu⟩
  have U1 := hide hu
  clear hu
  go_wp2_with fail
  refine (awake2 _).mono ?_
  rintro e w2 ⟨rfl, hb⟩
  have U2 := hide (U1.out.below hb)
  clear hb
  go_wp2_with fail
  refine (awake2 _).mono ?_
  rintro e w3 ⟨rfl, hb⟩
  have U3 := hide (U2.out.below hb)
  clear hb
  go_wp2_with fail
  go_ret
  exact ⟨rfl, Below.box (by simpa using U3.out.2.1)⟩
set_option maxRecDepth 100000 in
set_option maxHeartbeats 400000 in
theorem split_short (a : ByteArray) (x y : Nat) (w : World) (hx : x < 65536) (hy : y < 65536) (hshort : a.size ≤ 500) :
    Calls Try.prog 10 #[.string a, .agg #[.int .u16 x, .int .u16 y]] w fun e w' => e = .returned (.bool true) ∧ Below w.heap.size w w' := by
  obtain ⟨i, hi⟩ : ∃ i, i = x % (a.size + 1) := ⟨_, rfl⟩
  have hil : i ≤ a.size := by rw [hi]; have := Nat.mod_lt x (show 0 < a.size + 1 by omega); omega
  obtain ⟨r, hr⟩ : ∃ r, r = y % (a.size - i + 1) := ⟨_, rfl⟩
  have hrl : r < a.size - i + 1 := by rw [hr]; exact Nat.mod_lt y (by omega)
  obtain ⟨k, hk⟩ : ∃ k, k = i + r := ⟨_, rfl⟩
  have hik : i ≤ k := by omega
  have hkl : k ≤ a.size := by omega
  have hi' : (x : Int) % ((a.size : Int) + 1) = (i : Int) := by rw [hi, Int.natCast_emod, Int.natCast_add]; rfl
  have hk' : (i : Int) + (y : Int) % ((a.size : Int) - (i : Int) + 1) = (k : Int) := by
    rw [hk, hr, show (a.size : Int) - (i : Int) + 1 = ((a.size - i + 1 : Nat) : Int) by omega, Int.natCast_add i, Int.natCast_emod]
  clear hr hrl
  clear hi hk
  go_enter Try.func10, Try.ntmps10
  go_wp2_with fail
  refine (new_any _).mono ?_
  rintro e w1 ⟨g, rfl, hu⟩
  have U1 := hide hu
  clear hu
  go_wp2_with fail
  refine (awake2 _).mono ?_
  rintro e w2 ⟨rfl, hb⟩
  have U2 := hide (U1.out.below hb)
  have c0 : w2.cell? ⟨w.heap.size, 0, none⟩ = some (.int .u16 x) := U2.out.back (by simp) (by simp)
  have c1 : w2.cell? ⟨w.heap.size, 1, none⟩ = some (.int .u16 y) := U2.out.back (by simp) (by simp)
  clear hb
  go_wp2_with (with_reducible refine wpList_to_bytes rfl _ rfl _ rfl ?_; intro b c w3 hby)
  have hcr : a.size ≤ c := by have := hby.room; simpa using this
  have HB := hide hby
  clear hby
  have q1 := slice28_h (some ⟨b, 0, none⟩) a.size c i (by omega)
  have q2 := slice28_lh (some ⟨b, 0, none⟩) a.size c i k (by omega) (by omega)
  have q3 := slice28_l (some ⟨b, 0, none⟩) a.size c k (by omega)
  have U3 := hide (U2.out.below HB.out.below)
  have hbg : b ≠ g := by have := U2.out.1.lt; have := HB.out.new; omega
  have P := hide (split_parts (w := w3) (g := g) (n := 0) (b := b) (c := c) (xs := a.data.toList) (i := i) (k := k) U3.out.1 HB.out.row hbg hik (by simpa using hkl) (by simpa using hcr) (by simpa using hshort))
  go_region_with (first
    | (go_at_call 26; refine P.out.mono ?_; rintro e w4 ⟨rfl, ⟨m4, hs⟩, hgr⟩; have S4 := hide hs; have G4 := hide hgr; clear hs hgr)
    | (go_at_call 24; refine (of_any g _ _ a.data.toList _ S4.out (((HB.out.row.grown G4.out hbg).RB hbg)) (by simp; omega)).mono ?_; rintro e w5 ⟨rfl, hs, hgr⟩; have S5 := hide hs; have G5 := hide hgr; clear hs hgr))
  go_wp2
  go_ret
  have U4 := U3.out.grown S4.out G4.out
  have U5 := U4.grown S5.out.at_ G5.out
  exact ⟨rfl, Below.box (by simpa using U5.2.1)⟩

theorem sumSplit_walk {w : World} (a : ByteArray) (hs : a.size ≤ maxLen) (x y : Nat) (hx : x ≤ 65535) (hy : y ≤ 65535) :
    Calls Try.prog 10 #[.string a, .agg #[.int .u16 x, .int .u16 y]] w fun e w' => e = .returned (.bool true) ∧ Below w.heap.size w w' := by
  unfold maxLen at hs
  by_cases h : a.size ≤ 500
  · exact split_short a x y w (by omega) (by omega) h
  · exact split_long a x y w hs (by omega)
end Go.Proofs.Ytljfomgcoodjkaa
