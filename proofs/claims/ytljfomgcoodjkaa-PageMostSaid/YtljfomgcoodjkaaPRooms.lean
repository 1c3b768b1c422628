/- Cells of two lists take what both take; what fits together fits alone: the law's walk. -/
import Derived.Test.YtljfomgcoodjkaaJoin
import Derived.Test.YtljfomgcoodjkaaPSame
namespace Go.Proofs.Ytljfomgcoodjkaa
open Go.RowKit

theorem few_cells (g : Nat) (v : Value) (ss : List ByteArray) (w : World) (h : RS w g v ss) : Calls Try.prog 35 #[.agg #[.int .i64 0, .int .i64 0, .int .i64 0, .int .i64 0, v]] w fun e w' => e = .returned (.bool (fewB ss)) ∧ Below w.heap.size w w' :=
  few_any g 0 0 0 0 v ss w h

theorem rs_new {W : World} {base n : Nat} {v : Value} {ss : List ByteArray} (h : W.ownsRow base 9 1 v n (ss.map Value.string)) (hn : ss.length = n) (hs : ∀ s ∈ ss, s.size ≤ maxLen) : RS W W.heap.size v ss := by
  rcases h.2 with ⟨rfl, h0⟩ | ⟨b, cap, cur, rfl, hb, hh, hc, hcm, hz, ht⟩
  · exact rs_own (base := W.heap.size + 1) ⟨h.1, .inl ⟨rfl, h0⟩⟩ hn (Nat.lt_succ_self _) hs
  · have hlt : b < W.heap.size := (Array.getElem?_eq_some_iff.1 hh).1
    refine ⟨_, cap, by rw [hn], by omega, hcm, hs, .inr ⟨b, 0, rfl, by omega, fun i hi => ?_⟩⟩
    rw [Nat.zero_add, cell_of_row _ _ _ cur 9 (0, 0) hh]
    have h2 : (cur.toList.take (n * 1))[i]? = (ss.map Value.string)[i]? := by rw [ht]
    rw [List.getElem?_take, if_pos (by omega), List.getElem?_map, List.getElem?_eq_getElem hi, Array.getElem?_toList] at h2
    exact h2

set_option maxRecDepth 100000 in
set_option maxHeartbeats 1600000 in
theorem pageRooms_walk {w : World} (v0 : Value) (x0 : List ByteArray) (f0 : Strs w v0 x0) (v1 : Value) (x1 : List ByteArray) (f1 : Strs w v1 x1) :
    Calls Try.prog 15 #[v0, v1] w fun e w' => e = .returned (.bool true) ∧ Below w.heap.size w w' := by
  obtain ⟨A0, c0, rfl, _, hm0, hz0, _⟩ := id f0
  obtain ⟨A1, c1, rfl, _, hm1, hz1, _⟩ := id f1
  unfold maxLen at hm0 hm1
  have P0 := hide (fun w' (h : Below w.heap.size w w') => f0.RS rfl h (Nat.le_refl _))
  have P1 := hide (fun w' (h : Below w.heap.size w w') => f1.RS rfl h (Nat.le_refl _))
  have F0 := hide (fun w' (h : Below w.heap.size w w') => from_base h (few_cells w.heap.size _ x0 w' (P0.out w' h)))
  have F1 := hide (fun w' (h : Below w.heap.size w w') => from_base h (few_cells w.heap.size _ x1 w' (P1.out w' h)))
  have AW := hide (fun w' (h : Below w.heap.size w w') => from_base h (awake4 w'))
  have Z0 := hide hz0
  have Z1 := hide hz1
  have L0 : x0.length ≤ 9223372036854775807 := by omega
  have L1 : x1.length ≤ 9223372036854775807 := by omega
  clear f0 f1 hz0 hz1
  by_cases hf0 : fewB x0 = true
  case neg =>
    rw [show fewB x0 = false by simpa using hf0] at F0
    clear hf0
    go_enter Try.func15, Try.ntmps15
    go_wp2_with fail
    refine (F0.out _ (Below.refl _ _)).mono ?_
    rintro e w2 ⟨rfl, hb2⟩
    have H2 := hide hb2
    clear hb2
    go_wp2_with fail
    refine (AW.out _ H2.out).mono ?_
    rintro e w3 ⟨rfl, hb3⟩
    have H3 := hide hb3
    clear hb3
    go_wp2_with fail
    go_ret
    exact ⟨rfl, H3.out⟩
  by_cases hf1 : fewB x1 = true
  case neg =>
    rw [hf0] at F0
    rw [show fewB x1 = false by simpa using hf1] at F1
    clear hf0 hf1
    go_enter Try.func15, Try.ntmps15
    go_wp2_with fail
    refine (F0.out _ (Below.refl _ _)).mono ?_
    rintro e w2 ⟨rfl, hb2⟩
    have H2 := hide hb2
    clear hb2
    go_wp2_with fail
    refine (F1.out _ H2.out).mono ?_
    rintro e w3 ⟨rfl, hb3⟩
    have H3 := hide hb3
    clear hb3
    go_wp2_with fail
    refine (AW.out _ H3.out).mono ?_
    rintro e w4 ⟨rfl, hb4⟩
    have H4 := hide hb4
    clear hb4
    go_wp2_with fail
    go_ret
    exact ⟨rfl, H4.out⟩
  by_cases hl : x0.length ≤ 100 ∧ x1.length ≤ 100
  case neg =>
    rw [hf0] at F0
    rw [hf1] at F1
    clear hf0 hf1
    by_cases h0 : x0.length ≤ 100
    · have h0i : (x0.length : Int) ≤ 100 := by omega
      have h1i : (100 : Int) < (x1.length : Int) := by omega
      clear hl h0
      go_enter Try.func15, Try.ntmps15
      go_wp2_with fail
      refine (F0.out _ (Below.refl _ _)).mono ?_
      rintro e w2 ⟨rfl, hb2⟩
      have H2 := hide hb2
      clear hb2
      go_wp2_with fail
      refine (F1.out _ H2.out).mono ?_
      rintro e w3 ⟨rfl, hb3⟩
      have H3 := hide hb3
      clear hb3
      go_wp2_with fail
      refine (AW.out _ H3.out).mono ?_
      rintro e w4 ⟨rfl, hb4⟩
      have H4 := hide hb4
      clear hb4
      go_wp2_with fail
      go_ret
      exact ⟨rfl, H4.out⟩
    · have h0i : (100 : Int) < (x0.length : Int) := by omega
      clear hl h0
      go_enter Try.func15, Try.ntmps15
      go_wp2_with fail
      refine (F0.out _ (Below.refl _ _)).mono ?_
      rintro e w2 ⟨rfl, hb2⟩
      have H2 := hide hb2
      clear hb2
      go_wp2_with fail
      refine (F1.out _ H2.out).mono ?_
      rintro e w3 ⟨rfl, hb3⟩
      have H3 := hide hb3
      clear hb3
      go_wp2_with fail
      refine (AW.out _ H3.out).mono ?_
      rintro e w4 ⟨rfl, hb4⟩
      have H4 := hide hb4
      clear hb4
      go_wp2_with fail
      go_ret
      exact ⟨rfl, H4.out⟩
  obtain ⟨h0, h1⟩ := hl
  have S0 := hide ((few_iff x0).1 hf0).1
  have S1 := hide ((few_iff x1).1 hf1).1
  have h0i : (x0.length : Int) ≤ 100 := by omega
  have h1i : (x1.length : Int) ≤ 100 := by omega
  rw [hf0] at F0
  rw [hf1] at F1
  have d0 : decide ((100 : Int) < (x0.length : Int)) = false := decide_eq_false (by omega)
  have d1 : decide ((100 : Int) < (x1.length : Int)) = false := decide_eq_false (by omega)
  clear hf0 hf1
  go_enter Try.func15, Try.ntmps15
  go_wp2_with fail
  refine (F0.out _ (Below.refl _ _)).mono ?_
  rintro e w2 ⟨rfl, hb2⟩
  have H2 := hide hb2
  clear hb2
  go_wp2_with fail
  refine (F1.out _ H2.out).mono ?_
  rintro e w3 ⟨rfl, hb3⟩
  have H3 := hide hb3
  clear hb3
  go_upto_region 3 with fail
  have Q0 := hide (P0.out w3 H3.out)
  have Q1 := hide (P1.out w3 H3.out)
  have N3 := hide (World.ownsRow_made (base := w3.heap.size) (e := 9) (size := 1) w3 #[] 0 (Nat.le_refl _) (by unfold maxLen; omega) rfl)
  go_wp2_with (first
    | (at_builtin; go_loud (refine wpList_append_strs rfl _ _ rfl w3.heap.size _ 0 [] rfl N3.out A0 w.heap.size _ c0 x0 rfl rfl (Q0.out.below ((Below.refl _ _).alloc (Nat.le_refl _) _)) (by omega) (by simp) ?_); intro v5 w5 o5 g5 q5
       have O5 := hide o5
       have B5 := hide (((Below.refl _ _).alloc (Nat.le_refl w3.heap.size) _).grown g5 (by simp) (N3.out.lt · · |>.1))
       clear o5 g5)
    | (at_builtin; go_loud (refine wpList_append_strs rfl _ _ rfl w3.heap.size _ _ _ rfl O5.out A1 w.heap.size _ c1 x1 rfl rfl (Q1.out.below B5.out) (by omega) B5.out.size ?_); intro v6 w6 o6 g6 q6
       have O6 := hide o6
       have B6 := hide (B5.out.grown g6 B5.out.size (O5.out.lt · · |>.1))
       clear o6 g6))
  have H6 := hide (H3.out.trans (B6.out.mono H3.out.size))
  have JS : ∀ s ∈ x0 ++ x1, s.size ≤ 300 := fun s hs => (List.mem_append.1 hs).elim (S0.out s) (S1.out s)
  have RB := rs_new (ss := x0 ++ x1) (by have h := O6.out; rwa [List.nil_append, ← List.map_append] at h) (by rw [List.length_append]; omega) (fun s hs => Nat.le_trans (JS s hs) (by unfold maxLen; omega))
  have JL : (x0 ++ x1).length ≤ 300 := by rw [List.length_append]; omega
  have R0 := hide (fun w' (h : Below w6.heap.size w6 w') => room_any _ _ x0 w' (P0.out w' (H6.out.trans (h.mono H6.out.size))) (by omega) S0.out)
  have R1 := hide (fun w' (h : Below w6.heap.size w6 w') => room_any _ _ x1 w' (P1.out w' (H6.out.trans (h.mono H6.out.size))) (by omega) S1.out)
  have RJ := hide (fun w' (h : Below w6.heap.size w6 w') => room_any _ _ (x0 ++ x1) w' (RB.below h) JL JS)
  have T0 := hide (fun w' (h : Below w6.heap.size w6 w') => fits_any _ _ x0 w' (P0.out w' (H6.out.trans (h.mono H6.out.size))) (by omega) S0.out)
  have T1 := hide (fun w' (h : Below w6.heap.size w6 w') => fits_any _ _ x1 w' (P1.out w' (H6.out.trans (h.mono H6.out.size))) (by omega) S1.out)
  have TJ := hide (fun w' (h : Below w6.heap.size w6 w') => fits_any _ _ (x0 ++ x1) w' (RB.below h) JL JS)
  have AW6 := hide (awake4 w6)
  have hj := room_join x0 x1
  have hjb : room (x0 ++ x1) ≤ 100000 := by
    have h1 := tot_le (x0 ++ x1) 300 JS
    unfold room
    omega
  obtain ⟨r0, hr0⟩ : ∃ r, r = room x0 := ⟨_, rfl⟩
  obtain ⟨r1, hr1⟩ : ∃ r, r = room x1 := ⟨_, rfl⟩
  obtain ⟨rj, hrj⟩ : ∃ r, r = room (x0 ++ x1) := ⟨_, rfl⟩
  rw [← hr0] at R0 hj
  rw [← hr1] at R1 hj
  rw [← hrj] at RJ hj hjb
  have hsum : (r0 : Int) + (r1 : Int) = (rj : Int) := by omega
  have FJ := hide (fun h => fits_join (a := x0) (b := x1) h)
  clear hr0 hr1 hrj hj JS JL RB F0 F1 AW Q0 Q1 S0 S1 P0 P1 N3 O5 O6 B5 B6 d0 d1
  go_wp2_with fail
  refine AW6.out.mono ?_
  rintro e w7 ⟨rfl, hb7⟩
  have H7 := hide hb7
  clear hb7
  go_wp2_with fail
  refine (RJ.out _ H7.out).mono ?_
  rintro e w8 ⟨rfl, rfl⟩
  go_wp2_with fail
  refine (R0.out _ H7.out).mono ?_
  rintro e w8 ⟨rfl, rfl⟩
  go_wp2_with fail
  refine (R1.out _ H7.out).mono ?_
  rintro e w8 ⟨rfl, rfl⟩
  by_cases hfj : fitsB (x0 ++ x1) = true
  · obtain ⟨ha, hb⟩ := FJ.out hfj
    rw [hfj] at TJ
    rw [ha] at T0
    rw [hb] at T1
    clear hfj ha hb
    go_wp2_with fail
    refine (TJ.out _ H7.out).mono ?_
    rintro e w8 ⟨rfl, rfl⟩
    go_wp2_with fail
    refine (T0.out _ H7.out).mono ?_
    rintro e w8 ⟨rfl, rfl⟩
    go_wp2_with fail
    refine (T1.out _ H7.out).mono ?_
    rintro e w8 ⟨rfl, rfl⟩
    go_wp2_with fail
    go_ret
    exact ⟨rfl, H6.out.trans (H7.out.mono H6.out.size)⟩
  · rw [show fitsB (x0 ++ x1) = false by simpa using hfj] at TJ
    clear hfj
    go_wp2_with fail
    refine (TJ.out _ H7.out).mono ?_
    rintro e w8 ⟨rfl, rfl⟩
    go_wp2_with fail
    go_ret
    exact ⟨rfl, H6.out.trans (H7.out.mono H6.out.size)⟩
end Go.Proofs.Ytljfomgcoodjkaa
