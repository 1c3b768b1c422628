/- The chapter's awake: what its example fixes is true. -/
import Derived.Test.YtljfomgcoodjkaaPage
namespace Go.Proofs.Ytljfomgcoodjkaa
open Go.RowKit

/-- The example's page, laid: its cells' texts in a block of their own, the page in the next. -/
def lay4 (w : World) : World := (w.alloc (.cells #[.string ⟨#[97, 98]⟩, .string ⟨#[]⟩] 9)).alloc (.cells #[.int .i64 1, .int .i64 2, .int .i64 3, .int .i64 0, .slice (some ⟨w.heap.size, 0, none⟩) 2 2] 58)
def pg4 (n : Nat) : Value := .agg #[.int .i64 1, .int .i64 2, .int .i64 3, .int .i64 0, .slice (some ⟨n, 0, none⟩) 2 2]
theorem lay4_pv (w : World) (g : Nat) (hg : g < w.heap.size) : PV (lay4 w) g (pg4 w.heap.size) ⟨1, 2, 3, 0, cs4⟩ := by
  refine ⟨_, rfl, some ⟨w.heap.size, 0, none⟩, 2, rfl, Nat.le_refl _, by unfold maxLen; omega, fun s hs => ?_, .inr ⟨w.heap.size, 0, rfl, by omega, fun i hi => ?_⟩⟩
  · unfold maxLen
    rcases List.mem_cons.1 hs with rfl | hs
    · decide
    · rcases List.mem_cons.1 hs with rfl | hs
      · decide
      · simp at hs
  · have h2 : i < 2 := hi
    rcases (show i = 0 ∨ i = 1 by omega) with rfl | rfl
    · exact two_boxes_1 _ _ _ rfl
    · exact two_boxes_1 _ _ _ rfl
theorem lay4_blk (w : World) : Blk (lay4 w) (w.heap.size + 1) 58 #[.int .i64 1, .int .i64 2, .int .i64 3, .int .i64 0, .slice (some ⟨w.heap.size, 0, none⟩) 2 2] := by
  have h := Blk.new (w.alloc (.cells #[.string ⟨#[97, 98]⟩, .string ⟨#[]⟩] 9)) 58 #[.int .i64 1, .int .i64 2, .int .i64 3, .int .i64 0, .slice (some ⟨w.heap.size, 0, none⟩) 2 2]
  rwa [World.size_alloc] at h
theorem lay4_below (w : World) : Below w.heap.size w (lay4 w) := ((Below.refl _ _).alloc (Nat.le_refl _) _).alloc (by simp) _

set_option maxRecDepth 100000 in
set_option maxHeartbeats 1600000 in
theorem awake4 (w : World) : Calls Try.prog 34 #[] w fun e w' => e = .returned (.bool true) ∧ Below w.heap.size w w' := by
  go_enter Try.func34, Try.ntmps34
  go_wp2_with fail
  refine (new_any _).mono ?_
  rintro e w1 ⟨g, rfl, hu⟩
  have U1 := hide hu
  clear hu
  go_wp2_with fail
  have L1 := hide (lay4_pv w1 g U1.out.1.lt)
  have B1 := hide (lay4_blk w1)
  have V1 := hide (U1.out.below (lay4_below w1))
  obtain ⟨w2, hw2⟩ : ∃ w2, w2 = lay4 w1 := ⟨_, rfl⟩
  rw [← hw2] at L1 B1 V1
  rw [show (w1.alloc (.cells #[.string ⟨#[97, 98]⟩, .string ⟨#[]⟩] 9)).alloc (.cells #[.int .i64 1, .int .i64 2, .int .i64 3, .int .i64 0, .slice (some ⟨w1.heap.size, 0, none⟩) 2 2] 58) = w2 from hw2.symm]
  obtain ⟨r, hr⟩ : ∃ r, r = w1.heap.size := ⟨_, rfl⟩
  have hgr : g < r := by rw [hr]; exact U1.out.1.lt
  rw [← hr] at L1 B1 ⊢
  clear hw2 hr U1
  clear w1
  refine (put_ok g 0 _ cs4 1 2 3 0 w2 V1.out.1 L1.out cs4_fits (by omega) (by omega) (by omega) (by omega) (by omega)).mono ?_
  rintro e w3 ⟨b, rfl, hbn, hbuf, ⟨m3, hs3⟩, hg3⟩
  have V3 := hide (V1.out.grown hs3 hg3)
  have L3 := hide (L1.out.grown hg3)
  have B3 := hide (B1.out.grown hg3 (fun e => by injection e; omega))
  have R3 := hide hbuf.row
  have hbg : b ≠ g := by have := V1.out.1.lt; omega
  clear hbn hbuf hs3 hg3 L1 B1 V1
  go_wp2_with fail
  refine (get_own g b 256 m3 1 2 3 0 cs4 w3 V3.out.1 R3.out hbg (by omega) cs4_fits (by omega) (by omega) (by omega) (by omega) (by omega)).mono ?_
  rintro e w4 ⟨pv, rfl, hpv, ⟨m4, hs4⟩, hg4⟩
  obtain ⟨A, cc, rfl, hcv⟩ : ∃ A c, pv = .agg #[.int .i64 1, .int .i64 2, .int .i64 3, .int .i64 0, .slice A 2 c] ∧ RS w4 g (.slice A 2 c) cs4 := PV.form hpv
  have V4 := hide (V3.out.grown hs4 hg4)
  have L4 := hide (L3.out.grown hg4)
  have B4 := hide (B3.out.grown hg4 (fun e => by injection e; omega))
  have R4 := hide (R3.out.grown hg4 hbg)
  have C4 := hide hcv
  clear hs4 hg4 hcv V3 L3 B3 R3 hpv
  go_upto_region 7 with fail
  obtain ⟨w5, hw5⟩ : ∃ w5, w5 = w4.alloc (.cells #[.int .i64 1, .int .i64 2, .int .i64 3, .int .i64 0, .slice A 2 cc] 58) := ⟨_, rfl⟩
  have N5 : Below w4.heap.size w4 w5 := by rw [hw5]; exact (Below.refl _ _).alloc (Nat.le_refl _) _
  have Q5 : Blk w5 w4.heap.size 58 #[.int .i64 1, .int .i64 2, .int .i64 3, .int .i64 0, .slice A 2 cc] := by rw [hw5]; exact Blk.new _ _ _
  have V5 := hide (V4.out.below N5)
  have L5 := hide (L4.out.below N5)
  have B5 := hide (B4.out.below N5 B4.out.lt)
  obtain ⟨⟨b0, b1, b2, b3, b4⟩, _⟩ := page_cells B5.out
  have R5 := hide (R4.out.below N5)
  have C5 := hide (C4.out.below N5)
  have D5 := hide Q5
  obtain ⟨⟨q0, q1, q2, q3, q4⟩, _⟩ := page_cells Q5
  have xl := page_len 1 2 3 0 cs4 (by decide)
  have sl1 : ∀ w, (Instr.slice 28 (.slice (some ⟨b, 0, none⟩) 256 256) none (some (.int .i64 18)) none).run Try.prog w = .ok (.slice (some ⟨b, 0, none⟩) 18 256) w := slice28_h (some ⟨b, 0, none⟩) 256 256 18 (by omega)
  have sl2 : ∀ w, (Instr.slice 28 (.slice (some ⟨b, 0, none⟩) 256 256) (some (.int .i64 249)) (some (.int .i64 252)) none).run Try.prog w = .ok (.slice (some ⟨b, 249, none⟩) 3 7) w := fun w => by
    have h := slice28_lh (some ⟨b, 0, none⟩) 256 256 249 252 (by omega) (by omega) w
    rw [cutAt_some _ _ _ _ (by omega)] at h
    exact h
  have cv1 := conv_back (c := 256) (R5.out.take 18) (n := 18) (by rw [List.length_take, xl]; rfl)
  rw [cs4_head] at cv1
  have cv2 := conv_back (c := 7) ((R5.out.drop 249).take 3) (n := 3) (by rw [List.length_take, List.length_drop, xl]; rfl)
  rw [cs4_tail] at cv2
  rw [Nat.zero_add] at cv2
  clear xl N5 Q5 V4 L4 B4 R4 C4
  have PVa := L5.out
  have PVb : PV w5 g (.agg #[.int .i64 1, .int .i64 2, .int .i64 3, .int .i64 0, .slice A 2 cc]) ⟨1, 2, 3, 0, cs4⟩ := ⟨_, rfl, C5.out⟩
  have SM1 := hide (ref_same g g _ _ _ _ w5 PVa PVb)
  have hsame : sameB ⟨1, 2, 3, 0, cs4⟩ ⟨1, 2, 3, 0, cs4⟩ = true := by decide
  rw [hsame] at SM1
  have PA := hide PVa
  have PB := hide PVb
  clear PVa PVb hsame
  rw [← hw5]
  obtain ⟨q, hq⟩ : ∃ q, q = w4.heap.size := ⟨_, rfl⟩
  rw [← hq] at q0 q1 q2 q3 q4 D5 ⊢
  clear hq hw5
  go_wp2_with fail
  refine SM1.out.mono ?_
  rintro e w6 ⟨rfl, hb6⟩
  have B6 := hide (B5.out.below hb6 B5.out.lt)
  have D6 := hide (D5.out.below hb6 D5.out.lt)
  have PA6 := hide (PA.out.below hb6)
  have PB6 := hide (PB.out.below hb6)
  have V6 := hide (V5.out.below hb6)
  clear hb6 b0 b1 b2 b3 b4 q0 q1 q2 q3 q4 cv1 cv2 B5 D5 PA PB V5 L5 C5 R5 SM1
  obtain ⟨⟨b0, b1, b2, b3, b4⟩, _⟩ := page_cells B6.out
  obtain ⟨⟨q0, q1, q2, q3, q4⟩, _⟩ := page_cells D6.out
  have SM2 := same_any g g _ _ _ _ w6 PA6.out PB6.out
  rw [show sameB ⟨1, 2, 3, 0, cs4⟩ ⟨1, 2, 3, 0, cs4⟩ = true by decide] at SM2
  have SM := hide SM2
  clear SM2
  go_wp2_with fail
  refine SM.out.mono ?_
  rintro e w7 ⟨rfl, hb7⟩
  have B7 := hide (B6.out.below hb7 B6.out.lt)
  have V7 := hide (V6.out.below hb7)
  obtain ⟨cv, hcv, RS7⟩ := PA6.out.below hb7
  have hcv' : cv = .slice (some ⟨r, 0, none⟩) 2 2 := by
    have := congrArg (fun v => match v with | .agg cs => cs[4]? | _ => none) hcv
    simpa [pg4] using this.symm
  subst hcv'
  have F7 := fits_any g _ cs4 w7 RS7 (by decide) (by decide)
  have M7 := room_any g _ cs4 w7 RS7 (by decide) (by decide)
  rw [cs4_fits] at F7
  rw [cs4_room] at M7
  have FT := hide F7
  have RM := hide M7
  clear hb7 b0 b1 b2 b3 b4 q0 q1 q2 q3 q4 F7 M7 RS7 hcv B6 D6 PA6 PB6 V6 SM
  obtain ⟨⟨b0, b1, b2, b3, b4⟩, _⟩ := page_cells B7.out
  go_wp2_with fail
  refine RM.out.mono ?_
  rintro e w8 ⟨rfl, rfl⟩
  go_wp2_with fail
  refine FT.out.mono ?_
  rintro e w8 ⟨rfl, rfl⟩
  go_wp2_with fail
  go_ret
  exact ⟨rfl, V7.out.2.1⟩
end Go.Proofs.Ytljfomgcoodjkaa
