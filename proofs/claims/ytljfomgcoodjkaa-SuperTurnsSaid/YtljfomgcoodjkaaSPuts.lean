/- Any super is the document's bytes, in its slot, and itself again, or may not be: the law's walk. -/
import Derived.Test.YtljfomgcoodjkaaAwake7
namespace Go.Proofs.Ytljfomgcoodjkaa
open Go.RowKit

theorem got_own {x : Su} {slot er : Int} {v : Value} (hc : checkB x = true) (hs : slot = x.ep % 2) (h : GotSu (bytesSu x) slot v er) : v = suV x ∧ er = 0 := by
  rcases h with ⟨y, h1, h2, h3, h4, h5⟩ | ⟨h1, _⟩
  · rw [h4, h5, (su_inj hc h1 h2).symm]; exact ⟨rfl, rfl⟩
  · exact (h1 x hc rfl hs).elim
theorem got_other {x : Su} {slot er : Int} {v : Value} (hc : checkB x = true) (hs : slot ≠ x.ep % 2) (h : GotSu (bytesSu x) slot v er) : v = suV ⟨0, 0, 0, 0⟩ ∧ er = 70 := by
  rcases h with ⟨y, h1, h2, h3, h4, h5⟩ | ⟨h1, h2, h3, h4⟩
  · rw [(su_inj hc h1 h2).symm] at h3; exact (hs h3).elim
  · obtain ⟨_, b, c⟩ := su_page hc rfl
    exact ⟨h3, h4 b c⟩
/-- What stays of a super in its box. -/
theorem sbox_facts {w wb w' : World} {x : Su} {g : Nat} {m : Int} (hwb : wb = w.alloc (.cells #[.int .i64 x.ep, .int .i64 x.rt, .int .i64 x.fr, .int .i64 x.pg] 41)) (V : Und wb.heap.size wb w' g m) :
    Blk w' w.heap.size 41 #[.int .i64 x.ep, .int .i64 x.rt, .int .i64 x.fr, .int .i64 x.pg] ∧ Below w.heap.size w w' := by
  obtain ⟨V1, V2, V3, V4⟩ := V
  subst hwb
  exact ⟨(Blk.new w 41 _).below V2 (by simp), Below.box (by simpa using V2)⟩

set_option maxRecDepth 100000 in
set_option maxHeartbeats 1600000 in
theorem superPuts_no {w : World} (x : Su) (hc : checkB x = false) :
    Calls Try.prog 18 #[suV x] w fun e w' => e = .returned (.bool true) ∧ Below w.heap.size w w' := by
  obtain ⟨wb, hwb⟩ : ∃ wb, wb = w.alloc (.cells #[.int .i64 x.ep, .int .i64 x.rt, .int .i64 x.fr, .int .i64 x.pg] 41) := ⟨_, rfl⟩
  have BF := hide (fun (w' : World) (g : Nat) (m : Int) V => sbox_facts (w' := w') (g := g) (m := m) hwb V)
  have PT := hide (fun g W => sput_no g x W hc)
  have RC := hide (fun W => ref_check x W)
  have CC := hide (fun W => check_any x W)
  rw [hc] at RC CC
  clear hc
  unfold suV at PT RC CC ⊢
  go_enter Try.func18, Try.ntmps18
  go_upto_region 1 with fail
  rw [← hwb]
  clear hwb
  go_wp2_with fail
  refine (new_any _).mono ?_
  rintro e w1 ⟨g, rfl, hu⟩
  have V1 := hide hu
  clear hu
  go_wp2_with fail
  refine (awake7 _).mono ?_
  rintro e w2 ⟨rfl, hb⟩
  have V2 := hide (V1.out.below hb)
  clear hb V1
  obtain ⟨⟨a0, a1, a2, a3⟩, _⟩ := su_there (BF.out _ _ _ V2.out).1
  go_wp2_with fail
  refine (PT.out g w2).mono ?_
  rintro e w3 ⟨rfl, hb⟩
  have V3 := hide (V2.out.below hb)
  clear hb V2 a0 a1 a2 a3
  obtain ⟨⟨a0, a1, a2, a3⟩, _⟩ := su_there (BF.out _ _ _ V3.out).1
  go_wp2_with fail
  refine (RC.out w3).mono ?_
  rintro e w4 ⟨rfl, hb⟩
  have V4 := hide (V3.out.below hb)
  clear hb V3 a0 a1 a2 a3
  obtain ⟨⟨a0, a1, a2, a3⟩, _⟩ := su_there (BF.out _ _ _ V4.out).1
  go_wp2_with fail
  refine (CC.out w4).mono ?_
  rintro e w5 ⟨rfl, hb⟩
  have V5 := hide (V4.out.below hb)
  clear hb V4 a0 a1 a2 a3
  go_wp2_with fail
  go_ret
  exact ⟨rfl, (BF.out _ _ _ V5.out).2⟩

set_option maxRecDepth 100000 in
set_option maxHeartbeats 1600000 in
theorem superPuts_ok {w : World} (x : Su) (hc : checkB x = true) :
    Calls Try.prog 18 #[suV x] w fun e w' => e = .returned (.bool true) ∧ Below w.heap.size w w' := by
  have PT0 := hide (fun g m W (h : SumAt W g m) => sput_ok g m x W h hc)
  have RC := hide (fun W => ref_check x W)
  have CC := hide (fun W => check_any x W)
  have RP := hide (fun W => ref_sput x W hc)
  have GO := hide (fun slot v er hs h => got_own (slot := slot) (v := v) (er := er) hc hs h)
  have GN := hide (fun slot v er hs h => got_other (slot := slot) (v := v) (er := er) hc hs h)
  have hXl := su_len hc
  rw [hc] at RC CC
  obtain ⟨ep, rt, fr, pg, rfl, h1, h2, h3, h4, h5⟩ := check_nat hc
  obtain ⟨X, hX⟩ : ∃ X, X = bytesSu ⟨ep, rt, fr, pg⟩ := ⟨_, rfl⟩
  rw [← hX] at PT0 RP GO GN hXl
  clear hX hc
  obtain ⟨wb, hwb⟩ : ∃ wb, wb = w.alloc (.cells #[.int .i64 (ep : Int), .int .i64 (rt : Int), .int .i64 (fr : Int), .int .i64 (pg : Int)] 41) := ⟨_, rfl⟩
  have BF := hide (fun (w' : World) (g : Nat) (m : Int) V => sbox_facts (x := ⟨ep, rt, fr, pg⟩) (w' := w') (g := g) (m := m) hwb V)
  obtain ⟨sl, hsl⟩ : ∃ sl, sl = ep % 2 := ⟨_, rfl⟩
  have hsl1 : sl ≤ 1 := by omega
  have hmod : (ep : Int) % 2 = (sl : Int) := by omega
  have hand : (ep : Int).tmod 2 = (sl : Int) := by rw [hsl]; rfl
  obtain ⟨sn, hsn⟩ : ∃ sn : Nat, sn = 1 - sl := ⟨_, rfl⟩
  have hsub : (1 : Int) - (sl : Int) = (sn : Int) := by omega
  have hne : (sn : Int) ≠ (sl : Int) := by omega
  dsimp only at PT0 GO GN
  rw [hmod] at PT0 GO GN
  have HN := hide hne
  have HM := hide hmod
  clear hsl hsn hne hmod
  unfold suV at PT0 RC CC RP GO GN ⊢
  go_enter Try.func18, Try.ntmps18
  go_upto_region 1 with fail
  rw [← hwb]
  clear hwb
  go_wp2_with fail
  refine (new_any _).mono ?_
  rintro e w1 ⟨g, rfl, hu⟩
  have V1 := hide hu
  clear hu
  go_wp2_with fail
  refine (awake7 _).mono ?_
  rintro e w2 ⟨rfl, hb⟩
  have V2 := hide (V1.out.below hb)
  clear hb V1
  obtain ⟨⟨a0, a1, a2, a3⟩, _⟩ := su_there (BF.out _ _ _ V2.out).1
  go_wp2_with fail
  refine (PT0.out g 0 w2 V2.out.1).mono ?_
  rintro e w3 ⟨b, rfl, hbn, hbuf, ⟨m3, hs3⟩, hg3⟩
  have V3 := hide (V2.out.grown hs3 hg3)
  have R3 := hide hbuf.row
  have hbg : b ≠ g := by have := V2.out.1.lt; omega
  clear hbn hbuf hs3 hg3 V2 a0 a1 a2 a3 PT0
  obtain ⟨⟨a0, a1, a2, a3⟩, _⟩ := su_there (BF.out _ _ _ V3.out).1
  go_wp2_with fail
  refine (RC.out w3).mono ?_
  rintro e w4 ⟨rfl, hb⟩
  have V4 := hide (V3.out.below hb)
  have R4 := hide (R3.out.below hb)
  clear hb V3 R3 a0 a1 a2 a3
  obtain ⟨⟨a0, a1, a2, a3⟩, _⟩ := su_there (BF.out _ _ _ V4.out).1
  go_wp2_with fail
  refine (CC.out w4).mono ?_
  rintro e w5 ⟨rfl, hb⟩
  have V5 := hide (V4.out.below hb)
  have R5 := hide (R4.out.below hb)
  clear hb V4 R4 a0 a1 a2 a3
  go_wp2_with fail
  refine (sget_any g b 256 m3 sl X w5 V5.out.1 R5.out hXl hbg (by omega)).mono ?_
  rintro e w6 ⟨v, er, rfl, hgot, ⟨m6, hs6⟩, hg6⟩
  obtain ⟨rfl, rfl⟩ := GO.out _ _ _ rfl hgot
  have V6 := hide (V5.out.grown hs6 hg6)
  have R6 := hide (R5.out.grown hg6 hbg)
  clear hgot hs6 hg6 V5 R5 GO
  go_upto_region 11 with fail
  obtain ⟨w7, hw7⟩ : ∃ w7, w7 = w6.alloc (.cells #[.int .i64 (ep : Int), .int .i64 (rt : Int), .int .i64 (fr : Int), .int .i64 (pg : Int)] 41) := ⟨_, rfl⟩
  have N7 : Below w6.heap.size w6 w7 := by rw [hw7]; exact (Below.refl _ _).alloc (Nat.le_refl _) _
  have Y7' : Blk w7 w6.heap.size 41 #[.int .i64 (ep : Int), .int .i64 (rt : Int), .int .i64 (fr : Int), .int .i64 (pg : Int)] := by rw [hw7]; exact Blk.new _ _ _
  obtain ⟨q, hq⟩ : ∃ q, q = w6.heap.size := ⟨_, rfl⟩
  have HQ := hide (show g < q by rw [hq]; exact V6.out.1.lt)
  rw [← hq] at Y7'
  have Y7 := hide Y7'
  have V7 := hide (V6.out.below N7)
  have R7 := hide (R6.out.below N7)
  rw [← hw7, ← hq]
  clear N7 Y7' hw7 hq V6 R6
  go_wp2_with fail
  refine (sget_any g b 256 m6 sn X w7 V7.out.1 R7.out hXl hbg (by omega)).mono ?_
  rintro e w8 ⟨v, er, rfl, hgot, ⟨m8, hs8⟩, hg8⟩
  obtain ⟨rfl, rfl⟩ := GN.out _ _ _ HN.out hgot
  have V8 := hide (V7.out.grown hs8 hg8)
  have R8 := hide (R7.out.grown hg8 hbg)
  have Y8 := hide (Y7.out.grown hg8 (fun e => by have := HQ.out; injection e; omega))
  clear hgot hs8 hg8 V7 R7 GN Y7
  go_upto_region 12 with fail
  obtain ⟨w9, hw9⟩ : ∃ w9, w9 = w8.alloc (.cells #[.int .i64 0, .int .i64 0, .int .i64 0, .int .i64 0] 41) := ⟨_, rfl⟩
  have N9 : Below w8.heap.size w8 w9 := by rw [hw9]; exact (Below.refl _ _).alloc (Nat.le_refl _) _
  have V9 := hide (V8.out.below N9)
  have R9 := hide (R8.out.below N9)
  have Y9 := hide (Y8.out.below N9 Y8.out.lt)
  have X9 := hide (BF.out _ _ _ V9.out).1
  rw [← hw9]
  clear N9 hw9 V8 R8 Y8
  have SF := hide (fun W (h : Below w9.heap.size w9 W) => And.intro (su_there (X9.out.below h X9.out.lt)).1 (And.intro (su_there (Y9.out.below h Y9.out.lt)).1 (conv_back (c := 256) (n := 256) (R9.out.below h) hXl)))
  have RQ := hide (fun W (h : Below w9.heap.size w9 W) => from_base h (RP.out W))
  go_region_held3 (fun W => (W.cell? ⟨w.heap.size, 0, none⟩ = some (.int .i64 (ep : Int)) ∧ W.cell? ⟨w.heap.size, 1, none⟩ = some (.int .i64 (rt : Int)) ∧ W.cell? ⟨w.heap.size, 2, none⟩ = some (.int .i64 (fr : Int)) ∧ W.cell? ⟨w.heap.size, 3, none⟩ = some (.int .i64 (pg : Int))) ∧
      (W.cell? ⟨q, 0, none⟩ = some (.int .i64 (ep : Int)) ∧ W.cell? ⟨q, 1, none⟩ = some (.int .i64 (rt : Int)) ∧ W.cell? ⟨q, 2, none⟩ = some (.int .i64 (fr : Int)) ∧ W.cell? ⟨q, 3, none⟩ = some (.int .i64 (pg : Int))) ∧
      (convert 28 9 (.slice (some ⟨b, 0, none⟩) 256 256)).run Try.prog W = .ok (.string (strOf X)) W)
    (first
      | exact SF.out _ (Below.refl _ _).drew
      | exact SF.out _ B10.out)
    (first
      | (go_at_call 30; refine (RQ.out _ (Below.refl _ _).drew).mono ?_; rintro e W ⟨rfl, hbW⟩; have B10 := hide hbW; clear hbW))
  all_goals (
    go_wp2_with fail
    go_ret
    exact ⟨rfl, (BF.out _ _ _ V9.out).2.trans (B10.out.mono (BF.out _ _ _ V9.out).2.size)⟩)

theorem superPuts_walk {w : World} (v0 : Value) (x0 : Su) (f0 : Sup v0 x0) :
    Calls Try.prog 18 #[v0] w fun e w' => e = .returned (.bool true) ∧ Below w.heap.size w w' := by
  obtain ⟨rfl, _⟩ := f0
  by_cases hc : checkB x0 = true
  · exact superPuts_ok x0 hc
  · exact superPuts_no x0 (by simpa using hc)
end Go.Proofs.Ytljfomgcoodjkaa
