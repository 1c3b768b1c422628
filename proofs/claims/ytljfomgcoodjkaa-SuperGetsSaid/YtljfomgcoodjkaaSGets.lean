/- A super that is got of any page has this page: the law's walk. -/
import Derived.Test.YtljfomgcoodjkaaSPuts
namespace Go.Proofs.Ytljfomgcoodjkaa
open Go.RowKit

set_option maxRecDepth 100000 in
set_option maxHeartbeats 1600000 in
theorem superGets_walk {w : World} (x0 : Int) (_f0 : -9223372036854775808 ≤ x0) (_g0 : x0 ≤ 9223372036854775807) (v1 : Value) (x1 : Pg) (f1 : Page w v1 x1) :
    Calls Try.prog 19 #[.int .i64 x0, v1] w fun e w' => e = .returned (.bool true) ∧ Below w.heap.size w w' := by
  obtain ⟨A0, c0, rfl⟩ := f1.open_
  have hln : x1.cells.length ≤ 9223372036854775807 := by
    obtain ⟨_, hcv, ⟨_, _, rfl, hle, hm, _⟩, _⟩ := id f1
    unfold maxLen at hm
    omega
  have BF0 := fun (w' : World) (g : Nat) (m : Int) V => box_facts (w' := w') (g := g) (m := m) f1 V
  obtain ⟨wb, hwb⟩ : ∃ wb, wb = w.alloc (.cells #[.int .i64 x1.kd, .int .i64 x1.no, .int .i64 x1.ep, .int .i64 x1.lk, .slice A0 x1.cells.length c0] 58) := ⟨_, rfl⟩
  rw [← hwb] at BF0
  have BF := hide BF0
  clear BF0 f1
  go_enter Try.func19, Try.ntmps19
  go_upto_region 1 with fail
  rw [← hwb]
  clear hwb
  go_wp2_with fail
  refine (new_any _).mono ?_
  rintro e w1 ⟨g, rfl, hu⟩
  have V1 := hide hu
  clear hu
  go_wp2_with fail
  refine (awake7 _).mono ?_
  rintro e w2 ⟨rfl, hb⟩
  have V2 := hide (V1.out.below hb)
  clear hb V1
  obtain ⟨PV2, _, BK2, _⟩ := BF.out _ _ _ V2.out
  obtain ⟨⟨a0, a1, a2, a3, a4⟩, _⟩ := page_cells BK2
  by_cases hl : x1.cells.length ≤ 100
  case neg =>
    have hli : (100 : Int) < (x1.cells.length : Int) := by omega
    clear PV2 BK2
    go_wp2_with fail
    refine (awake7 _).mono ?_
    rintro e w3 ⟨rfl, hb⟩
    have V3 := hide (V2.out.below hb)
    clear hb
    go_wp2_with fail
    go_ret
    exact ⟨rfl, (BF.out _ _ _ V3.out).2.2.2⟩
  have hli : (x1.cells.length : Int) ≤ 100 := by omega
  have PT := hide (ref_put_page g _ x1 w2 PV2 (by omega))
  clear PV2 BK2
  go_wp2_with fail
  refine PT.out.mono ?_
  rintro e w3 ⟨⟨s, er, rfl, hse⟩, hb⟩
  have V3 := hide (V2.out.below hb)
  clear hb V2 PT a0 a1 a2 a3 a4
  rcases hse with ⟨hok, rfl, hs⟩ | ⟨_, hne⟩
  rotate_left
  · have t1 := bne_yes hne
    clear hne
    go_wp2_with fail
    go_ret
    exact ⟨rfl, (BF.out _ _ _ V3.out).2.2.2⟩
  have hXl := bytes_len hok
  obtain ⟨hcr, hgd, _⟩ := bytes_back hok
  obtain ⟨X, hX⟩ : ∃ X, X = bytesPg x1 := ⟨_, rfl⟩
  rw [← hX] at hs hXl hcr hgd
  have hsz : s.size = 256 := by rw [hs, strOf_size]; exact hXl
  have hsd : s.data.toList = X := by rw [hs, strOf_data]
  have HS := hide hs
  have HCR := hide hcr
  have HGD := hide hgd
  clear hX hok hs hcr hgd
  go_wp2_with (with_reducible refine wpList_to_bytes rfl _ rfl _ rfl ?_; intro bb c w5 hby)
  rw [hsd] at hby
  have hc : 256 ≤ c := by have := hby.room; omega
  have hbg : bb ≠ g := by have := V3.out.1.lt; have := hby.new; omega
  have V5 := hide (V3.out.below hby.below)
  have R5 := hide hby.row
  clear hby V3
  refine (sget_any g bb c _ x0 X w5 V5.out.1 R5.out hXl hbg hc).mono ?_
  rintro e w6 ⟨v, er, rfl, hgot, ⟨m6, hs6⟩, hg6⟩
  have V6 := hide (V5.out.grown hs6 hg6)
  clear hs6 hg6 V5 R5
  rcases hgot with ⟨x, h1, h2, h3, rfl, rfl⟩ | ⟨_, _, rfl, h4⟩
  · have RC := hide (fun W => ref_check x W)
    rw [h1] at RC
    have RP := hide (fun W => ref_sput x W h1)
    rw [← h2, ← HS.out] at RP
    obtain ⟨ep, rt, fr, pg, rfl, l1, l2, l3, l4, l5⟩ := check_nat h1
    have h3' : x0 = (ep : Int) % 2 := h3
    have hand : (ep : Int).tmod 2 = x0 := by rw [h3']; rfl
    clear h1 h2 h3 h3' HCR HGD
    unfold suV at RC RP ⊢
    go_upto_region 8 with fail
    obtain ⟨w7, hw7⟩ : ∃ w7, w7 = w6.alloc (.cells #[.int .i64 (ep : Int), .int .i64 (rt : Int), .int .i64 (fr : Int), .int .i64 (pg : Int)] 41) := ⟨_, rfl⟩
    have N7 : Below w6.heap.size w6 w7 := by rw [hw7]; exact (Below.refl _ _).alloc (Nat.le_refl _) _
    have Y7' : Blk w7 w6.heap.size 41 #[.int .i64 (ep : Int), .int .i64 (rt : Int), .int .i64 (fr : Int), .int .i64 (pg : Int)] := by rw [hw7]; exact Blk.new _ _ _
    obtain ⟨q, hq⟩ : ∃ q, q = w6.heap.size := ⟨_, rfl⟩
    rw [← hq] at Y7'
    have Y7 := hide Y7'
    have V7 := hide (V6.out.below N7)
    rw [← hw7, ← hq]
    clear N7 Y7' hw7 hq V6
    obtain ⟨⟨y0, y1, y2, y3⟩, _⟩ := su_there Y7.out
    go_wp2_with fail
    refine (RC.out w7).mono ?_
    rintro e w8 ⟨rfl, hb⟩
    have V8 := hide (V7.out.below hb)
    have Y8 := hide (Y7.out.below hb Y7.out.lt)
    clear hb V7 Y7 y0 y1 y2 y3
    obtain ⟨⟨y0, y1, y2, y3⟩, _⟩ := su_there Y8.out
    go_wp2_with fail
    refine (RP.out w8).mono ?_
    rintro e w9 ⟨rfl, hb⟩
    have V9 := hide (V8.out.below hb)
    have Y9 := hide (Y8.out.below hb Y8.out.lt)
    clear hb V8 Y8 y0 y1 y2 y3
    obtain ⟨⟨y0, y1, y2, y3⟩, _⟩ := su_there Y9.out
    go_wp2_with fail
    go_ret
    exact ⟨rfl, (BF.out _ _ _ V9.out).2.2.2⟩
  · obtain rfl := h4 HGD.out HCR.out
    clear h4
    unfold suV
    go_upto_region 8 with fail
    obtain ⟨w7, hw7⟩ : ∃ w7, w7 = w6.alloc (.cells #[.int .i64 0, .int .i64 0, .int .i64 0, .int .i64 0] 41) := ⟨_, rfl⟩
    have N7 : Below w6.heap.size w6 w7 := by rw [hw7]; exact (Below.refl _ _).alloc (Nat.le_refl _) _
    have Y7' : Blk w7 w6.heap.size 41 #[.int .i64 0, .int .i64 0, .int .i64 0, .int .i64 0] := by rw [hw7]; exact Blk.new _ _ _
    obtain ⟨q, hq⟩ : ∃ q, q = w6.heap.size := ⟨_, rfl⟩
    rw [← hq] at Y7'
    have V7 := hide (V6.out.below N7)
    rw [← hw7, ← hq]
    clear N7 hw7 hq V6
    obtain ⟨⟨y0, y1, y2, y3⟩, _⟩ := su_there Y7'
    go_wp2_with fail
    go_ret
    exact ⟨rfl, (BF.out _ _ _ V7.out).2.2.2⟩
end Go.Proofs.Ytljfomgcoodjkaa
