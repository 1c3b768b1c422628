/- Any page is the document's bytes, and itself again, or may not be: the law's walk. -/
import Derived.Test.YtljfomgcoodjkaaPSame
import Derived.Test.YtljfomgcoodjkaaRefPut
import Derived.BigQuiet
namespace Go.Proofs.Ytljfomgcoodjkaa
open Go.RowKit

/-- What stays of a page in its box, behind all that leaves the old blocks as they are. -/
theorem box_facts {w w' : World} {p : Pg} {g : Nat} {m : Int} {A : Option Addr} {c : Nat} (f : Page w (.agg #[.int .i64 p.kd, .int .i64 p.no, .int .i64 p.ep, .int .i64 p.lk, .slice A p.cells.length c]) p)
    (V : Und (w.alloc (.cells #[.int .i64 p.kd, .int .i64 p.no, .int .i64 p.ep, .int .i64 p.lk, .slice A p.cells.length c] 58)).heap.size (w.alloc (.cells #[.int .i64 p.kd, .int .i64 p.no, .int .i64 p.ep, .int .i64 p.lk, .slice A p.cells.length c] 58)) w' g m) :
    PV w' g (.agg #[.int .i64 p.kd, .int .i64 p.no, .int .i64 p.ep, .int .i64 p.lk, .slice A p.cells.length c]) p ∧ RS w' g (.slice A p.cells.length c) p.cells ∧
      Blk w' w.heap.size 58 #[.int .i64 p.kd, .int .i64 p.no, .int .i64 p.ep, .int .i64 p.lk, .slice A p.cells.length c] ∧ Below w.heap.size w w' := by
  obtain ⟨V1, V2, V3, V4⟩ := V
  have hb : Below w.heap.size w w' := Below.box (by simpa using V2)
  rw [World.size_alloc] at V3
  have P := f.PV rfl hb (Nat.le_trans (Nat.le_succ _) V3)
  refine ⟨P, ?_, (Blk.new w 58 _).below V2 (by simp), hb⟩
  obtain ⟨cv, hcv, hr⟩ := P
  have e : cv = .slice A p.cells.length c := by
    have := congrArg (fun v => match v with | .agg cs => cs[4]? | _ => none) hcv
    simpa using this.symm
  rw [e] at hr
  exact hr
theorem four_quiet {g n : Nat} {v : Value} {ss : List ByteArray} {w : World} (h : RS w g v ss) (hl : ss.length ≤ 300) (hs : ∀ s ∈ ss, s.size ≤ 300) :
    (Calls Try.prog 38 #[v] (w.drewN n) fun e w' => e = .returned (.int .i64 (room ss : Nat)) ∧ w' = w.drewN n) ∧ (Calls Try.prog 39 #[v] (w.drewN n) fun e w' => e = .returned (.int .i64 (room ss : Nat)) ∧ w' = w.drewN n) ∧
      (Calls Try.prog 40 #[v] (w.drewN n) fun e w' => e = .returned (.bool (fitsB ss)) ∧ w' = w.drewN n) ∧ (Calls Try.prog 41 #[v] (w.drewN n) fun e w' => e = .returned (.bool (fitsB ss)) ∧ w' = w.drewN n) :=
  ⟨(room_any g v ss (w.drewN n) h hl hs).mono fun _ _ h => ⟨h.1, h.2.symm⟩, (ref_room g v ss (w.drewN n) h hl hs).mono fun _ _ h => ⟨h.1, h.2.symm⟩, (fits_any g v ss (w.drewN n) h hl hs).mono fun _ _ h => ⟨h.1, h.2.symm⟩, (ref_fits g v ss (w.drewN n) h hl).mono fun _ _ h => ⟨h.1, h.2.symm⟩⟩
theorem below_drewN {B : Nat} {a w : World} (h : Below B a w) (n : Nat) : Below B a (w.drewN n) := ⟨h.os, h.tape, h.output, h.size, h.block⟩
theorem und_drewN {B : Nat} {w0 w : World} {g : Nat} {m : Int} (h : Und B w0 w g m) (n : Nat) : Und B w0 (w.drewN n) g m := ⟨h.1.drewN n, below_drewN h.2.1 n, h.2.2.1, h.2.2.2⟩
theorem conv_nil (w : World) : (convert 28 9 (.slice none 0 0)).run Try.prog w = .ok (.string (strOf [])) w := by kernel_rfl

set_option maxRecDepth 100000 in
set_option maxHeartbeats 1600000 in
theorem pagePuts_walk {w : World} (v0 : Value) (x0 : Pg) (f0 : Page w v0 x0) :
    Calls Try.prog 11 #[v0] w fun e w' => e = .returned (.bool true) ∧ Below w.heap.size w w' := by
  obtain ⟨A0, c0, rfl⟩ := f0.open_
  have BF0 := fun (w' : World) (g : Nat) (m : Int) V => box_facts (w' := w') (g := g) (m := m) f0 V
  obtain ⟨wb, hwb⟩ : ∃ wb, wb = w.alloc (.cells #[.int .i64 x0.kd, .int .i64 x0.no, .int .i64 x0.ep, .int .i64 x0.lk, .slice A0 x0.cells.length c0] 58) := ⟨_, rfl⟩
  rw [← hwb] at BF0
  have BF := hide BF0
  clear BF0
  clear f0
  go_enter Try.func11, Try.ntmps11
  go_upto_region 1 with fail
  rw [← hwb]
  clear hwb
  go_wp2_with fail
  refine (new_any _).mono ?_
  rintro e w1 ⟨g, rfl, hu⟩
  have V1 := hide hu
  clear hu
  go_wp2_with fail
  refine (awake4 _).mono ?_
  rintro e w2 ⟨rfl, hb⟩
  have V2 := hide (V1.out.below hb)
  clear hb V1
  obtain ⟨PV2, RS2, BK2, _⟩ := BF.out _ _ _ V2.out
  obtain ⟨⟨a0, a1, a2, a3, a4⟩, _⟩ := page_cells BK2
  have FW := few_page g _ x0 w2 PV2
  by_cases hf : fewB x0.cells = true
  case neg =>
    rw [show fewB x0.cells = false by simpa using hf] at FW
    have FW' := hide FW
    clear FW hf PV2 RS2 BK2
    go_wp2_with fail
    refine FW'.out.mono ?_
    rintro e w3 ⟨rfl, hb⟩
    have V3 := hide (V2.out.below hb)
    clear hb
    go_wp2_with fail
    refine (awake4 _).mono ?_
    rintro e w4 ⟨rfl, hb⟩
    have V4 := hide (V3.out.below hb)
    clear hb
    go_wp2_with fail
    go_ret
    exact ⟨rfl, (BF.out _ _ _ V4.out).2.2.2⟩
  obtain ⟨hs, hl⟩ := (few_iff _).1 hf
  rw [hf] at FW
  have FW' := hide FW
  have HS := hide hs
  clear FW hf PV2 RS2 BK2 hs
  go_wp2_with fail
  refine FW'.out.mono ?_
  rintro e w3 ⟨rfl, hb⟩
  have V3 := hide (V2.out.below hb)
  clear hb V2 FW' a0 a1 a2 a3 a4
  obtain ⟨PV3, RS3, BK3, _⟩ := BF.out _ _ _ V3.out
  obtain ⟨⟨a0, a1, a2, a3, a4⟩, _⟩ := page_cells BK3
  by_cases hft : fitsB x0.cells = true
  case neg =>
    have hff : fitsB x0.cells = false := by simpa using hft
    have PT := hide (put_long g _ x0 w3 PV3 (by omega) HS.out hff)
    clear hft PV3 RS3 BK3
    go_wp2_with fail
    refine PT.out.mono ?_
    rintro e w4 ⟨rfl, hb⟩
    have V4 := hide (V3.out.below hb)
    clear hb V3 PT a0 a1 a2 a3 a4
    obtain ⟨PV4, RS4, BK4, _⟩ := BF.out _ _ _ V4.out
    obtain ⟨⟨a0, a1, a2, a3, a4⟩, _⟩ := page_cells BK4
    have RT := hide (ref_put_long g _ x0 w4 PV4 (by omega) hff)
    clear PV4 RS4 BK4
    go_wp2_with fail
    refine RT.out.mono ?_
    rintro e w5 ⟨rfl, hb⟩
    have V5 := hide (V4.out.below hb)
    clear hb V4 RT a0 a1 a2 a3 a4
    obtain ⟨PV5, RS5, BK5, _⟩ := BF.out _ _ _ V5.out
    obtain ⟨⟨a0, a1, a2, a3, a4⟩, _⟩ := page_cells BK5
    have cn := conv_nil
    have R5 := hide RS5
    clear RS5 PV5 BK5
    go_upto_region 6 with fail
    have QS := hide (fun n => four_quiet (n := n) R5.out (by omega) HS.out)
    go_quiet (first
      | (go_at_call 38; refine Calls.quiet_of_same (QS.out _).1)
      | (go_at_call 39; refine Calls.quiet_of_same (QS.out _).2.1)
      | (go_at_call 40; refine Calls.quiet_of_same (QS.out _).2.2.1)
      | (go_at_call 41; refine Calls.quiet_of_same (QS.out _).2.2.2))
    go_wp2_with fail
    go_ret
    exact ⟨rfl, below_drewN (BF.out _ _ _ V5.out).2.2.2 _⟩
  by_cases hfm : formB x0 = true
  case neg =>
    have PT := hide (put_form g _ x0 w3 PV3 (by omega) HS.out hft (by simpa using hfm))
    clear PV3 RS3 BK3
    go_wp2_with fail
    refine PT.out.mono ?_
    rintro e w4 ⟨rfl, hb⟩
    have V4 := hide (V3.out.below hb)
    clear hb V3 PT a0 a1 a2 a3 a4
    obtain ⟨PV4, RS4, BK4, _⟩ := BF.out _ _ _ V4.out
    obtain ⟨⟨a0, a1, a2, a3, a4⟩, _⟩ := page_cells BK4
    have RT := hide (ref_put_form g _ x0 w4 PV4 (by omega) hft (by simpa using hfm))
    clear PV4 RS4 BK4
    go_wp2_with fail
    refine RT.out.mono ?_
    rintro e w5 ⟨rfl, hb⟩
    have V5 := hide (V4.out.below hb)
    clear hb V4 RT a0 a1 a2 a3 a4
    obtain ⟨PV5, RS5, BK5, _⟩ := BF.out _ _ _ V5.out
    obtain ⟨⟨a0, a1, a2, a3, a4⟩, _⟩ := page_cells BK5
    have cn := conv_nil
    clear hft hfm
    have R5 := hide RS5
    clear RS5 PV5 BK5
    go_upto_region 6 with fail
    have QS := hide (fun n => four_quiet (n := n) R5.out (by omega) HS.out)
    go_quiet (first
      | (go_at_call 38; refine Calls.quiet_of_same (QS.out _).1)
      | (go_at_call 39; refine Calls.quiet_of_same (QS.out _).2.1)
      | (go_at_call 40; refine Calls.quiet_of_same (QS.out _).2.2.1)
      | (go_at_call 41; refine Calls.quiet_of_same (QS.out _).2.2.2))
    go_wp2_with fail
    go_ret
    exact ⟨rfl, below_drewN (BF.out _ _ _ V5.out).2.2.2 _⟩
  obtain ⟨kd, no, ep, lk, cs⟩ := x0
  obtain ⟨⟨f1, f2⟩, ⟨f3, f4⟩, ⟨f5, f6⟩, f7, f8⟩ := (form_iff _).1 hfm
  dsimp only at f1 f2 f3 f4 f5 f6 f7 f8 hl hft a0 a1 a2 a3 a4 PV3 RS3 BK3 HS BF
  obtain ⟨kd, rfl⟩ := Int.eq_ofNat_of_zero_le (show (0 : Int) ≤ kd by omega)
  obtain ⟨no, rfl⟩ := Int.eq_ofNat_of_zero_le f3
  obtain ⟨ep, rfl⟩ := Int.eq_ofNat_of_zero_le f5
  obtain ⟨lk, rfl⟩ := Int.eq_ofNat_of_zero_le f7
  have PT := hide (put_ok g 0 _ cs kd no ep lk w3 V3.out.1 PV3 hft (by omega) (by omega) (by omega) (by omega) (by omega))
  have RT0 := hide (fun w' (h : PV w' g (.agg #[.int .i64 (kd : Int), .int .i64 (no : Int), .int .i64 (ep : Int), .int .i64 (lk : Int), .slice A0 cs.length c0]) ⟨kd, no, ep, lk, cs⟩) => ref_put_ok g _ cs kd no ep lk w' h hft (by omega) (by omega) (by omega) (by omega) (by omega))
  have GT0 := hide (fun b m' w' (h1 : SumAt w' g m') h2 (h3 : b ≠ g) => get_own g b 256 m' kd no ep lk cs w' h1 h2 h3 (by omega) hft (by omega) (by omega) (by omega) (by omega) (by omega))
  have hxl := page_len kd no ep lk cs ((fits_iff _).1 hft).1
  obtain ⟨X, hX⟩ : ∃ X, X = pageOf kd no ep lk cs := ⟨_, rfl⟩
  rw [← hX] at PT RT0 GT0 hxl
  have HF := hide hft
  clear hX f1 f2 f3 f4 f5 f6 f7 f8 PV3 RS3 BK3 hfm hft
  go_wp2_with fail
  refine PT.out.mono ?_
  rintro e w4 ⟨b, rfl, hbn, hbuf, ⟨m4, hs4⟩, hg4⟩
  have V4 := hide (V3.out.grown hs4 hg4)
  have R4 := hide hbuf.row
  have hbg : b ≠ g := by have := V3.out.1.lt; omega
  clear hbn hbuf hs4 hg4 PT a0 a1 a2 a3 a4 V3
  obtain ⟨PV4, RS4, BK4, _⟩ := BF.out _ _ _ V4.out
  obtain ⟨⟨a0, a1, a2, a3, a4⟩, _⟩ := page_cells BK4
  have RT := hide (RT0.out _ PV4)
  clear PV4 RS4 BK4 RT0
  go_wp2_with fail
  refine RT.out.mono ?_
  rintro e w5 ⟨rfl, hb⟩
  have V5 := hide (V4.out.below hb)
  have R5 := hide (R4.out.below hb)
  clear hb V4 R4 RT a0 a1 a2 a3 a4
  obtain ⟨PV5, RS5, BK5, _⟩ := BF.out _ _ _ V5.out
  obtain ⟨⟨a0, a1, a2, a3, a4⟩, _⟩ := page_cells BK5
  have cn : ∀ n, (convert 28 9 (.slice (some ⟨b, 0, none⟩) 256 256)).run Try.prog (w5.drewN n) = .ok (.string (strOf X)) (w5.drewN n) := fun n => conv_back (w := w5.drewN n) R5.out hxl
  have T5 := hide RS5
  clear RS5 PV5 BK5
  go_upto_region 6 with fail
  have QS := hide (fun n => four_quiet (n := n) T5.out (by omega) HS.out)
  go_quiet (first
    | (go_at_call 38; refine Calls.quiet_of_same (QS.out _).1)
    | (go_at_call 39; refine Calls.quiet_of_same (QS.out _).2.1)
    | (go_at_call 40; refine Calls.quiet_of_same (QS.out _).2.2.1)
    | (go_at_call 41; refine Calls.quiet_of_same (QS.out _).2.2.2))
  have V6' := und_drewN V5.out nq
  have R6' : Row (w5.drewN nq) b 0 X := R5.out
  obtain ⟨wq, hwq⟩ : ∃ wq, wq = w5.drewN nq := ⟨_, rfl⟩
  rw [← hwq] at V6' R6' ⊢
  have V6 := hide V6'
  have R6 := hide R6'
  clear V6' R6' hwq cn QS T5 V5 R5 a0 a1 a2 a3 a4 hxl
  go_wp2_with fail
  refine (GT0.out b m4 wq V6.out.1 R6.out hbg).mono ?_
  rintro e w7 ⟨pv, rfl, hpv, ⟨m7, hs7⟩, hg7⟩
  obtain ⟨A, cc, rfl, hcv⟩ := PV.form hpv
  have V7 := hide (V6.out.grown hs7 hg7)
  have C7 := hide hcv
  clear hs7 hg7 hpv hcv GT0 V6 R6
  go_upto_region 11 with fail
  obtain ⟨w8, hw8⟩ : ∃ w8, w8 = w7.alloc (.cells #[.int .i64 (kd : Int), .int .i64 (no : Int), .int .i64 (ep : Int), .int .i64 (lk : Int), .slice A cs.length cc] 58) := ⟨_, rfl⟩
  have N8 : Below w7.heap.size w7 w8 := by rw [hw8]; exact (Below.refl _ _).alloc (Nat.le_refl _) _
  have Q8 : Blk w8 w7.heap.size 58 #[.int .i64 (kd : Int), .int .i64 (no : Int), .int .i64 (ep : Int), .int .i64 (lk : Int), .slice A cs.length cc] := by rw [hw8]; exact Blk.new _ _ _
  have V8 := hide (V7.out.below N8)
  obtain ⟨PV8, RS8, BK8, _⟩ := BF.out _ _ _ V8.out
  obtain ⟨⟨a0, a1, a2, a3, a4⟩, _⟩ := page_cells BK8
  obtain ⟨⟨q0, q1, q2, q3, q4⟩, _⟩ := page_cells Q8
  have SM0 := ref_same g g _ _ _ _ w8 PV8 (show PV w8 g (.agg #[.int .i64 (kd : Int), .int .i64 (no : Int), .int .i64 (ep : Int), .int .i64 (lk : Int), .slice A cs.length cc]) ⟨kd, no, ep, lk, cs⟩ from ⟨_, rfl, C7.out.below N8⟩)
  rw [sameB_refl] at SM0
  have SM := hide SM0
  rw [← hw8]
  clear PV8 RS8 BK8 N8 Q8 SM0 hw8 V7 C7
  go_wp2_with fail
  refine SM.out.mono ?_
  rintro e w9 ⟨rfl, hb⟩
  have V9 := hide (V8.out.below hb)
  clear hb
  go_wp2_with fail
  go_ret
  exact ⟨rfl, (BF.out _ _ _ V9.out).2.2.2⟩
end Go.Proofs.Ytljfomgcoodjkaa
