/- Two pages that are not the same are not the same bytes: the law's walk. -/
import Derived.Test.YtljfomgcoodjkaaPutAll
import Derived.Deep.RegionHeld3
import Derived.BigQuiet
namespace Go.Proofs.Ytljfomgcoodjkaa
open Go.RowKit

theorem box2_facts {w wb w' : World} {p q : Pg} {g : Nat} {m : Int} {A A' : Option Addr} {c c' : Nat} (f : Page w (.agg #[.int .i64 p.kd, .int .i64 p.no, .int .i64 p.ep, .int .i64 p.lk, .slice A p.cells.length c]) p)
    (f' : Page w (.agg #[.int .i64 q.kd, .int .i64 q.no, .int .i64 q.ep, .int .i64 q.lk, .slice A' q.cells.length c']) q)
    (hwb : wb = (w.alloc (.cells #[.int .i64 p.kd, .int .i64 p.no, .int .i64 p.ep, .int .i64 p.lk, .slice A p.cells.length c] 58)).alloc (.cells #[.int .i64 q.kd, .int .i64 q.no, .int .i64 q.ep, .int .i64 q.lk, .slice A' q.cells.length c'] 58)) (V : Und wb.heap.size wb w' g m) :
    PV w' g (.agg #[.int .i64 p.kd, .int .i64 p.no, .int .i64 p.ep, .int .i64 p.lk, .slice A p.cells.length c]) p ∧ PV w' g (.agg #[.int .i64 q.kd, .int .i64 q.no, .int .i64 q.ep, .int .i64 q.lk, .slice A' q.cells.length c']) q ∧
      Blk w' w.heap.size 58 #[.int .i64 p.kd, .int .i64 p.no, .int .i64 p.ep, .int .i64 p.lk, .slice A p.cells.length c] ∧ Blk w' (w.heap.size + 1) 58 #[.int .i64 q.kd, .int .i64 q.no, .int .i64 q.ep, .int .i64 q.lk, .slice A' q.cells.length c'] ∧
      Below w.heap.size w w' := by
  obtain ⟨V1, V2, V3, V4⟩ := V
  subst hwb
  have h0 : Below w.heap.size w ((w.alloc (.cells #[.int .i64 p.kd, .int .i64 p.no, .int .i64 p.ep, .int .i64 p.lk, .slice A p.cells.length c] 58)).alloc (.cells #[.int .i64 q.kd, .int .i64 q.no, .int .i64 q.ep, .int .i64 q.lk, .slice A' q.cells.length c'] 58)) :=
    ((Below.refl _ _).alloc (Nat.le_refl _) _).alloc (by simp) _
  have hb := h0.trans (V2.mono h0.size)
  have hg := Nat.le_trans h0.size V3
  have hy := Blk.new (w.alloc (.cells #[.int .i64 p.kd, .int .i64 p.no, .int .i64 p.ep, .int .i64 p.lk, .slice A p.cells.length c] 58)) 58 #[.int .i64 q.kd, .int .i64 q.no, .int .i64 q.ep, .int .i64 q.lk, .slice A' q.cells.length c']
  rw [World.size_alloc] at hy
  exact ⟨f.PV rfl hb hg, f'.PV rfl hb hg, ((Blk.new w 58 _).alloc _).below V2 (by simp; omega), hy.below V2 (by simp), hb⟩

theorem toList_str (xs ys : List UInt8) : ((strOf xs).toList == (strOf ys).toList) = decide (xs = ys) := by
  rw [ByteArray.toList_eq, ByteArray.toList_eq, strOf_data, strOf_data, Bool.eq_iff_iff]; simp

set_option maxRecDepth 100000 in
set_option maxHeartbeats 1600000 in
theorem pageApart_walk {w : World} (v0 : Value) (x0 : Pg) (f0 : Page w v0 x0) (v1 : Value) (x1 : Pg) (f1 : Page w v1 x1) :
    Calls Try.prog 16 #[v0, v1] w fun e w' => e = .returned (.bool true) ∧ Below w.heap.size w w' := by
  obtain ⟨A0, c0, rfl⟩ := f0.open_
  obtain ⟨A1, c1, rfl⟩ := f1.open_
  obtain ⟨wb, hwb⟩ : ∃ wb, wb = (w.alloc (.cells #[.int .i64 x0.kd, .int .i64 x0.no, .int .i64 x0.ep, .int .i64 x0.lk, .slice A0 x0.cells.length c0] 58)).alloc (.cells #[.int .i64 x1.kd, .int .i64 x1.no, .int .i64 x1.ep, .int .i64 x1.lk, .slice A1 x1.cells.length c1] 58) := ⟨_, rfl⟩
  have BF := hide (fun (w' : World) (g : Nat) (m : Int) V => box2_facts (w' := w') (g := g) (m := m) f0 f1 hwb V)
  clear f0 f1
  go_enter Try.func16, Try.ntmps16
  go_upto_region 1 with fail
  rw [← hwb]
  clear hwb
  go_wp2_with fail
  refine (new_any _).mono ?_
  rintro e w1 ⟨g, rfl, hu⟩
  have V1 := hide hu
  clear hu
  go_wp2_with fail
  refine (awake4 _).mono ?_
  rintro e w2 ⟨rfl, hb⟩
  have V2 := hide (V1.out.below hb)
  clear hb V1
  obtain ⟨PX2, PY2, BX2, BY2, _⟩ := BF.out _ _ _ V2.out
  obtain ⟨⟨a0, a1, a2, a3, a4⟩, _⟩ := page_cells BX2
  have FW := few_page g _ x0 w2 PX2
  by_cases hf0 : fewB x0.cells = true
  case neg =>
    rw [show fewB x0.cells = false by simpa using hf0] at FW
    have FW' := hide FW
    clear FW hf0 PX2 PY2 BX2 BY2
    go_wp2_with fail
    refine FW'.out.mono ?_
    rintro e w3 ⟨rfl, hb⟩
    have V3 := hide (V2.out.below hb)
    clear hb
    go_wp2_with fail
    refine (awake4 _).mono ?_
    rintro e w4 ⟨rfl, hb⟩
    have V4 := hide (V3.out.below hb)
    clear hb
    go_wp2_with fail
    go_ret
    exact ⟨rfl, (BF.out _ _ _ V4.out).2.2.2.2⟩
  rw [hf0] at FW
  have FW' := hide FW
  clear FW PX2 PY2 BX2 BY2
  go_wp2_with fail
  refine FW'.out.mono ?_
  rintro e w3 ⟨rfl, hb⟩
  have V3 := hide (V2.out.below hb)
  clear hb V2 FW' a0 a1 a2 a3 a4
  obtain ⟨PX3, PY3, BX3, BY3, _⟩ := BF.out _ _ _ V3.out
  obtain ⟨⟨b0, b1, b2, b3, b4⟩, _⟩ := page_cells BY3
  have FW := few_page g _ x1 w3 PY3
  by_cases hf1 : fewB x1.cells = true
  case neg =>
    rw [show fewB x1.cells = false by simpa using hf1] at FW
    have FW' := hide FW
    clear FW hf1 PX3 PY3 BX3 BY3
    go_wp2_with fail
    refine FW'.out.mono ?_
    rintro e w4 ⟨rfl, hb⟩
    have V4 := hide (V3.out.below hb)
    clear hb
    go_wp2_with fail
    refine (awake4 _).mono ?_
    rintro e w5 ⟨rfl, hb⟩
    have V5 := hide (V4.out.below hb)
    clear hb
    go_wp2_with fail
    go_ret
    exact ⟨rfl, (BF.out _ _ _ V5.out).2.2.2.2⟩
  rw [hf1] at FW
  have FW' := hide FW
  clear FW PX3 PY3 BX3 BY3
  go_wp2_with fail
  refine FW'.out.mono ?_
  rintro e w4 ⟨rfl, hb⟩
  have V4 := hide (V3.out.below hb)
  clear hb V3 FW' b0 b1 b2 b3 b4
  obtain ⟨PX4, PY4, BX4, BY4, _⟩ := BF.out _ _ _ V4.out
  obtain ⟨⟨a0, a1, a2, a3, a4⟩, _⟩ := page_cells BX4
  have PT := hide (put_page g 0 _ x0 w4 V4.out.1 PX4 hf0)
  clear PX4 PY4 BX4 BY4
  go_wp2_with fail
  refine PT.out.mono ?_
  rintro e w5 ⟨bv0, er0, rfl, hend0, ⟨m5, hs5⟩, hg5⟩
  have V5 := hide (V4.out.grown hs5 hg5)
  have E5 := hide hend0
  have S4 := hide V4.out.1.lt
  clear hs5 hg5 hend0 V4 PT a0 a1 a2 a3 a4
  obtain ⟨PX5, PY5, BX5, BY5, _⟩ := BF.out _ _ _ V5.out
  obtain ⟨⟨b0, b1, b2, b3, b4⟩, _⟩ := page_cells BY5
  have PT := hide (put_page g m5 _ x1 w5 V5.out.1 PY5 hf1)
  clear PX5 PY5 BX5 BY5 hf0 hf1
  go_wp2_with fail
  refine PT.out.mono ?_
  rintro e w6 ⟨bv1, er1, rfl, hend1, ⟨m6, hs6⟩, hg6⟩
  have V6 := hide (V5.out.grown hs6 hg6)
  have G6 := hide hg6
  have E6 := hide hend1
  have S5 := hide V5.out.1.lt
  clear hs6 hg6 hend1 V5 PT b0 b1 b2 b3 b4
  obtain ⟨PX6, PY6, BX6, BY6, _⟩ := BF.out _ _ _ V6.out
  obtain ⟨⟨a0, a1, a2, a3, a4⟩, _⟩ := page_cells BX6
  obtain ⟨⟨b0, b1, b2, b3, b4⟩, _⟩ := page_cells BY6
  go_upto_region 6 with fail
  rcases E5.out with ⟨_, _, hn0, _⟩ | ⟨ok0, rfl, bb0, rfl, hbn0, hbuf0⟩
  · have hn1 : er0 = 40 ∨ er0 = 41 := by rw [hn0]; split <;> omega
    clear PX6 PY6 BX6 BY6 a0 a1 a2 a3 a4 b0 b1 b2 b3 b4 hn0 E5
    rcases hn1 with rfl | rfl
    all_goals (
      go_quiet (fail)
      go_wp2_with fail
      go_ret
      exact ⟨rfl, below_drewN (BF.out _ _ _ V6.out).2.2.2.2 _⟩)
  · rcases E6.out with ⟨_, _, hn0, _⟩ | ⟨ok1, rfl, bb1, rfl, hbn1, hbuf1⟩
    · have hn1 : er1 = 40 ∨ er1 = 41 := by rw [hn0]; split <;> omega
      clear PX6 PY6 BX6 BY6 a0 a1 a2 a3 a4 b0 b1 b2 b3 b4 hbn0 hbuf0 hn0 E5 E6
      rcases hn1 with rfl | rfl
      all_goals (
        go_quiet (fail)
        go_wp2_with fail
        go_ret
        exact ⟨rfl, below_drewN (BF.out _ _ _ V6.out).2.2.2.2 _⟩)
    · have hr0 := hbuf0.row.grown G6.out (by have := S4.out; omega)
      have hr1 := hbuf1.row
      have SF := hide (fun W (h : Below w6.heap.size w6 W) => And.intro h (And.intro (page_cells (BX6.below h BX6.lt)).1 (And.intro (page_cells (BY6.below h BY6.lt)).1 (And.intro (conv_back (c := 256) (n := 256) (hr0.below h) (bytes_len ok0)) (conv_back (c := 256) (n := 256) (hr1.below h) (bytes_len ok1))))))
      have SM := hide (fun W (h : Below w6.heap.size w6 W) => from_base h (ref_same g g _ _ x0 x1 W (PX6.below h) (PY6.below h)))
      have hend : (((strOf (bytesPg x0)).toList == (strOf (bytesPg x1)).toList) == sameB x0 x1) = true := by
        rw [toList_str]
        have e2 := sameB_iff x0 x1
        by_cases h : x0 = x1
        · rw [decide_eq_true ((bytes_inj ok0 ok1).2 h), e2.2 h]; rfl
        · rw [decide_eq_false (fun k => h ((bytes_inj ok0 ok1).1 k)), show sameB x0 x1 = false by rw [← Bool.not_eq_true]; exact fun k => h (e2.1 k)]; rfl
      obtain ⟨X, hX⟩ : ∃ X, X = strOf (bytesPg x0) := ⟨_, rfl⟩
      obtain ⟨Y, hY⟩ : ∃ Y, Y = strOf (bytesPg x1) := ⟨_, rfl⟩
      obtain ⟨sm, hsm⟩ : ∃ sm, sm = sameB x0 x1 := ⟨_, rfl⟩
      rw [← hX, ← hY] at SF
      rw [← hX, ← hY, ← hsm] at hend
      rw [← hsm] at SM
      clear hX hY hsm PX6 PY6 BX6 BY6 a0 a1 a2 a3 a4 b0 b1 b2 b3 b4 hbn0 hbuf0 hbn1 hbuf1 hr0 hr1 ok0 ok1 E5 E6
      have HE := hide hend
      clear hend
      go_region_held3 (fun W => Below w6.heap.size w6 W ∧ (W.cell? ⟨w.heap.size, 0, none⟩ = some (.int .i64 x0.kd) ∧ W.cell? ⟨w.heap.size, 1, none⟩ = some (.int .i64 x0.no) ∧ W.cell? ⟨w.heap.size, 2, none⟩ = some (.int .i64 x0.ep) ∧ W.cell? ⟨w.heap.size, 3, none⟩ = some (.int .i64 x0.lk) ∧ W.cell? ⟨w.heap.size, 4, none⟩ = some (.slice A0 x0.cells.length c0)) ∧
          (W.cell? ⟨w.heap.size + 1, 0, none⟩ = some (.int .i64 x1.kd) ∧ W.cell? ⟨w.heap.size + 1, 1, none⟩ = some (.int .i64 x1.no) ∧ W.cell? ⟨w.heap.size + 1, 2, none⟩ = some (.int .i64 x1.ep) ∧ W.cell? ⟨w.heap.size + 1, 3, none⟩ = some (.int .i64 x1.lk) ∧ W.cell? ⟨w.heap.size + 1, 4, none⟩ = some (.slice A1 x1.cells.length c1)) ∧
          (convert 28 9 (.slice (some ⟨bb0, 0, none⟩) 256 256)).run Try.prog W = .ok (.string X) W ∧ (convert 28 9 (.slice (some ⟨bb1, 0, none⟩) 256 256)).run Try.prog W = .ok (.string Y) W)
        (first
          | exact SF.out _ (Below.refl _ _).drew
          | exact SF.out _ (by assumption))
        (first
          | (go_at_call 43; refine (SM.out _ (by go_split_ands; assumption)).mono ?_; rintro e W ⟨rfl, hbW⟩))
      go_wp2_with fail
      go_ret
      exact ⟨ret_b HE.out, (BF.out _ _ _ V6.out).2.2.2.2.trans ((show Below w6.heap.size w6 _ by go_split_ands; assumption).mono (BF.out _ _ _ V6.out).2.2.2.2.size)⟩
end Go.Proofs.Ytljfomgcoodjkaa
