/- The chapter's awake: what its example fixes is true. -/
import Derived.Test.YtljfomgcoodjkaaSLaw
namespace Go.Proofs.Ytljfomgcoodjkaa
open Go.RowKit

theorem pick_both {x y : Su} {v : Value} {er : Int} (hx : checkB x = true) (hy : checkB y = true) (h0 : x.ep % 2 = 0) (h1 : y.ep % 2 = 1) (h : PickEnd (bytesSu x) (bytesSu y) v er) : v = suV (if y.ep < x.ep then x else y) ∧ er = 0 := by
  rcases h with ⟨h, _⟩ | ⟨_, _, h, _⟩ | ⟨_, h, _⟩ | ⟨x', y', k1, k2, k3, k4⟩
  · exact (no_not (is_su hx h0.symm) h).elim
  · exact (no_not (is_su hy h1.symm) h).elim
  · exact (no_not (is_su hx h0.symm) h).elim
  · rw [is_one hx k1, is_one hy k2] at k3
    exact ⟨k3, k4⟩
theorem pick_left {x : Su} {ys : List UInt8} {v : Value} {er : Int} (hx : checkB x = true) (h0 : x.ep % 2 = 0) (hn : NoSu ys 1) (h : PickEnd (bytesSu x) ys v er) : v = suV x ∧ er = 0 := by
  rcases h with ⟨h, _⟩ | ⟨x', k1, _, k3, k4⟩ | ⟨_, h, _⟩ | ⟨x', y', k1, k2, k3, k4⟩
  · exact (no_not (is_su hx h0.symm) h).elim
  · rw [is_one hx k1] at k3; exact ⟨k3, k4⟩
  · exact (no_not (is_su hx h0.symm) h).elim
  · exact (no_not k2 hn).elim
theorem pick_right {y : Su} {xs : List UInt8} {v : Value} {er : Int} (hy : checkB y = true) (h1 : y.ep % 2 = 1) (hn : NoSu xs 0) (h : PickEnd xs (bytesSu y) v er) : v = suV y ∧ er = 0 := by
  rcases h with ⟨_, h, _⟩ | ⟨x', k1, _, k3, k4⟩ | ⟨y', _, k2, k3, k4⟩ | ⟨x', y', k1, k2, k3, k4⟩
  · exact (no_not (is_su hy h1.symm) h).elim
  · exact (no_not k1 hn).elim
  · rw [is_one hy k2] at k3; exact ⟨k3, k4⟩
  · exact (no_not k1 hn).elim
theorem pick_none {xs ys : List UInt8} {v : Value} {er : Int} (hx : NoSu xs 0) (hy : NoSu ys 1) (h : PickEnd xs ys v er) : v = suV ⟨0, 0, 0, 0⟩ ∧ er = 70 := by
  rcases h with ⟨_, _, h, h2⟩ | ⟨x', k1, _⟩ | ⟨y', _, k2, _⟩ | ⟨x', y', k1, k2, k3, k4⟩
  · exact ⟨h, h2⟩
  · exact (no_not k1 hx).elim
  · exact (no_not k2 hy).elim
  · exact (no_not k1 hx).elim
theorem su_first {x : Su} (h : checkB x = true) : (bytesSu x).getD 0 0 = 9 := by
  obtain ⟨ep, rt, fr, pg, rfl, h1, _⟩ := check_nat h
  have := (page_head 9 (ep % 2) ep 0 [strOf (cellTo rt fr pg 3)] (by omega) (by simp) (by omega) (by omega) (by omega)).1
  rw [bytes_su, ← UInt8.toNat_inj]
  exact this

theorem Row.other_set {w : World} {b bb i : Nat} {xs : List UInt8} (h : Row w b 0 xs) (hne : bb ≠ b) (v : Value) : Row (w.setCell ⟨bb, i, none⟩ v) b 0 xs := fun j hj => by
  rw [World.cell?_setCell_other _ _ _ _ (by intro e; injection e with e; exact hne e)]; exact h j hj
theorem su7x : checkB ⟨4, 3, 0, 9⟩ = true := by decide
theorem su7y : checkB ⟨5, 5, 6, 10⟩ = true := by decide

set_option maxRecDepth 100000 in
set_option maxHeartbeats 1600000 in
theorem awake7 (w : World) : Calls Try.prog 28 #[] w fun e w' => e = .returned (.bool true) ∧ Below w.heap.size w w' := by
  have hXl := su_len su7x
  have hYl := su_len su7y
  have hY0 := su_first su7y
  have P1 := hide (fun v er h => pick_both (v := v) (er := er) su7x su7y (by rfl) (by rfl) h)
  have P2 := hide (fun v er h => pick_left (v := v) (er := er) su7x (by rfl) (no_turned (x := ⟨5, 5, 6, 10⟩) (p := 0) (c := 10) su7y (by omega) (by rw [hY0]; decide)) h)
  have PX := hide (fun g m W (h : SumAt W g m) => sput_ok g m ⟨4, 3, 0, 9⟩ W h su7x)
  have PY := hide (fun g m W (h : SumAt W g m) => sput_ok g m ⟨5, 5, 6, 10⟩ W h su7y)
  have NX := hide (fun W => next_any ⟨4, 3, 0, 9⟩ 5 6 10 W (by decide) (by decide))
  have CX := hide (fun W => check_any ⟨4, 3, 0, 9⟩ W)
  rw [su7x] at CX
  obtain ⟨X, hX⟩ : ∃ X, X = bytesSu ⟨4, 3, 0, 9⟩ := ⟨_, rfl⟩
  obtain ⟨Y, hY⟩ : ∃ Y, Y = bytesSu ⟨5, 5, 6, 10⟩ := ⟨_, rfl⟩
  rw [← hX] at hXl P1 P2 PX
  rw [← hY] at hYl hY0 P1 P2 PY
  clear hX hY
  go_enter Try.func28, Try.ntmps28
  go_wp2_with fail
  refine (new_any _).mono ?_
  rintro e w1 ⟨g, rfl, hu⟩
  have V1 := hide hu
  clear hu
  go_upto_region 5 with fail
  obtain ⟨w2, hw2⟩ : ∃ w2, w2 = w1.alloc (.cells #[.int .i64 4, .int .i64 3, .int .i64 0, .int .i64 9] 41) := ⟨_, rfl⟩
  have N2 : Below w1.heap.size w1 w2 := by rw [hw2]; exact (Below.refl _ _).alloc (Nat.le_refl _) _
  have X2' : Blk w2 w1.heap.size 41 #[.int .i64 4, .int .i64 3, .int .i64 0, .int .i64 9] := by rw [hw2]; exact Blk.new _ _ _
  obtain ⟨q, hq⟩ : ∃ q, q = w1.heap.size := ⟨_, rfl⟩
  have HQ := hide (show g < q by rw [hq]; exact V1.out.1.lt)
  rw [← hq] at X2'
  have X2 := hide X2'
  have V2 := hide (V1.out.below N2)
  rw [← hw2, ← hq]
  clear N2 X2' hw2 hq V1
  clear w1
  obtain ⟨⟨x0, x1, x2, x3⟩, _⟩ := su_there X2.out
  go_wp2_with fail
  refine (PX.out g 0 w2 V2.out.1).mono ?_
  rintro e w3 ⟨ba, rfl, hbn, hbuf, ⟨m3, hs3⟩, hg3⟩
  have V3 := hide (V2.out.grown hs3 hg3)
  have A3 := hide hbuf.row
  have hag : ba ≠ g := by have := V2.out.1.lt; omega
  have X3 := hide (X2.out.grown hg3 (fun e => by have := HQ.out; injection e; omega))
  clear hbn hbuf hs3 hg3 x0 x1 x2 x3 V2 X2 PX
  obtain ⟨⟨x0, x1, x2, x3⟩, _⟩ := su_there X3.out
  rw [show ((⟨4, 3, 0, 9⟩ : Su).ep % 2) = 0 from rfl]
  go_wp2_with fail
  refine (NX.out w3).mono ?_
  rintro e w4 ⟨rfl, hb4⟩
  have V4 := hide (V3.out.below hb4)
  have A4 := hide (A3.out.below hb4)
  have X4 := hide (X3.out.below hb4 X3.out.lt)
  clear hb4 x0 x1 x2 x3 V3 A3 X3 NX
  rw [show suV ⟨(⟨4, 3, 0, 9⟩ : Su).ep + 1, 5, 6, 10⟩ = .agg #[.int .i64 5, .int .i64 5, .int .i64 6, .int .i64 10] from rfl]
  go_upto_region 7 with fail
  obtain ⟨w5, hw5⟩ : ∃ w5, w5 = w4.alloc (.cells #[.int .i64 5, .int .i64 5, .int .i64 6, .int .i64 10] 41) := ⟨_, rfl⟩
  have N5 : Below w4.heap.size w4 w5 := by rw [hw5]; exact (Below.refl _ _).alloc (Nat.le_refl _) _
  have Y5' : Blk w5 w4.heap.size 41 #[.int .i64 5, .int .i64 5, .int .i64 6, .int .i64 10] := by rw [hw5]; exact Blk.new _ _ _
  obtain ⟨q2, hq2⟩ : ∃ q, q = w4.heap.size := ⟨_, rfl⟩
  have HQ2 := hide (show g < q2 by rw [hq2]; exact V4.out.1.lt)
  rw [← hq2] at Y5'
  have Y5 := hide Y5'
  have V5 := hide (V4.out.below N5)
  have A5 := hide (A4.out.below N5)
  have X5 := hide (X4.out.below N5 X4.out.lt)
  rw [← hw5, ← hq2]
  clear N5 Y5' hw5 hq2 V4 A4 X4
  obtain ⟨⟨y0, y1, y2, y3⟩, _⟩ := su_there Y5.out
  go_wp2_with fail
  refine (PY.out g m3 w5 V5.out.1).mono ?_
  rintro e w6 ⟨bb, rfl, hbn, hbuf, ⟨m6, hs6⟩, hg6⟩
  have V6 := hide (V5.out.grown hs6 hg6)
  have A6 := hide (A5.out.grown hg6 hag)
  have B6 := hide hbuf
  have hbg : bb ≠ g := by have := V5.out.1.lt; omega
  have hnew : w.heap.size ≤ bb := by have := V5.out.2.2.2; omega
  have X6 := hide (X5.out.grown hg6 (fun e => by have := HQ.out; injection e; omega))
  have Y6 := hide (Y5.out.grown hg6 (fun e => by have := HQ2.out; injection e; omega))
  have hab : bb ≠ ba := by have := A5.out 0 (by omega); have := World.block_lt_of_cell? w5 _ this; simp at this; omega
  have hbq : q ≠ bb := by have := X5.out.lt; omega
  have hbq2 : q2 ≠ bb := by have := Y5.out.lt; omega
  clear hbn hbuf hs6 hg6 y0 y1 y2 y3 V5 A5 X5 Y5 PY
  rw [show ((⟨5, 5, 6, 10⟩ : Su).ep % 2) = 1 from rfl]
  have PK := hide (pick_any g ba 256 bb 256 m6 X Y w6 V6.out.1 A6.out B6.out.row hXl hYl hag hbg (by omega) (by omega))
  go_wp2_with fail
  refine PK.out.mono ?_
  rintro e w7 ⟨v, er, rfl, hpe, ⟨m7, hs7⟩, hg7⟩
  obtain ⟨hv, rfl⟩ := P1.out _ _ hpe
  rw [show suV (if (⟨5, 5, 6, 10⟩ : Su).ep < (⟨4, 3, 0, 9⟩ : Su).ep then ⟨4, 3, 0, 9⟩ else ⟨5, 5, 6, 10⟩) = .agg #[.int .i64 5, .int .i64 5, .int .i64 6, .int .i64 10] from rfl] at hv
  subst hv
  have V7 := hide (V6.out.grown hs7 hg7)
  have A7 := hide (A6.out.grown hg7 hag)
  have B7 := hide (B6.out.grown hg7 hbg)
  have X7 := hide (X6.out.grown hg7 (fun e => by have := HQ.out; injection e; omega))
  have Y7 := hide (Y6.out.grown hg7 (fun e => by have := HQ2.out; injection e; omega))
  clear hpe hs7 hg7 P1 V6 A6 B6 X6 Y6 PK
  go_upto_region 9 with fail
  obtain ⟨w8, hw8⟩ : ∃ w8, w8 = w7.alloc (.cells #[.int .i64 5, .int .i64 5, .int .i64 6, .int .i64 10] 41) := ⟨_, rfl⟩
  have N8 : Below w7.heap.size w7 w8 := by rw [hw8]; exact (Below.refl _ _).alloc (Nat.le_refl _) _
  have Z8' : Blk w8 w7.heap.size 41 #[.int .i64 5, .int .i64 5, .int .i64 6, .int .i64 10] := by rw [hw8]; exact Blk.new _ _ _
  obtain ⟨q3, hq3⟩ : ∃ q, q = w7.heap.size := ⟨_, rfl⟩
  rw [← hq3] at Z8'
  have V8 := hide (V7.out.below N8)
  have A8 := hide (A7.out.below N8)
  have B8 := hide (B7.out.below N8)
  have X8 := hide (X7.out.below N8 X7.out.lt)
  have Y8 := hide (Y7.out.below N8 Y7.out.lt)
  rw [← hw8, ← hq3]
  clear N8 hw8 hq3 V7 A7 B7 X7 Y7
  obtain ⟨⟨z0, z1, z2, z3⟩, _⟩ := su_there Z8'
  obtain ⟨⟨y0, y1, y2, y3⟩, _⟩ := su_there Y8.out
  clear Z8'
  have b0 : w8.cell? ⟨bb, 0, none⟩ = some (.int .u8 9) := by
    have h := B8.out.cell (k := 0) (by omega)
    have e : Y[0] = 9 := by
      rw [List.getD_eq_getElem?_getD, List.getElem?_eq_getElem (by omega)] at hY0
      exact hY0
    rw [e] at h
    exact h
  have f0 := B8.out.loose 0 (by omega)
  have HY0 := hide hY0
  clear hY0
  go_upto_region 12 with fail
  obtain ⟨w9, hw9⟩ : ∃ w9, w9 = w8.setCell ⟨bb, 0, none⟩ (.int .u8 10) := ⟨_, rfl⟩
  have V9 : Und w.heap.size w w9 g m7 := by rw [hw9]; exact V8.out.setCell hnew (Ne.symm hbg) _
  have A9 : Row w9 ba 0 X := by rw [hw9]; exact A8.out.other_set hab _
  have B9 : Row w9 bb 0 (Y.set 0 10) := by rw [hw9]; exact (B8.out.set (k := 0) (by omega) 10).row
  have X9 : Blk w9 q 41 #[.int .i64 4, .int .i64 3, .int .i64 0, .int .i64 9] := by rw [hw9]; exact X8.out.far hbq _
  have Y9 : Blk w9 q2 41 #[.int .i64 5, .int .i64 5, .int .i64 6, .int .i64 10] := by rw [hw9]; exact Y8.out.far hbq2 _
  rw [← hw9]
  have PK := hide (pick_any g ba 256 bb 256 m7 X (Y.set 0 10) w9 V9.1 A9 B9 hXl (by rw [List.length_set]; exact hYl) hag hbg (by omega) (by omega))
  have V9' := hide V9
  have X9' := hide X9
  have Y9' := hide Y9
  clear V9 A9 B9 X9 Y9 hw9 V8 A8 B8 X8 Y8 z0 z1 z2 z3 y0 y1 y2 y3 b0 f0
  go_wp2_with fail
  refine PK.out.mono ?_
  rintro e w10 ⟨v, er, rfl, hpe, ⟨m10, hs10⟩, hg10⟩
  obtain ⟨hv, rfl⟩ := P2.out _ _ hpe
  rw [show suV ⟨4, 3, 0, 9⟩ = .agg #[.int .i64 4, .int .i64 3, .int .i64 0, .int .i64 9] from rfl] at hv
  subst hv
  have V10 := hide (V9'.out.grown hs10 hg10)
  have X10 := hide (X9'.out.grown hg10 (fun e => by have := HQ.out; injection e; omega))
  have Y10 := hide (Y9'.out.grown hg10 (fun e => by have := HQ2.out; injection e; omega))
  clear hpe hs10 hg10 P2 V9' X9' Y9' PK
  go_upto_region 13 with fail
  obtain ⟨w11, hw11⟩ : ∃ w11, w11 = w10.alloc (.cells #[.int .i64 4, .int .i64 3, .int .i64 0, .int .i64 9] 41) := ⟨_, rfl⟩
  have N11 : Below w10.heap.size w10 w11 := by rw [hw11]; exact (Below.refl _ _).alloc (Nat.le_refl _) _
  have Z11 : Blk w11 w10.heap.size 41 #[.int .i64 4, .int .i64 3, .int .i64 0, .int .i64 9] := by rw [hw11]; exact Blk.new _ _ _
  obtain ⟨q4, hq4⟩ : ∃ q, q = w10.heap.size := ⟨_, rfl⟩
  rw [← hq4] at Z11
  have V11 := hide (V10.out.below N11)
  obtain ⟨⟨x0, x1, x2, x3⟩, _⟩ := su_there (X10.out.below N11 X10.out.lt)
  obtain ⟨⟨y0, y1, y2, y3⟩, _⟩ := su_there (Y10.out.below N11 Y10.out.lt)
  obtain ⟨⟨z0, z1, z2, z3⟩, _⟩ := su_there Z11
  rw [← hw11, ← hq4]
  clear N11 hw11 hq4 Z11 V10 X10 Y10
  unfold suV at CX
  go_wp2_with fail
  refine (CX.out w11).mono ?_
  rintro e w12 ⟨rfl, hb⟩
  have V12 := hide (V11.out.below hb)
  clear hb
  go_wp2_with fail
  go_ret
  exact ⟨rfl, V12.out.2.1⟩
end Go.Proofs.Ytljfomgcoodjkaa
