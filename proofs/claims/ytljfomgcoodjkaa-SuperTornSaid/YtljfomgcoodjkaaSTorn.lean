/- Where a slot that is written anew is torn, there is a super still: the law's walk. -/
import Derived.Test.YtljfomgcoodjkaaSPicks
namespace Go.Proofs.Ytljfomgcoodjkaa
open Go.RowKit

theorem u8_and_one (n : Nat) (h : n ≤ 255) : bits .and .u8 (n : Int) 1 = ((n % 2 : Nat) : Int) := by
  have e : (BitVec.ofInt 8 (n : Int)).toNat = n := by rw [BitVec.ofInt_natCast, BitVec.toNat_ofNat]; exact Nat.mod_eq_of_lt (by omega)
  have e1 : (BitVec.ofInt 8 1).toNat = 1 := rfl
  show IntKind.u8.wrap ((BitVec.ofInt 8 (n : Int) &&& BitVec.ofInt 8 1).toNat : Int) = _
  rw [BitVec.toNat_and, e, e1, Nat.and_one_is_mod]
  have hw : IntKind.u8.wrap ((n % 2 : Nat) : Int) = ((n % 2 : Nat) : Int) := IntWalk.u8_in _ (by omega)
  exact hw
theorem sector_yes (s k : Nat) (hs : s ≤ 255) (h : s / 2 ^ k % 2 = 1) : (bits BinOp.and IntKind.u8 ((s : Int) / 2 ^ k) 1 == 1) = true := by
  have hl : s / 2 ^ k ≤ 255 := Nat.le_trans (Nat.div_le_self _ _) hs
  rw [show (s : Int) / 2 ^ k = ((s / 2 ^ k : Nat) : Int) by simp, u8_and_one _ hl, h]; rfl
theorem sector_no (s k : Nat) (hs : s ≤ 255) (h : ¬ s / 2 ^ k % 2 = 1) : (bits BinOp.and IntKind.u8 ((s : Int) / 2 ^ k) 1 == 1) = false := by
  have hl : s / 2 ^ k ≤ 255 := Nat.le_trans (Nat.div_le_self _ _) hs
  rw [show (s : Int) / 2 ^ k = ((s / 2 ^ k : Nat) : Int) by simp, u8_and_one _ hl, show s / 2 ^ k % 2 = 0 by omega]; rfl
/-- The torn slot's bytes: the first k sectors. -/
def tornTo (X Z : List UInt8) (s : Nat) : Nat → List UInt8
  | 0 => []
  | k + 1 => tornTo X Z s k ++ ((if s / 2 ^ k % 2 = 1 then Z else X).drop (64 * k)).take 64
theorem torn_length {X Z : List UInt8} (hX : X.length = 256) (hZ : Z.length = 256) (s : Nat) : ∀ k, k ≤ 4 → (tornTo X Z s k).length = 64 * k
  | 0, _ => rfl
  | k + 1, h => by
    rw [tornTo, List.length_append, torn_length hX hZ s k (by omega), List.length_take, List.length_drop]
    split <;> omega
theorem torn_step {X Z : List UInt8} {s k m n : Nat} {c : ByteArray} (C : List UInt8) (hc : c.data.toList = C) (hC : (if s / 2 ^ k % 2 = 1 then Z else X) = C) (hm : m = 64 * k) (hn : n = m + 64) : strOf (tornTo X Z s k) ++ c.extract m n = strOf (tornTo X Z s (k + 1)) := by
  rw [strOf_add, tornTo, hC, ← hc]
  congr 2
  rw [hn, ← hm]
  simp
theorem three_boxes {w wb w' : World} {x y z : Su} {g : Nat} {m : Int}
    (hwb : wb = ((w.alloc (.cells #[.int .i64 x.ep, .int .i64 x.rt, .int .i64 x.fr, .int .i64 x.pg] 41)).alloc (.cells #[.int .i64 y.ep, .int .i64 y.rt, .int .i64 y.fr, .int .i64 y.pg] 41)).alloc (.cells #[.int .i64 z.ep, .int .i64 z.rt, .int .i64 z.fr, .int .i64 z.pg] 41)) (V : Und wb.heap.size wb w' g m) :
    Blk w' w.heap.size 41 #[.int .i64 x.ep, .int .i64 x.rt, .int .i64 x.fr, .int .i64 x.pg] ∧ Blk w' (w.heap.size + 1) 41 #[.int .i64 y.ep, .int .i64 y.rt, .int .i64 y.fr, .int .i64 y.pg] ∧ Blk w' (w.heap.size + 1 + 1) 41 #[.int .i64 z.ep, .int .i64 z.rt, .int .i64 z.fr, .int .i64 z.pg] ∧ Below w.heap.size w w' := by
  obtain ⟨V1, V2, V3, V4⟩ := V
  subst hwb
  have h0 := Blk.new w 41 #[.int .i64 x.ep, .int .i64 x.rt, .int .i64 x.fr, .int .i64 x.pg]
  have h1 := Blk.new (w.alloc (.cells #[.int .i64 x.ep, .int .i64 x.rt, .int .i64 x.fr, .int .i64 x.pg] 41)) 41 #[.int .i64 y.ep, .int .i64 y.rt, .int .i64 y.fr, .int .i64 y.pg]
  rw [World.size_alloc] at h1
  have h2 := Blk.new ((w.alloc (.cells #[.int .i64 x.ep, .int .i64 x.rt, .int .i64 x.fr, .int .i64 x.pg] 41)).alloc (.cells #[.int .i64 y.ep, .int .i64 y.rt, .int .i64 y.fr, .int .i64 y.pg] 41)) 41 #[.int .i64 z.ep, .int .i64 z.rt, .int .i64 z.fr, .int .i64 z.pg]
  rw [World.size_alloc, World.size_alloc] at h2
  have hb : Below w.heap.size w (((w.alloc (.cells #[.int .i64 x.ep, .int .i64 x.rt, .int .i64 x.fr, .int .i64 x.pg] 41)).alloc (.cells #[.int .i64 y.ep, .int .i64 y.rt, .int .i64 y.fr, .int .i64 y.pg] 41)).alloc (.cells #[.int .i64 z.ep, .int .i64 z.rt, .int .i64 z.fr, .int .i64 z.pg] 41)) :=
    (((Below.refl _ _).alloc (Nat.le_refl _) _).alloc (by simp) _).alloc (by simp; omega) _
  exact ⟨((h0.alloc _).alloc _).below V2 (by simp; omega), (h1.alloc _).below V2 (by simp), h2.below V2 (by simp), hb.trans (V2.mono hb.size)⟩
/-- What is picked where the older slot is torn. -/
theorem pick_torn {T : List UInt8} {y : Su} {v : Value} {er : Int} (hy : checkB y = true) (h1 : y.ep % 2 = 1) (h : PickEnd T (bytesSu y) v er) :
    er = 0 ∧ ∃ u : Su, v = suV u ∧ (∀ z, checkB z = true → z.ep % 2 = 0 → y.ep < z.ep → T = bytesSu z → u = z) ∧ ∀ x, checkB x = true → x.ep % 2 = 0 → x.ep < y.ep → T = bytesSu x → u = y := by
  rcases h with ⟨_, h, _⟩ | ⟨x', k1, h, _⟩ | ⟨y', kn, k2, k3, k4⟩ | ⟨x', y', k1, k2, k3, k4⟩
  · exact (no_not (is_su hy h1.symm) h).elim
  · exact (no_not (is_su hy h1.symm) h).elim
  · rw [is_one hy k2] at k3
    refine ⟨k4, y, k3, fun z hz h0 _ ht => ?_, fun x _ _ _ _ => rfl⟩
    rw [ht] at kn
    exact (no_not (is_su hz h0.symm) kn).elim
  · rw [is_one hy k2] at k3
    refine ⟨k4, _, k3, fun z hz h0 hlt ht => ?_, fun x hx h0 hlt ht => ?_⟩
    · rw [ht] at k1
      rw [is_one hz k1, if_pos hlt]
    · rw [ht] at k1
      rw [is_one hx k1, if_neg (by omega)]

set_option maxRecDepth 100000 in
set_option maxHeartbeats 4000000 in
theorem torn_any {w : World} (x y z : Su) (s : Nat) (hs : s ≤ 255) :
    Calls Try.prog 7 #[suV x, suV y, suV z, .int .u8 s] w fun e w' => e = .returned (.bool true) ∧ Below w.heap.size w w' := by
  obtain ⟨wb, hwb⟩ : ∃ wb, wb = ((w.alloc (.cells #[.int .i64 x.ep, .int .i64 x.rt, .int .i64 x.fr, .int .i64 x.pg] 41)).alloc (.cells #[.int .i64 y.ep, .int .i64 y.rt, .int .i64 y.fr, .int .i64 y.pg] 41)).alloc (.cells #[.int .i64 z.ep, .int .i64 z.rt, .int .i64 z.fr, .int .i64 z.pg] 41) := ⟨_, rfl⟩
  have BF := hide (fun (w' : World) (g : Nat) (m : Int) V => three_boxes (w' := w') (g := g) (m := m) hwb V)
  have HSZ := hide (show wb.heap.size = w.heap.size + 1 + 1 + 1 by rw [hwb]; simp)
  have RX := hide (fun W => ref_check x W)
  have RY := hide (fun W => ref_check y W)
  have RZ := hide (fun W => ref_check z W)
  unfold suV at RX RY RZ ⊢
  go_enter Try.func7, Try.ntmps7
  go_upto_region 1 with fail
  rw [← hwb]
  clear hwb
  go_wp2_with fail
  refine (new_any _).mono ?_
  rintro e w1 ⟨g, rfl, hu⟩
  have V1 := hide hu
  have NG := hide (show w.heap.size + 1 ≠ g ∧ w.heap.size + 1 + 1 ≠ g from by have h3 := hu.2.2.1; have h4 := HSZ.out; omega)
  clear hu
  go_wp2_with fail
  refine (awake7 _).mono ?_
  rintro e w2 ⟨rfl, hb⟩
  have V2 := hide (V1.out.below hb)
  clear hb V1
  obtain ⟨⟨a0, a1, a2, a3⟩, _⟩ := su_there (BF.out _ _ _ V2.out).1
  by_cases hx : checkB x = true
  case neg =>
    rw [show checkB x = false by simpa using hx] at RX
    clear hx
    go_wp2_with fail
    refine (RX.out w2).mono ?_
    rintro e w3 ⟨rfl, hb⟩
    have V3 := hide (V2.out.below hb)
    clear hb
    go_wp2_with fail
    refine (awake7 _).mono ?_
    rintro e w4 ⟨rfl, hb⟩
    have V4 := hide (V3.out.below hb)
    clear hb
    go_wp2_with fail
    go_ret
    exact ⟨rfl, (BF.out _ _ _ V4.out).2.2.2⟩
  have Hx := hide hx
  rw [hx] at RX
  obtain ⟨ex, ax, fx, cx, hxe, lx1, lx2, lx3, lx4, lx5⟩ := check_nat hx
  subst hxe
  clear hx
  go_wp2_with fail
  refine (RX.out w2).mono ?_
  rintro e w3 ⟨rfl, hb⟩
  have V3 := hide (V2.out.below hb)
  clear hb V2 a0 a1 a2 a3
  obtain ⟨⟨a0, a1, a2, a3⟩, _⟩ := su_there (BF.out _ _ _ V3.out).2.1
  by_cases hy : checkB y = true
  case neg =>
    rw [show checkB y = false by simpa using hy] at RY
    clear hy
    go_wp2_with fail
    refine (RY.out w3).mono ?_
    rintro e w4 ⟨rfl, hb⟩
    have V4 := hide (V3.out.below hb)
    clear hb
    go_wp2_with fail
    refine (awake7 _).mono ?_
    rintro e w5 ⟨rfl, hb⟩
    have V5 := hide (V4.out.below hb)
    clear hb
    go_wp2_with fail
    go_ret
    exact ⟨rfl, (BF.out _ _ _ V5.out).2.2.2⟩
  have Hy := hide hy
  rw [hy] at RY
  obtain ⟨ey, ay, fy, cy, hye, ly1, ly2, ly3, ly4, ly5⟩ := check_nat hy
  subst hye
  clear hy
  go_wp2_with fail
  refine (RY.out w3).mono ?_
  rintro e w4 ⟨rfl, hb⟩
  have V4 := hide (V3.out.below hb)
  clear hb V3 a0 a1 a2 a3
  obtain ⟨⟨a0, a1, a2, a3⟩, _⟩ := su_there (BF.out _ _ _ V4.out).2.2.1
  by_cases hz : checkB z = true
  case neg =>
    rw [show checkB z = false by simpa using hz] at RZ
    clear hz
    go_wp2_with fail
    refine (RZ.out w4).mono ?_
    rintro e w5 ⟨rfl, hb⟩
    have V5 := hide (V4.out.below hb)
    clear hb
    go_wp2_with fail
    refine (awake7 _).mono ?_
    rintro e w6 ⟨rfl, hb⟩
    have V6 := hide (V5.out.below hb)
    clear hb
    go_wp2_with fail
    go_ret
    exact ⟨rfl, (BF.out _ _ _ V6.out).2.2.2⟩
  have Hz := hide hz
  rw [hz] at RZ
  obtain ⟨ez, az, fz, cz, hze, lz1, lz2, lz3, lz4, lz5⟩ := check_nat hz
  subst hze
  clear hz
  go_wp2_with fail
  refine (RZ.out w4).mono ?_
  rintro e w5 ⟨rfl, hb⟩
  have V5 := hide (V4.out.below hb)
  clear hb V4 a0 a1 a2 a3
  have X5 := hide (BF.out _ _ _ V5.out).1
  have Y5 := hide (BF.out _ _ _ V5.out).2.1
  have Z5 := hide (BF.out _ _ _ V5.out).2.2.1
  obtain ⟨⟨a0, a1, a2, a3⟩, _⟩ := su_there X5.out
  obtain ⟨⟨b0, b1, b2, b3⟩, _⟩ := su_there Y5.out
  obtain ⟨⟨d0, d1, d2, d3⟩, _⟩ := su_there Z5.out
  clear RX RY RZ
  obtain ⟨sx, hsx⟩ : ∃ s, s = ex % 2 := ⟨_, rfl⟩
  have hax : (ex : Int).tmod 2 = (sx : Int) := by rw [hsx]; rfl
  have HSX := hide hsx
  clear hsx
  by_cases h4 : (sx : Int) = 0
  case neg =>
    have t4 := bne_yes h4
    clear h4
    go_wp2_with fail
    refine (awake7 _).mono ?_
    rintro e w6 ⟨rfl, hb⟩
    have V6 := hide (V5.out.below hb)
    clear hb
    go_wp2_with fail
    go_ret
    exact ⟨rfl, (BF.out _ _ _ V6.out).2.2.2⟩
  have t4 := bne_no h4
  by_cases h5 : (ey : Int) = (ex : Int) + 1
  case neg =>
    have t5 := bne_yes h5
    clear h4 h5
    go_wp2_with fail
    refine (awake7 _).mono ?_
    rintro e w6 ⟨rfl, hb⟩
    have V6 := hide (V5.out.below hb)
    clear hb
    go_wp2_with fail
    go_ret
    exact ⟨rfl, (BF.out _ _ _ V6.out).2.2.2⟩
  have t5 := bne_no h5
  by_cases h6 : (ez : Int) = (ex : Int) + 2
  case neg =>
    have t6 := bne_yes h6
    clear h4 h5 h6
    go_wp2_with fail
    refine (awake7 _).mono ?_
    rintro e w6 ⟨rfl, hb⟩
    have V6 := hide (V5.out.below hb)
    clear hb
    go_wp2_with fail
    go_ret
    exact ⟨rfl, (BF.out _ _ _ V6.out).2.2.2⟩
  have t6 := bne_no h6
  by_cases h7 : (cx : Int) = (cz : Int)
  case neg =>
    have t7 := bne_yes h7
    clear h4 h5 h6 h7
    go_wp2_with fail
    refine (awake7 _).mono ?_
    rintro e w6 ⟨rfl, hb⟩
    have V6 := hide (V5.out.below hb)
    clear hb
    go_wp2_with fail
    go_ret
    exact ⟨rfl, (BF.out _ _ _ V6.out).2.2.2⟩
  have t7 := bne_no h7
  have H4 := hide h4
  have H5 := hide h5
  have H6 := hide h6
  clear h4 h5 h6 h7
  go_upto_region 4 with fail
  clear t4 t5 t6 t7
  have PX := hide (fun W => ref_sput ⟨ex, ax, fx, cx⟩ W Hx.out)
  have PY := hide (fun W => ref_sput ⟨ey, ay, fy, cy⟩ W Hy.out)
  have PZ := hide (fun W => ref_sput ⟨ez, az, fz, cz⟩ W Hz.out)
  have hXl := su_len Hx.out
  have hYl := su_len Hy.out
  have hZl := su_len Hz.out
  have par : ex % 2 = 0 ∧ ey % 2 = 1 ∧ ez % 2 = 0 ∧ ex < ey ∧ ey < ez := by
    have h4 := H4.out
    have h5 := H5.out
    have h6 := H6.out
    have hh := HSX.out
    omega
  have PK := hide (fun T v er (h : PickEnd T (bytesSu ⟨ey, ay, fy, cy⟩) v er) => pick_torn Hy.out (by show (ey : Int) % 2 = 1; omega) h)
  have PZZ := hide (fun (u : Su) (T : List UInt8) (k : ∀ z : Su, checkB z = true → z.ep % 2 = 0 → (ey : Int) < z.ep → T = bytesSu z → u = z) (h : T = bytesSu ⟨ez, az, fz, cz⟩) => k ⟨ez, az, fz, cz⟩ Hz.out (by show (ez : Int) % 2 = 0; omega) (by show (ey : Int) < (ez : Int); omega) h)
  have PXX := hide (fun (u y : Su) (T : List UInt8) (k : ∀ x : Su, checkB x = true → x.ep % 2 = 0 → x.ep < (ey : Int) → T = bytesSu x → u = y) (h : T = bytesSu ⟨ex, ax, fx, cx⟩) => k ⟨ex, ax, fx, cx⟩ Hx.out (by show (ex : Int) % 2 = 0; omega) (by show (ex : Int) < (ey : Int); omega) h)
  obtain ⟨X, hX⟩ : ∃ X, X = bytesSu ⟨ex, ax, fx, cx⟩ := ⟨_, rfl⟩
  obtain ⟨Y, hY⟩ : ∃ Y, Y = bytesSu ⟨ey, ay, fy, cy⟩ := ⟨_, rfl⟩
  obtain ⟨Z, hZ⟩ : ∃ Z, Z = bytesSu ⟨ez, az, fz, cz⟩ := ⟨_, rfl⟩
  rw [← hX] at PX PXX hXl
  rw [← hY] at PY PK hYl
  rw [← hZ] at PZ PZZ hZl
  clear hX hY hZ
  obtain ⟨tx, htx⟩ : ∃ t, t = strOf X := ⟨_, rfl⟩
  obtain ⟨ty, hty⟩ : ∃ t, t = strOf Y := ⟨_, rfl⟩
  obtain ⟨tz, htz⟩ : ∃ t, t = strOf Z := ⟨_, rfl⟩
  have zx : tx.size = 256 := by rw [htx, strOf_size]; exact hXl
  have zy : ty.size = 256 := by rw [hty, strOf_size]; exact hYl
  have zz : tz.size = 256 := by rw [htz, strOf_size]; exact hZl
  rw [← htx] at PX
  rw [← hty] at PY
  rw [← htz] at PZ
  have ETX := hide htx
  have ETY := hide hty
  have ETZ := hide htz
  clear htx hty htz par
  unfold suV at PX PY PZ
  have SF := hide (fun W (h : Below w5.heap.size w5 W) => And.intro (su_there (X5.out.below h X5.out.lt)).1 (su_there (Z5.out.below h Z5.out.lt)).1)
  go_cut [10, 11] (fun s10 s11 wx => s10 = .string tx ∧ s11 = .string tz ∧ Below w5.heap.size w5 wx)
  case first =>
    go_region_held3 (fun W => (W.cell? ⟨w.heap.size, 0, none⟩ = some (.int .i64 (ex : Int)) ∧ W.cell? ⟨w.heap.size, 1, none⟩ = some (.int .i64 (ax : Int)) ∧ W.cell? ⟨w.heap.size, 2, none⟩ = some (.int .i64 (fx : Int)) ∧ W.cell? ⟨w.heap.size, 3, none⟩ = some (.int .i64 (cx : Int))) ∧
        W.cell? ⟨w.heap.size + 1 + 1, 0, none⟩ = some (.int .i64 (ez : Int)) ∧ W.cell? ⟨w.heap.size + 1 + 1, 1, none⟩ = some (.int .i64 (az : Int)) ∧ W.cell? ⟨w.heap.size + 1 + 1, 2, none⟩ = some (.int .i64 (fz : Int)) ∧ W.cell? ⟨w.heap.size + 1 + 1, 3, none⟩ = some (.int .i64 (cz : Int)))
      (first
        | exact SF.out _ (Below.refl _ _).drew
        | exact SF.out _ B6.out)
      (first
        | (go_at_call_of 30 ex; refine (PX.out _).mono ?_; rintro e W5 ⟨rfl, hb5⟩
           first
             | have B6 := hide (B6.out.trans (hb5.mono B6.out.size))
             | have B6 := hide ((Below.refl w5.heap.size w5).drew.trans (hb5.mono (Nat.le_refl _)))
           clear hb5)
        | (go_at_call_of 30 ez; refine (PZ.out _).mono ?_; rintro e W5 ⟨rfl, hb5⟩
           first
             | have B6 := hide (B6.out.trans (hb5.mono B6.out.size))
             | have B6 := hide ((Below.refl w5.heap.size w5).drew.trans (hb5.mono (Nat.le_refl _)))
           clear hb5))
    all_goals (
      go_wp2_with fail
      go_meet
      exact ⟨rfl, rfl, B6.out⟩)
  obtain ⟨rfl, rfl, hbel⟩ := hcut
  have V6 := hide (V5.out.below hbel)
  have Y6 := hide (Y5.out.below hbel Y5.out.lt)
  have Z6 := hide (Z5.out.below hbel Z5.out.lt)
  have NGY := hide (show w.heap.size + 1 ≠ g from NG.out.1)
  have NGZ := hide (show w.heap.size + 1 + 1 ≠ g from NG.out.2)
  clear hbel SF PX PZ V5 X5 Y5 Z5 a0 a1 a2 a3 b0 b1 b2 b3 d0 d1 d2 d3
  go_wp2_with fail
  go_loopw [12, 13] (fun t i wr => ∃ k : Nat, k ≤ 4 ∧ i = .int .i64 k ∧ t = .string (strOf (tornTo X Z s k)) ∧ wr = wc) (fun _ i _ => 4 - (intOf i).toNat)
  case atStart => exact ⟨0, by omega, rfl, rfl, rfl⟩
  case round =>
    obtain ⟨k, hk, rfl, rfl, rfl⟩ := hrel
    by_cases hlt : k < 4
    · obtain ⟨m, hm⟩ : ∃ m, m = 64 * k := ⟨_, rfl⟩
      have hmi : (64 : Int) * (k : Int) = (m : Int) := by omega
      obtain ⟨n, hn⟩ : ∃ n, n = m + 64 := ⟨_, rfl⟩
      have hni : (m : Int) + 64 = (n : Int) := by omega
      have hn256 : n ≤ 256 := by omega
      have hmn : m ≤ n := by omega
      have hTl := torn_length hXl hZl s k (by omega)
      by_cases hbit : s / 2 ^ k % 2 = 1
      · have hb1 := sector_yes s k hs hbit
        have ST := hide (torn_step (c := tz) (m := m) (n := n) (X := X) Z (by rw [ETZ.out, strOf_data]) (by rw [if_pos hbit]) hm hn)
        obtain ⟨t, ht⟩ : ∃ t, t = strOf (tornTo X Z s k) := ⟨_, rfl⟩
        have hts : t.size ≤ 192 := by rw [ht, strOf_size, hTl]; omega
        have hes : (tz.extract m n).size = 64 := by rw [ByteArray.size_extract]; omega
        rw [← ht] at ST ⊢
        clear hTl hbit ht hm hn
        go_wp2_with fail
        go_roundw
        case rel => exact ⟨k + 1, by omega, by go_num, by rw [ST.out], by first | rfl | trivial⟩
        case measure => simp [intOf]; omega
      · have hb1 := sector_no s k hs hbit
        have ST := hide (torn_step (c := tx) (m := m) (n := n) (Z := Z) X (by rw [ETX.out, strOf_data]) (by rw [if_neg hbit]) hm hn)
        obtain ⟨t, ht⟩ : ∃ t, t = strOf (tornTo X Z s k) := ⟨_, rfl⟩
        have hts : t.size ≤ 192 := by rw [ht, strOf_size, hTl]; omega
        have hes : (tx.extract m n).size = 64 := by rw [ByteArray.size_extract]; omega
        rw [← ht] at ST ⊢
        clear hTl hbit ht hm hn
        go_wp2_with fail
        go_roundw
        case rel => exact ⟨k + 1, by omega, by go_num, by rw [ST.out], by first | rfl | trivial⟩
        case measure => simp [intOf]; omega
    · obtain rfl : k = 4 := by omega
      obtain ⟨T, hT⟩ : ∃ T, T = tornTo X Z s 4 := ⟨_, rfl⟩
      have hTl : T.length = 256 := by rw [hT]; exact torn_length hXl hZl s 4 (by omega)
      rw [← hT]
      clear hT
      obtain ⟨t, ht⟩ : ∃ t, t = strOf T := ⟨_, rfl⟩
      have zt : t.size = 256 := by rw [ht, strOf_size]; exact hTl
      have dt : t.data.toList = T := by rw [ht, strOf_data]
      rw [← ht]
      have HT := hide ht
      have DT := hide dt
      clear ht dt
      go_wp2_with (with_reducible refine wpList_to_bytes rfl _ rfl _ rfl ?_; intro b1 c1 w7 hby1
                   have H1 := hide hby1
                   have Y7 := hide (Y6.out.below hby1.below Y6.out.lt)
                   obtain ⟨⟨y0, y1, y2, y3⟩, _⟩ := su_there Y7.out
                   clear hby1)
      refine (PY.out w7).mono ?_
      rintro e w8 ⟨rfl, hb8⟩
      have B8 := hide hb8
      clear hb8 y0 y1 y2 y3
      go_wp2_with (with_reducible refine wpList_to_bytes rfl _ rfl _ rfl ?_; intro b2 c2 w9 hby2
                   have H2 := hide hby2
                   clear hby2)
      have TW := hide (show TwoB wr w9 b1 c1 b2 c2 T Y from two_first (Below.refl _ _) (by have h := H1.out; rw [DT.out] at h; exact h) B8.out (by have h := H2.out; rw [ETY.out, strOf_data] at h; exact h))
      have V9 := hide (V6.out.below TW.out.below)
      have Y9 := hide (Y6.out.below TW.out.below Y6.out.lt)
      have Z9 := hide (Z6.out.below TW.out.below Z6.out.lt)
      have hn1 := TW.out.n1
      have hn2 := TW.out.n2
      have hr1 := TW.out.r1
      have hr2 := TW.out.r2
      have hg4 := V6.out.1.lt
      refine (pick_any g b1 c1 b2 c2 0 T Y w9 V9.out.1 TW.out.x.row TW.out.y.row hTl hYl (by omega) (by omega) (by omega) (by omega)).mono ?_
      rintro e w10 ⟨v, er, rfl, hpe, ⟨m10, hs10⟩, hg10⟩
      obtain ⟨rfl, u, rfl, kz, kx⟩ := PK.out _ _ _ hpe
      have V10 := hide (V9.out.grown hs10 hg10)
      have Y10 := hide (Y9.out.grown hg10 (fun e => by injection e with e; exact NGY.out e))
      have Z10 := hide (Z9.out.grown hg10 (fun e => by injection e with e; exact NGZ.out e))
      clear hpe hs10 hg10 hn1 hn2 hr1 hr2 hg4 TW H1 H2 B8 V9 Y9 Z9 Y7 V6 Y6 Z6 PK
      unfold suV
      go_upto_region 13 with fail
      obtain ⟨w11, hw11⟩ : ∃ w11, w11 = w10.alloc (.cells #[.int .i64 u.ep, .int .i64 u.rt, .int .i64 u.fr, .int .i64 u.pg] 41) := ⟨_, rfl⟩
      have N11 : Below w10.heap.size w10 w11 := by rw [hw11]; exact (Below.refl _ _).alloc (Nat.le_refl _) _
      have U11 : Blk w11 w10.heap.size 41 #[.int .i64 u.ep, .int .i64 u.rt, .int .i64 u.fr, .int .i64 u.pg] := by rw [hw11]; exact Blk.new _ _ _
      obtain ⟨r, hr⟩ : ∃ r, r = w10.heap.size := ⟨_, rfl⟩
      rw [← hr] at U11
      have V11 := hide (V10.out.below N11)
      rw [← hw11, ← hr]
      obtain ⟨⟨u0, u1, u2, u3⟩, _⟩ := su_there U11
      obtain ⟨⟨y0, y1, y2, y3⟩, _⟩ := su_there (Y10.out.below N11 Y10.out.lt)
      obtain ⟨⟨z0, z1, z2, z3⟩, _⟩ := su_there (Z10.out.below N11 Z10.out.lt)
      clear N11 hw11 hr U11 V10 Y10 Z10
      by_cases hTZ : T = Z
      · obtain rfl := PZZ.out u T kz hTZ
        obtain rfl : t = tz := by rw [HT.out, ETZ.out, hTZ]
        clear hTZ kz kx HT DT
        go_wp2_with fail
        go_ret
        exact ⟨rfl, (BF.out _ _ _ V11.out).2.2.2⟩
      · have ecz : (t.toList == tz.toList) = false := by rw [HT.out, ETZ.out, toList_str]; exact decide_eq_false hTZ
        by_cases hTX : T = X
        · obtain rfl := PXX.out u ⟨ey, ay, fy, cy⟩ T kx hTX
          obtain rfl : t = tx := by rw [HT.out, ETX.out, hTX]
          clear hTX hTZ kz kx HT DT
          go_wp2_with fail
          go_ret
          exact ⟨rfl, (BF.out _ _ _ V11.out).2.2.2⟩
        · have ecx : (t.toList == tx.toList) = false := by rw [HT.out, ETX.out, toList_str]; exact decide_eq_false hTX
          clear hTX hTZ kz kx HT DT
          go_wp2_with fail
          go_ret
          exact ⟨rfl, (BF.out _ _ _ V11.out).2.2.2⟩

theorem superTorn_walk {w : World} (v0 : Value) (x0 : Su) (f0 : Sup v0 x0) (v1 : Value) (x1 : Su) (f1 : Sup v1 x1) (v2 : Value) (x2 : Su) (f2 : Sup v2 x2) (x3 : Nat) (f3 : x3 ≤ 255) :
    Calls Try.prog 7 #[v0, v1, v2, .int .u8 x3] w fun e w' => e = .returned (.bool true) ∧ Below w.heap.size w w' := by
  obtain ⟨rfl, _⟩ := f0
  obtain ⟨rfl, _⟩ := f1
  obtain ⟨rfl, _⟩ := f2
  exact torn_any x0 x1 x2 x3 f3
end Go.Proofs.Ytljfomgcoodjkaa
