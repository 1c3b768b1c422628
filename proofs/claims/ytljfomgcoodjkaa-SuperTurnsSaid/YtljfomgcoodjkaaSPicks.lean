/- Of two slots the newer one tells; if a byte of one is turned, the other one does: the law's walk. -/
import Derived.Test.YtljfomgcoodjkaaSPuts
import Derived.Deep.DeepCutAuto
import Derived.Deep.RegionHeld3
import Derived.BigQuiet
namespace Go.Proofs.Ytljfomgcoodjkaa
open Go.RowKit

/-- Two buffers of the call's own, laid behind a world. -/
structure TwoB (B W : World) (b1 c1 b2 c2 : Nat) (X Y : List UInt8) : Prop where
  n1 : B.heap.size ≤ b1
  n2 : B.heap.size ≤ b2
  ne : b1 ≠ b2
  r1 : X.length ≤ c1
  r2 : Y.length ≤ c2
  x : Buf W b1 X
  y : Buf W b2 Y
  below : Below B.heap.size B W
theorem two_first {B W1 W1' W2 W3 : World} {b1 c1 b2 c2 : Nat} {X Y : List UInt8} (hB : Below B.heap.size B W1) (h1 : Bytes W1 W1' b1 c1 X) (hb : Below W1'.heap.size W1' W2) (h2 : Bytes W2 W3 b2 c2 Y) : TwoB B W3 b1 c1 b2 c2 X Y := by
  have l1 := h1.lt; have n1 := h1.new; have n2 := h2.new; have s1 := hB.size; have s2 := hb.size; have s3 := h1.below.size
  exact ⟨by omega, by omega, by omega, h1.room, h2.room, ((Buf.mk h1.row h1.loose).below hb).below h2.below, ⟨h2.row, h2.loose⟩, hB.trans ((h1.below.mono s1).trans ((hb.mono (by omega)).trans (h2.below.mono (by omega))))⟩
theorem TwoB.swap {B W : World} {b1 c1 b2 c2 : Nat} {X Y : List UInt8} (h : TwoB B W b1 c1 b2 c2 X Y) : TwoB B W b2 c2 b1 c1 Y X := ⟨h.n2, h.n1, h.ne.symm, h.r2, h.r1, h.y, h.x, h.below⟩

theorem TwoB.flip {B W : World} {b1 c1 b2 c2 p : Nat} {X Y : List UInt8} (h : TwoB B W b1 c1 b2 c2 X Y) (hp : p < X.length) (d : UInt8) : TwoB B (W.setCell ⟨b1, p, none⟩ (.int .u8 (d.toNat : Int))) b1 c1 b2 c2 (X.set p d) Y :=
  ⟨h.n1, h.n2, h.ne, by rw [List.length_set]; exact h.r1, h.r2, h.x.set hp d, ⟨h.y.row.set_far h.ne.symm _, fun i hi => by simp [h.y.loose i hi]⟩, h.below.setCell h.n1 _⟩
theorem flip_one (c : UInt8) : bits BinOp.xor IntKind.u8 (c.toNat : Int) 1 = ((c ^^^ 1).toNat : Int) := by
  have h := flip_byte c 0 (by omega)
  simpa using h
theorem flip_ne (c : UInt8) : c ^^^ 1 ≠ c := by
  intro h
  have h2 : (c ^^^ 1) ^^^ c = c ^^^ c := by rw [h]
  rw [UInt8.xor_self, UInt8.xor_comm c 1, UInt8.xor_assoc, UInt8.xor_self] at h2
  exact absurd h2 (by decide)

/-- What stays of two supers and a pair in their boxes. -/
theorem spair_facts {w wb w' : World} {x y : Su} {t0 t1 : Value} {g : Nat} {m : Int}
    (hwb : wb = ((w.alloc (.cells #[.int .i64 x.ep, .int .i64 x.rt, .int .i64 x.fr, .int .i64 x.pg] 41)).alloc (.cells #[.int .i64 y.ep, .int .i64 y.rt, .int .i64 y.fr, .int .i64 y.pg] 41)).alloc (.cells #[t0, t1] 55)) (V : Und wb.heap.size wb w' g m) :
    Blk w' w.heap.size 41 #[.int .i64 x.ep, .int .i64 x.rt, .int .i64 x.fr, .int .i64 x.pg] ∧ Blk w' (w.heap.size + 1) 41 #[.int .i64 y.ep, .int .i64 y.rt, .int .i64 y.fr, .int .i64 y.pg] ∧ Blk w' (w.heap.size + 1 + 1) 55 #[t0, t1] ∧ Below w.heap.size w w' := by
  obtain ⟨V1, V2, V3, V4⟩ := V
  subst hwb
  have h0 := Blk.new w 41 #[.int .i64 x.ep, .int .i64 x.rt, .int .i64 x.fr, .int .i64 x.pg]
  have h1 := Blk.new (w.alloc (.cells #[.int .i64 x.ep, .int .i64 x.rt, .int .i64 x.fr, .int .i64 x.pg] 41)) 41 #[.int .i64 y.ep, .int .i64 y.rt, .int .i64 y.fr, .int .i64 y.pg]
  rw [World.size_alloc] at h1
  have h2 := Blk.new ((w.alloc (.cells #[.int .i64 x.ep, .int .i64 x.rt, .int .i64 x.fr, .int .i64 x.pg] 41)).alloc (.cells #[.int .i64 y.ep, .int .i64 y.rt, .int .i64 y.fr, .int .i64 y.pg] 41)) 55 #[t0, t1]
  rw [World.size_alloc, World.size_alloc] at h2
  have hb : Below w.heap.size w (((w.alloc (.cells #[.int .i64 x.ep, .int .i64 x.rt, .int .i64 x.fr, .int .i64 x.pg] 41)).alloc (.cells #[.int .i64 y.ep, .int .i64 y.rt, .int .i64 y.fr, .int .i64 y.pg] 41)).alloc (.cells #[t0, t1] 55)) :=
    (((Below.refl _ _).alloc (Nat.le_refl _) _).alloc (by simp) _).alloc (by simp; omega) _
  exact ⟨((h0.alloc _).alloc _).below V2 (by simp; omega), (h1.alloc _).below V2 (by simp), h2.below V2 (by simp), hb.trans (V2.mono hb.size)⟩

set_option maxRecDepth 100000 in
set_option maxHeartbeats 1600000 in
/-- Where the guards let nothing in. -/
theorem picks_out {w : World} (x y : Su) (t0 t1 : Nat) (h : ¬ (checkB x = true ∧ checkB y = true ∧ x.ep % 2 = 0 ∧ y.ep % 2 = 1)) :
    Calls Try.prog 20 #[suV x, suV y, .agg #[.int .u16 t0, .int .u16 t1]] w fun e w' => e = .returned (.bool true) ∧ Below w.heap.size w w' := by
  obtain ⟨wb, hwb⟩ : ∃ wb, wb = ((w.alloc (.cells #[.int .i64 x.ep, .int .i64 x.rt, .int .i64 x.fr, .int .i64 x.pg] 41)).alloc (.cells #[.int .i64 y.ep, .int .i64 y.rt, .int .i64 y.fr, .int .i64 y.pg] 41)).alloc (.cells #[.int .u16 (t0 : Int), .int .u16 (t1 : Int)] 55) := ⟨_, rfl⟩
  have BF := hide (fun (w' : World) (g : Nat) (m : Int) V => spair_facts (w' := w') (g := g) (m := m) hwb V)
  have RX := hide (fun W => ref_check x W)
  have RY := hide (fun W => ref_check y W)
  unfold suV at RX RY ⊢
  go_enter Try.func20, Try.ntmps20
  go_upto_region 1 with fail
  rw [← hwb]
  clear hwb
  go_wp2_with fail
  refine (new_any _).mono ?_
  rintro e w1 ⟨g, rfl, hu⟩
  have V1 := hide hu
  clear hu
  go_wp2_with fail
  refine (awake7 _).mono ?_
  rintro e w2 ⟨rfl, hb⟩
  have V2 := hide (V1.out.below hb)
  clear hb V1
  obtain ⟨⟨a0, a1, a2, a3⟩, _⟩ := su_there (BF.out _ _ _ V2.out).1
  by_cases hx : checkB x = true
  case neg =>
    rw [show checkB x = false by simpa using hx] at RX
    clear hx h
    go_wp2_with fail
    refine (RX.out w2).mono ?_
    rintro e w3 ⟨rfl, hb⟩
    have V3 := hide (V2.out.below hb)
    clear hb
    go_wp2_with fail
    refine (awake7 _).mono ?_
    rintro e w4 ⟨rfl, hb⟩
    have V4 := hide (V3.out.below hb)
    clear hb
    go_wp2_with fail
    go_ret
    exact ⟨rfl, (BF.out _ _ _ V4.out).2.2.2⟩
  have HX := hide hx
  rw [hx] at RX
  obtain ⟨ex, ax, bx, cx, hxe, l1, l2, l3, l4, l5⟩ := check_nat hx
  subst hxe
  clear hx
  go_wp2_with fail
  refine (RX.out w2).mono ?_
  rintro e w3 ⟨rfl, hb⟩
  have V3 := hide (V2.out.below hb)
  clear hb V2 a0 a1 a2 a3
  obtain ⟨⟨a0, a1, a2, a3⟩, _⟩ := su_there (BF.out _ _ _ V3.out).2.1
  by_cases hy : checkB y = true
  case neg =>
    rw [show checkB y = false by simpa using hy] at RY
    clear hy h
    go_wp2_with fail
    refine (RY.out w3).mono ?_
    rintro e w4 ⟨rfl, hb⟩
    have V4 := hide (V3.out.below hb)
    clear hb
    go_wp2_with fail
    refine (awake7 _).mono ?_
    rintro e w5 ⟨rfl, hb⟩
    have V5 := hide (V4.out.below hb)
    clear hb
    go_wp2_with fail
    go_ret
    exact ⟨rfl, (BF.out _ _ _ V5.out).2.2.2⟩
  have HY := hide hy
  rw [hy] at RY
  obtain ⟨ey, ay, by_, cy, hye, k1, k2, k3, k4, k5⟩ := check_nat hy
  subst hye
  clear hy
  have hpar : ¬ (ex % 2 = 0 ∧ ey % 2 = 1) := fun hh => h ⟨HX.out, HY.out, by show (ex : Int) % 2 = 0; omega, by show (ey : Int) % 2 = 1; omega⟩
  clear h
  go_wp2_with fail
  refine (RY.out w3).mono ?_
  rintro e w4 ⟨rfl, hb⟩
  have V4 := hide (V3.out.below hb)
  clear hb V3 a0 a1 a2 a3
  obtain ⟨⟨a0, a1, a2, a3⟩, _⟩ := su_there (BF.out _ _ _ V4.out).1
  obtain ⟨⟨b0, b1, b2, b3⟩, _⟩ := su_there (BF.out _ _ _ V4.out).2.1
  obtain ⟨sx, hsx⟩ : ∃ s, s = ex % 2 := ⟨_, rfl⟩
  obtain ⟨sy, hsy⟩ : ∃ s, s = ey % 2 := ⟨_, rfl⟩
  have hax : (ex : Int).tmod 2 = (sx : Int) := by rw [hsx]; rfl
  have hay : (ey : Int).tmod 2 = (sy : Int) := by rw [hsy]; rfl
  rw [← hsx, ← hsy] at hpar
  clear hsx hsy
  by_cases h0 : sx = 0
  · have t0' := bne_no (show (sx : Int) = 0 by omega)
    have t1' := bne_yes (show (sy : Int) ≠ 1 by omega)
    clear hpar h0
    go_wp2_with fail
    refine (awake7 _).mono ?_
    rintro e w5 ⟨rfl, hb⟩
    have V5 := hide (V4.out.below hb)
    clear hb
    go_wp2_with fail
    go_ret
    exact ⟨rfl, (BF.out _ _ _ V5.out).2.2.2⟩
  · have t0' := bne_yes (show (sx : Int) ≠ 0 by omega)
    clear hpar h0
    go_wp2_with fail
    refine (awake7 _).mono ?_
    rintro e w5 ⟨rfl, hb⟩
    have V5 := hide (V4.out.below hb)
    clear hb
    go_wp2_with fail
    go_ret
    exact ⟨rfl, (BF.out _ _ _ V5.out).2.2.2⟩

set_option maxRecDepth 100000 in
set_option maxHeartbeats 4000000 in
theorem picks_in {w : World} (x y : Su) (t0 t1 : Nat) (ht0 : t0 ≤ 65535) (ht1 : t1 ≤ 65535) (hx : checkB x = true) (hy : checkB y = true) (hx0 : x.ep % 2 = 0) (hy1 : y.ep % 2 = 1) :
    Calls Try.prog 20 #[suV x, suV y, .agg #[.int .u16 t0, .int .u16 t1]] w fun e w' => e = .returned (.bool true) ∧ Below w.heap.size w w' := by
  obtain ⟨wb, hwb⟩ : ∃ wb, wb = ((w.alloc (.cells #[.int .i64 x.ep, .int .i64 x.rt, .int .i64 x.fr, .int .i64 x.pg] 41)).alloc (.cells #[.int .i64 y.ep, .int .i64 y.rt, .int .i64 y.fr, .int .i64 y.pg] 41)).alloc (.cells #[.int .u16 (t0 : Int), .int .u16 (t1 : Int)] 55) := ⟨_, rfl⟩
  have BF := hide (fun (w' : World) (g : Nat) (m : Int) V => spair_facts (w' := w') (g := g) (m := m) hwb V)
  have RX := hide (fun W => ref_check x W)
  have RY := hide (fun W => ref_check y W)
  have PX := hide (fun W => ref_sput x W hx)
  have PY := hide (fun W => ref_sput y W hy)
  have PB := hide (fun v er h => pick_both (v := v) (er := er) hx hy hx0 hy1 h)
  have PL := hide (fun p c v er (hp : p < 256) (hc : c ≠ (bytesSu y).getD p 0) h => pick_left (ys := (bytesSu y).set p c) (v := v) (er := er) hx hx0 (no_turned hy hp hc) h)
  have PR := hide (fun p c v er (hp : p < 256) (hc : c ≠ (bytesSu x).getD p 0) h => pick_right (xs := (bytesSu x).set p c) (v := v) (er := er) hy hy1 (no_turned hx hp hc) h)
  have PN := hide (fun p c q d v er (hp : p < 256) (hc : c ≠ (bytesSu x).getD p 0) (hq : q < 256) (hd : d ≠ (bytesSu y).getD q 0) h => pick_none (xs := (bytesSu x).set p c) (ys := (bytesSu y).set q d) (v := v) (er := er) (no_turned hx hp hc) (no_turned hy hq hd) h)
  have hXl := su_len hx
  have hYl := su_len hy
  rw [hx] at RX
  rw [hy] at RY
  obtain ⟨ex, ax, bx, cx, hxe, l1, l2, l3, l4, l5⟩ := check_nat hx
  obtain ⟨ey, ay, by_, cy, hye, k1, k2, k3, k4, k5⟩ := check_nat hy
  subst hxe hye
  obtain ⟨X, hX⟩ : ∃ X, X = bytesSu ⟨ex, ax, bx, cx⟩ := ⟨_, rfl⟩
  obtain ⟨Y, hY⟩ : ∃ Y, Y = bytesSu ⟨ey, ay, by_, cy⟩ := ⟨_, rfl⟩
  rw [← hX] at PX PB PL PR PN hXl
  rw [← hY] at PY PB PL PR PN hYl
  clear hX hY hx hy
  have hx0' : (ex : Int) % 2 = 0 := hx0
  have hy1' : (ey : Int) % 2 = 1 := hy1
  clear hx0 hy1
  have hax : (ex : Int).tmod 2 = 0 := by have e : (ex : Int).tmod 2 = ((ex % 2 : Nat) : Int) := rfl; rw [e]; omega
  have hay : (ey : Int).tmod 2 = 1 := by have e : (ey : Int).tmod 2 = ((ey % 2 : Nat) : Int) := rfl; rw [e]; omega
  have hne1 := beq_no (show (ex : Int) ≠ (ey : Int) by omega)
  have hne2 := beq_no (show (ey : Int) ≠ (ex : Int) by omega)
  clear hx0' hy1'
  dsimp only at hwb BF PB
  obtain ⟨sx, hsx⟩ : ∃ s, s = strOf X := ⟨_, rfl⟩
  obtain ⟨sy, hsy⟩ : ∃ s, s = strOf Y := ⟨_, rfl⟩
  have zx : sx.size = 256 := by rw [hsx, strOf_size]; exact hXl
  have zy : sy.size = 256 := by rw [hsy, strOf_size]; exact hYl
  have dx : sx.data.toList = X := by rw [hsx, strOf_data]
  have dy : sy.data.toList = Y := by rw [hsy, strOf_data]
  rw [← hsx] at PX
  rw [← hsy] at PY
  have DX := hide dx
  have DY := hide dy
  clear hsx hsy dx dy
  unfold suV at RX RY PX PY ⊢
  go_enter Try.func20, Try.ntmps20
  go_upto_region 1 with fail
  rw [← hwb]
  clear hwb
  go_wp2_with fail
  refine (new_any _).mono ?_
  rintro e w1 ⟨g, rfl, hu⟩
  have V1 := hide hu
  clear hu
  go_wp2_with fail
  refine (awake7 _).mono ?_
  rintro e w2 ⟨rfl, hb⟩
  have V2 := hide (V1.out.below hb)
  clear hb V1
  obtain ⟨⟨a0, a1, a2, a3⟩, _⟩ := su_there (BF.out _ _ _ V2.out).1
  go_wp2_with fail
  refine (RX.out w2).mono ?_
  rintro e w3 ⟨rfl, hb⟩
  have V3 := hide (V2.out.below hb)
  clear hb V2 a0 a1 a2 a3
  obtain ⟨⟨a0, a1, a2, a3⟩, _⟩ := su_there (BF.out _ _ _ V3.out).2.1
  go_wp2_with fail
  refine (RY.out w3).mono ?_
  rintro e w4 ⟨rfl, hb⟩
  have V4 := hide (V3.out.below hb)
  clear hb V3 a0 a1 a2 a3
  have X4 := hide (BF.out _ _ _ V4.out).1
  have Y4 := hide (BF.out _ _ _ V4.out).2.1
  obtain ⟨⟨a0, a1, a2, a3⟩, _⟩ := su_there X4.out
  obtain ⟨⟨b0, b1, b2, b3⟩, _⟩ := su_there Y4.out
  go_upto_region 4 with fail
  have SF := hide (fun W (h : Below w4.heap.size w4 W) => And.intro (su_there (X4.out.below h X4.out.lt)).1 (su_there (Y4.out.below h Y4.out.lt)).1)
  have kc := conv28
  have SX := hide (fun W => show Bytes W (strW W sx) W.heap.size (strC W sx) X by have h := strW_bytes W sx; rw [DX.out] at h; exact h)
  have SY := hide (fun W => show Bytes W (strW W sy) W.heap.size (strC W sy) Y by have h := strW_bytes W sy; rw [DY.out] at h; exact h)
  go_cut [8, 9] (fun s8 s9 wx => ∃ b1 c1 b2 c2, s8 = .slice (some ⟨b1, 0, none⟩) 256 c1 ∧ s9 = .slice (some ⟨b2, 0, none⟩) 256 c2 ∧ TwoB w4 wx b1 c1 b2 c2 X Y)
  case first =>
    go_region_held (fun W => (W.cell? ⟨w.heap.size, 0, none⟩ = some (.int .i64 (ex : Int)) ∧ W.cell? ⟨w.heap.size, 1, none⟩ = some (.int .i64 (ax : Int)) ∧ W.cell? ⟨w.heap.size, 2, none⟩ = some (.int .i64 (bx : Int)) ∧ W.cell? ⟨w.heap.size, 3, none⟩ = some (.int .i64 (cx : Int))) ∧
        W.cell? ⟨w.heap.size + 1, 0, none⟩ = some (.int .i64 (ey : Int)) ∧ W.cell? ⟨w.heap.size + 1, 1, none⟩ = some (.int .i64 (ay : Int)) ∧ W.cell? ⟨w.heap.size + 1, 2, none⟩ = some (.int .i64 (by_ : Int)) ∧ W.cell? ⟨w.heap.size + 1, 3, none⟩ = some (.int .i64 (cy : Int)))
      (first
        | exact SF.out _ (Below.refl _ _).drew
        | exact SF.out _ B5.out
        | exact SF.out _ (B5.out.trans ((strW_bytes _ _).below.mono B5.out.size))
        | exact SF.out _ (B5.out.trans (((strW_bytes _ _).below.trans ((strW_bytes _ _).below.mono (strW_bytes _ _).below.size)).mono B5.out.size)))
      (first
        | (go_at_call_of 30 ex; refine (PX.out _).mono ?_; rintro e W5 ⟨rfl, hb5⟩; have B5 := hide ((Below.refl w4.heap.size w4).drew.trans (hb5.mono (Nat.le_refl _))); clear hb5)
        | (go_at_call_of 30 ey; refine (PY.out _).mono ?_; rintro e W6 ⟨rfl, hb6⟩
           first
             | (have D5 := hide (And.intro B5.out hb6)
                have B5 := hide (B5.out.trans (hb6.mono B5.out.size)))
             | (have D5 := hide (And.intro B5.out hb6)
                have B5 := hide ((B5.out.trans ((strW_bytes _ _).below.mono B5.out.size)).trans (hb6.mono (B5.out.trans ((strW_bytes _ _).below.mono B5.out.size)).size)))
           clear hb6))
    all_goals (
      go_wp2_with fail
      go_meet
      first
        | with_reducible exact ⟨_, _, _, _, rfl, rfl, two_first D5.out.1 (SX.out _) D5.out.2 (SY.out _)⟩
        | with_reducible exact ⟨_, _, _, _, rfl, rfl, two_first B5.out (SX.out _) (Below.refl _ _) (SY.out _)⟩
        | with_reducible exact ⟨_, _, _, _, rfl, rfl, (two_first B5.out (SY.out _) (Below.refl _ _) (SX.out _)).swap⟩)
  obtain ⟨b1', c1, b2', c2, rfl, rfl, TW0⟩ := hcut
  have TW := hide TW0
  clear TW0 SX SY kc DX DY zx zy PX PY SF X4 Y4 a0 a1 a2 a3 b0 b1 b2 b3 RX RY
  have V5 := hide (V4.out.below TW.out.below)
  have T5 := (BF.out _ _ _ V5.out).2.2.1
  have u0 : wc.cell? ⟨w.heap.size + 1 + 1, 0, none⟩ = some (.int .u16 (t0 : Int)) := T5.cell 0
  have u1 : wc.cell? ⟨w.heap.size + 1 + 1, 1, none⟩ = some (.int .u16 (t1 : Int)) := T5.cell 1
  clear T5 V5
  obtain ⟨p, hp⟩ : ∃ p, p = t0 % 600 := ⟨_, rfl⟩
  obtain ⟨q, hq⟩ : ∃ q, q = t1 % 600 := ⟨_, rfl⟩
  have hp1 : (t0 : Int) % 600 = (p : Int) := by omega
  have hp2 : (t0 : Int).tmod 600 = (p : Int) := by rw [hp]; rfl
  have hq1 : (t1 : Int) % 600 = (q : Int) := by omega
  have hq2 : (t1 : Int).tmod 600 = (q : Int) := by rw [hq]; rfl
  have hpl : p < 600 := by omega
  have hql : q < 600 := by omega
  clear hp hq
  go_upto_region 5 with fail
  go_quiet (fail)
  obtain ⟨w5, hw5⟩ : ∃ w5, w5 = wc.drewN nq := ⟨_, rfl⟩
  have TW5' : TwoB w4 w5 b1' c1 b2' c2 X Y := by
    rw [hw5]
    exact ⟨TW.out.n1, TW.out.n2, TW.out.ne, TW.out.r1, TW.out.r2, ⟨TW.out.x.row, TW.out.x.loose⟩, ⟨TW.out.y.row, TW.out.y.loose⟩, below_drewN TW.out.below nq⟩
  rw [← hw5]
  have TW5 := hide TW5'
  clear TW5' hw5 TW u0 u1 hp1 hp2 hq1 hq2
  by_cases hpb : p < 256
  · have hpi : (p : Int) < 256 := by omega
    by_cases hqb : q < 256
    · have hqi : (q : Int) < 256 := by omega
      obtain ⟨c, hcc⟩ : ∃ c, c = X[p]'(by omega) := ⟨_, rfl⟩
      obtain ⟨c', hcc'⟩ : ∃ c', c' = c ^^^ 1 := ⟨_, rfl⟩
      have celc := TW5.out.x.cell (k := p) (by omega)
      rw [← hcc] at celc
      have frc := TW5.out.x.loose p (by omega)
      have fxc := flip_one c
      rw [← hcc'] at fxc
      have TW6 := hide (TW5.out.flip (p := p) (by rw [hXl]; omega) c')
      have Nc := hide (show c' ≠ X.getD p 0 by
        rw [hcc', List.getD_eq_getElem?_getD, List.getElem?_eq_getElem (show p < X.length by omega), Option.getD_some, ← hcc]
        exact flip_ne c)
      clear hcc hcc'
      go_upto_region 8 with fail
      obtain ⟨w6, hw6⟩ : ∃ w6, w6 = w5.setCell ⟨b1', p, none⟩ (.int .u8 (c'.toNat : Int)) := ⟨_, rfl⟩
      rw [← hw6] at TW6 ⊢
      clear hw6 celc frc fxc
      obtain ⟨d, hcd⟩ : ∃ d, d = Y[q]'(by omega) := ⟨_, rfl⟩
      obtain ⟨d', hcd'⟩ : ∃ d', d' = d ^^^ 1 := ⟨_, rfl⟩
      have celd := TW6.out.y.cell (k := q) (by omega)
      rw [← hcd] at celd
      have frd := TW6.out.y.loose q (by omega)
      have fxd := flip_one d
      rw [← hcd'] at fxd
      have TW7 := hide ((TW6.out.swap.flip (p := q) (by rw [hYl]; omega) d').swap)
      have Nd := hide (show d' ≠ Y.getD q 0 by
        rw [hcd', List.getD_eq_getElem?_getD, List.getElem?_eq_getElem (show q < Y.length by omega), Option.getD_some, ← hcd]
        exact flip_ne d)
      clear hcd hcd'
      go_upto_region 10 with fail
      obtain ⟨w7, hw7⟩ : ∃ w7, w7 = w6.setCell ⟨b2', q, none⟩ (.int .u8 (d'.toNat : Int)) := ⟨_, rfl⟩
      rw [← hw7] at TW7 ⊢
      clear hw7 celd frd fxd
      have V7 := hide (V4.out.below TW7.out.below)
      have hn1 := TW7.out.n1
      have hn2 := TW7.out.n2
      have hr1 := TW7.out.r1
      have hr2 := TW7.out.r2
      rw [List.length_set] at hr1
      rw [List.length_set] at hr2
      have hg4 := V4.out.1.lt
      have PK := hide (pick_any g b1' c1 b2' c2 0 (X.set p c') (Y.set q d') w7 V7.out.1 TW7.out.x.row TW7.out.y.row (by rw [List.length_set]; exact hXl) (by rw [List.length_set]; exact hYl) (by omega) (by omega) (by omega) (by omega))
      clear hn1 hn2 hr1 hr2
      go_wp2_with fail
      refine PK.out.mono ?_
      rintro e w8 ⟨v, er, rfl, hpe, ⟨m8, hs8⟩, hg8⟩
      obtain ⟨hv, rfl⟩ := PN.out p c' q d' _ _ hpb Nc.out hqb Nd.out hpe
      replace hv : v = .agg #[.int .i64 0, .int .i64 0, .int .i64 0, .int .i64 0] := hv
      subst hv
      have V8 := hide (V7.out.grown hs8 hg8)
      clear hpe hs8 hg8 PK V7
      go_upto_region 11 with fail
      obtain ⟨w9, hw9⟩ : ∃ w9, w9 = w8.alloc (.cells #[.int .i64 0, .int .i64 0, .int .i64 0, .int .i64 0] 41) := ⟨_, rfl⟩
      have N9 : Below w8.heap.size w8 w9 := by rw [hw9]; exact (Below.refl _ _).alloc (Nat.le_refl _) _
      have Z9 : Blk w9 w8.heap.size 41 #[.int .i64 0, .int .i64 0, .int .i64 0, .int .i64 0] := by rw [hw9]; exact Blk.new _ _ _
      obtain ⟨r, hr⟩ : ∃ r, r = w8.heap.size := ⟨_, rfl⟩
      rw [← hr] at Z9
      have V9 := hide (V8.out.below N9)
      rw [← hw9, ← hr]
      clear N9 hw9 hr V8
      obtain ⟨⟨z0, z1, z2, z3⟩, _⟩ := su_there Z9
      obtain ⟨⟨a0, a1, a2, a3⟩, _⟩ := su_there (BF.out _ _ _ V9.out).1
      obtain ⟨⟨b0, b1, b2, b3⟩, _⟩ := su_there (BF.out _ _ _ V9.out).2.1
      clear Z9
      go_wp2_with fail
      go_ret
      exact ⟨rfl, (BF.out _ _ _ V9.out).2.2.2⟩
    · have hqi : (256 : Int) ≤ (q : Int) := by omega
      obtain ⟨c, hcc⟩ : ∃ c, c = X[p]'(by omega) := ⟨_, rfl⟩
      obtain ⟨c', hcc'⟩ : ∃ c', c' = c ^^^ 1 := ⟨_, rfl⟩
      have celc := TW5.out.x.cell (k := p) (by omega)
      rw [← hcc] at celc
      have frc := TW5.out.x.loose p (by omega)
      have fxc := flip_one c
      rw [← hcc'] at fxc
      have TW6 := hide (TW5.out.flip (p := p) (by rw [hXl]; omega) c')
      have Nc := hide (show c' ≠ X.getD p 0 by
        rw [hcc', List.getD_eq_getElem?_getD, List.getElem?_eq_getElem (show p < X.length by omega), Option.getD_some, ← hcc]
        exact flip_ne c)
      clear hcc hcc'
      go_upto_region 8 with fail
      obtain ⟨w6, hw6⟩ : ∃ w6, w6 = w5.setCell ⟨b1', p, none⟩ (.int .u8 (c'.toNat : Int)) := ⟨_, rfl⟩
      rw [← hw6] at TW6 ⊢
      clear hw6 celc frc fxc
      go_upto_region 10 with fail
      have V7 := hide (V4.out.below TW6.out.below)
      have hn1 := TW6.out.n1
      have hn2 := TW6.out.n2
      have hr1 := TW6.out.r1
      have hr2 := TW6.out.r2
      rw [List.length_set] at hr1
      skip
      have hg4 := V4.out.1.lt
      have PK := hide (pick_any g b1' c1 b2' c2 0 (X.set p c') (Y) w6 V7.out.1 TW6.out.x.row TW6.out.y.row (by rw [List.length_set]; exact hXl) (by exact hYl) (by omega) (by omega) (by omega) (by omega))
      clear hn1 hn2 hr1 hr2
      go_wp2_with fail
      refine PK.out.mono ?_
      rintro e w8 ⟨v, er, rfl, hpe, ⟨m8, hs8⟩, hg8⟩
      obtain ⟨hv, rfl⟩ := PR.out p c' _ _ hpb Nc.out hpe
      replace hv : v = .agg #[.int .i64 (ey : Int), .int .i64 (ay : Int), .int .i64 (by_ : Int), .int .i64 (cy : Int)] := hv
      subst hv
      have V8 := hide (V7.out.grown hs8 hg8)
      clear hpe hs8 hg8 PK V7
      go_upto_region 11 with fail
      obtain ⟨w9, hw9⟩ : ∃ w9, w9 = w8.alloc (.cells #[.int .i64 (ey : Int), .int .i64 (ay : Int), .int .i64 (by_ : Int), .int .i64 (cy : Int)] 41) := ⟨_, rfl⟩
      have N9 : Below w8.heap.size w8 w9 := by rw [hw9]; exact (Below.refl _ _).alloc (Nat.le_refl _) _
      have Z9 : Blk w9 w8.heap.size 41 #[.int .i64 (ey : Int), .int .i64 (ay : Int), .int .i64 (by_ : Int), .int .i64 (cy : Int)] := by rw [hw9]; exact Blk.new _ _ _
      obtain ⟨r, hr⟩ : ∃ r, r = w8.heap.size := ⟨_, rfl⟩
      rw [← hr] at Z9
      have V9 := hide (V8.out.below N9)
      rw [← hw9, ← hr]
      clear N9 hw9 hr V8
      obtain ⟨⟨z0, z1, z2, z3⟩, _⟩ := su_there Z9
      obtain ⟨⟨a0, a1, a2, a3⟩, _⟩ := su_there (BF.out _ _ _ V9.out).1
      obtain ⟨⟨b0, b1, b2, b3⟩, _⟩ := su_there (BF.out _ _ _ V9.out).2.1
      clear Z9
      go_wp2_with fail
      go_ret
      exact ⟨rfl, (BF.out _ _ _ V9.out).2.2.2⟩
  · have hpi : (256 : Int) ≤ (p : Int) := by omega
    by_cases hqb : q < 256
    · have hqi : (q : Int) < 256 := by omega
      go_upto_region 8 with fail
      obtain ⟨d, hcd⟩ : ∃ d, d = Y[q]'(by omega) := ⟨_, rfl⟩
      obtain ⟨d', hcd'⟩ : ∃ d', d' = d ^^^ 1 := ⟨_, rfl⟩
      have celd := TW5.out.y.cell (k := q) (by omega)
      rw [← hcd] at celd
      have frd := TW5.out.y.loose q (by omega)
      have fxd := flip_one d
      rw [← hcd'] at fxd
      have TW6 := hide ((TW5.out.swap.flip (p := q) (by rw [hYl]; omega) d').swap)
      have Nd := hide (show d' ≠ Y.getD q 0 by
        rw [hcd', List.getD_eq_getElem?_getD, List.getElem?_eq_getElem (show q < Y.length by omega), Option.getD_some, ← hcd]
        exact flip_ne d)
      clear hcd hcd'
      go_upto_region 10 with fail
      obtain ⟨w6, hw6⟩ : ∃ w6, w6 = w5.setCell ⟨b2', q, none⟩ (.int .u8 (d'.toNat : Int)) := ⟨_, rfl⟩
      rw [← hw6] at TW6 ⊢
      clear hw6 celd frd fxd
      have V7 := hide (V4.out.below TW6.out.below)
      have hn1 := TW6.out.n1
      have hn2 := TW6.out.n2
      have hr1 := TW6.out.r1
      have hr2 := TW6.out.r2
      skip
      rw [List.length_set] at hr2
      have hg4 := V4.out.1.lt
      have PK := hide (pick_any g b1' c1 b2' c2 0 (X) (Y.set q d') w6 V7.out.1 TW6.out.x.row TW6.out.y.row (by exact hXl) (by rw [List.length_set]; exact hYl) (by omega) (by omega) (by omega) (by omega))
      clear hn1 hn2 hr1 hr2
      go_wp2_with fail
      refine PK.out.mono ?_
      rintro e w8 ⟨v, er, rfl, hpe, ⟨m8, hs8⟩, hg8⟩
      obtain ⟨hv, rfl⟩ := PL.out q d' _ _ hqb Nd.out hpe
      replace hv : v = .agg #[.int .i64 (ex : Int), .int .i64 (ax : Int), .int .i64 (bx : Int), .int .i64 (cx : Int)] := hv
      subst hv
      have V8 := hide (V7.out.grown hs8 hg8)
      clear hpe hs8 hg8 PK V7
      go_upto_region 11 with fail
      obtain ⟨w9, hw9⟩ : ∃ w9, w9 = w8.alloc (.cells #[.int .i64 (ex : Int), .int .i64 (ax : Int), .int .i64 (bx : Int), .int .i64 (cx : Int)] 41) := ⟨_, rfl⟩
      have N9 : Below w8.heap.size w8 w9 := by rw [hw9]; exact (Below.refl _ _).alloc (Nat.le_refl _) _
      have Z9 : Blk w9 w8.heap.size 41 #[.int .i64 (ex : Int), .int .i64 (ax : Int), .int .i64 (bx : Int), .int .i64 (cx : Int)] := by rw [hw9]; exact Blk.new _ _ _
      obtain ⟨r, hr⟩ : ∃ r, r = w8.heap.size := ⟨_, rfl⟩
      rw [← hr] at Z9
      have V9 := hide (V8.out.below N9)
      rw [← hw9, ← hr]
      clear N9 hw9 hr V8
      obtain ⟨⟨z0, z1, z2, z3⟩, _⟩ := su_there Z9
      obtain ⟨⟨a0, a1, a2, a3⟩, _⟩ := su_there (BF.out _ _ _ V9.out).1
      obtain ⟨⟨b0, b1, b2, b3⟩, _⟩ := su_there (BF.out _ _ _ V9.out).2.1
      clear Z9
      go_wp2_with fail
      go_ret
      exact ⟨rfl, (BF.out _ _ _ V9.out).2.2.2⟩
    · have hqi : (256 : Int) ≤ (q : Int) := by omega
      go_upto_region 10 with fail
      by_cases hlt : (ey : Int) < (ex : Int)
      · rw [if_pos hlt] at PB
        have hld := decide_eq_true hlt
        have V7 := hide (V4.out.below TW5.out.below)
        have hn1 := TW5.out.n1
        have hn2 := TW5.out.n2
        have hr1 := TW5.out.r1
        have hr2 := TW5.out.r2
        skip
        skip
        have hg4 := V4.out.1.lt
        have PK := hide (pick_any g b1' c1 b2' c2 0 (X) (Y) w5 V7.out.1 TW5.out.x.row TW5.out.y.row (by exact hXl) (by exact hYl) (by omega) (by omega) (by omega) (by omega))
        clear hn1 hn2 hr1 hr2
        go_wp2_with fail
        refine PK.out.mono ?_
        rintro e w8 ⟨v, er, rfl, hpe, ⟨m8, hs8⟩, hg8⟩
        obtain ⟨hv, rfl⟩ := PB.out _ _ hpe
        replace hv : v = .agg #[.int .i64 (ex : Int), .int .i64 (ax : Int), .int .i64 (bx : Int), .int .i64 (cx : Int)] := hv
        subst hv
        have V8 := hide (V7.out.grown hs8 hg8)
        clear hpe hs8 hg8 PK V7
        go_upto_region 11 with fail
        obtain ⟨w9, hw9⟩ : ∃ w9, w9 = w8.alloc (.cells #[.int .i64 (ex : Int), .int .i64 (ax : Int), .int .i64 (bx : Int), .int .i64 (cx : Int)] 41) := ⟨_, rfl⟩
        have N9 : Below w8.heap.size w8 w9 := by rw [hw9]; exact (Below.refl _ _).alloc (Nat.le_refl _) _
        have Z9 : Blk w9 w8.heap.size 41 #[.int .i64 (ex : Int), .int .i64 (ax : Int), .int .i64 (bx : Int), .int .i64 (cx : Int)] := by rw [hw9]; exact Blk.new _ _ _
        obtain ⟨r, hr⟩ : ∃ r, r = w8.heap.size := ⟨_, rfl⟩
        rw [← hr] at Z9
        have V9 := hide (V8.out.below N9)
        rw [← hw9, ← hr]
        clear N9 hw9 hr V8
        obtain ⟨⟨z0, z1, z2, z3⟩, _⟩ := su_there Z9
        obtain ⟨⟨a0, a1, a2, a3⟩, _⟩ := su_there (BF.out _ _ _ V9.out).1
        obtain ⟨⟨b0, b1, b2, b3⟩, _⟩ := su_there (BF.out _ _ _ V9.out).2.1
        clear Z9
        go_upto_region 17 with fail
        go_quiet (fail)
        go_wp2_with fail
        go_ret
        exact ⟨rfl, below_drewN (BF.out _ _ _ V9.out).2.2.2 _⟩
      · rw [if_neg hlt] at PB
        have hld := decide_eq_false hlt
        have hle : (ex : Int) ≤ (ey : Int) := by omega
        have hln : decide (ey < ex) = false := decide_eq_false (by omega)
        clear hlt hle
        have V7 := hide (V4.out.below TW5.out.below)
        have hn1 := TW5.out.n1
        have hn2 := TW5.out.n2
        have hr1 := TW5.out.r1
        have hr2 := TW5.out.r2
        skip
        skip
        have hg4 := V4.out.1.lt
        have PK := hide (pick_any g b1' c1 b2' c2 0 (X) (Y) w5 V7.out.1 TW5.out.x.row TW5.out.y.row (by exact hXl) (by exact hYl) (by omega) (by omega) (by omega) (by omega))
        clear hn1 hn2 hr1 hr2
        go_wp2_with fail
        refine PK.out.mono ?_
        rintro e w8 ⟨v, er, rfl, hpe, ⟨m8, hs8⟩, hg8⟩
        obtain ⟨hv, rfl⟩ := PB.out _ _ hpe
        replace hv : v = .agg #[.int .i64 (ey : Int), .int .i64 (ay : Int), .int .i64 (by_ : Int), .int .i64 (cy : Int)] := hv
        subst hv
        have V8 := hide (V7.out.grown hs8 hg8)
        clear hpe hs8 hg8 PK V7
        go_upto_region 11 with fail
        obtain ⟨w9, hw9⟩ : ∃ w9, w9 = w8.alloc (.cells #[.int .i64 (ey : Int), .int .i64 (ay : Int), .int .i64 (by_ : Int), .int .i64 (cy : Int)] 41) := ⟨_, rfl⟩
        have N9 : Below w8.heap.size w8 w9 := by rw [hw9]; exact (Below.refl _ _).alloc (Nat.le_refl _) _
        have Z9 : Blk w9 w8.heap.size 41 #[.int .i64 (ey : Int), .int .i64 (ay : Int), .int .i64 (by_ : Int), .int .i64 (cy : Int)] := by rw [hw9]; exact Blk.new _ _ _
        obtain ⟨r, hr⟩ : ∃ r, r = w8.heap.size := ⟨_, rfl⟩
        rw [← hr] at Z9
        have V9 := hide (V8.out.below N9)
        rw [← hw9, ← hr]
        clear N9 hw9 hr V8
        obtain ⟨⟨z0, z1, z2, z3⟩, _⟩ := su_there Z9
        obtain ⟨⟨a0, a1, a2, a3⟩, _⟩ := su_there (BF.out _ _ _ V9.out).1
        obtain ⟨⟨b0, b1, b2, b3⟩, _⟩ := su_there (BF.out _ _ _ V9.out).2.1
        clear Z9
        go_upto_region 17 with fail
        go_quiet (fail)
        go_wp2_with fail
        go_ret
        exact ⟨rfl, below_drewN (BF.out _ _ _ V9.out).2.2.2 _⟩

theorem superPicks_walk {w : World} (v0 : Value) (x0 : Su) (f0 : Sup v0 x0) (v1 : Value) (x1 : Su) (f1 : Sup v1 x1) (x2 y2 : Nat) (f2 : x2 ≤ 65535) (g2 : y2 ≤ 65535) :
    Calls Try.prog 20 #[v0, v1, .agg #[.int .u16 x2, .int .u16 y2]] w fun e w' => e = .returned (.bool true) ∧ Below w.heap.size w w' := by
  obtain ⟨rfl, _⟩ := f0
  obtain ⟨rfl, _⟩ := f1
  by_cases h : checkB x0 = true ∧ checkB x1 = true ∧ x0.ep % 2 = 0 ∧ x1.ep % 2 = 1
  · exact picks_in x0 x1 x2 y2 f2 g2 h.1 h.2.1 h.2.2.1 h.2.2.2
  · exact picks_out x0 x1 x2 y2 h
end Go.Proofs.Ytljfomgcoodjkaa
