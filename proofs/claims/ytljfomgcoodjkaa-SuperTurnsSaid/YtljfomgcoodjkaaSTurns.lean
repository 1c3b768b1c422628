/- Told in turn, each in its slot, the super that was told last is the one that is picked: the law's walk. -/
import Derived.Test.YtljfomgcoodjkaaSPicks
namespace Go.Proofs.Ytljfomgcoodjkaa
open Go.RowKit

/-- A slot that tells no super, or an older one. -/
def Older (xs : List UInt8) (slot : Int) (x : Su) : Prop := NoSu xs slot ∨ ∃ p, IsSu xs slot p ∧ p.ep < x.ep
theorem pick_new0 {n : Su} {X Y : List UInt8} {v : Value} {er : Int} (hn : checkB n = true) (h0 : n.ep % 2 = 0) (hX : X = bytesSu n) (ho : Older Y 1 n) (h : PickEnd X Y v er) : v = suV n ∧ er = 0 := by
  subst hX
  rcases h with ⟨h, _⟩ | ⟨x', k1, _, k3, k4⟩ | ⟨_, h, _⟩ | ⟨x', y', k1, k2, k3, k4⟩
  · exact (no_not (is_su hn h0.symm) h).elim
  · rw [is_one hn k1] at k3; exact ⟨k3, k4⟩
  · exact (no_not (is_su hn h0.symm) h).elim
  · rcases ho with ho | ⟨p, hp, hlt⟩
    · exact (no_not k2 ho).elim
    · have e : y' = p := by
        have e2 : bytesSu p = bytesSu y' := hp.2.1.symm.trans k2.2.1
        exact (su_inj hp.1 k2.1 e2).symm
      rw [is_one hn k1, e, if_pos hlt] at k3
      exact ⟨k3, k4⟩
theorem pick_new1 {n : Su} {X Y : List UInt8} {v : Value} {er : Int} (hn : checkB n = true) (h1 : n.ep % 2 = 1) (hY : Y = bytesSu n) (ho : Older X 0 n) (h : PickEnd X Y v er) : v = suV n ∧ er = 0 := by
  subst hY
  rcases h with ⟨_, h, _⟩ | ⟨x', k1, h, _⟩ | ⟨y', _, k2, k3, k4⟩ | ⟨x', y', k1, k2, k3, k4⟩
  · exact (no_not (is_su hn h1.symm) h).elim
  · exact (no_not (is_su hn h1.symm) h).elim
  · rw [is_one hn k2] at k3; exact ⟨k3, k4⟩
  · rcases ho with ho | ⟨p, hp, hlt⟩
    · exact (no_not k1 ho).elim
    · have e : x' = p := by
        have e2 : bytesSu p = bytesSu x' := hp.2.1.symm.trans k1.2.1
        exact (su_inj hp.1 k1.1 e2).symm
      rw [is_one hn k2, e, if_neg (by omega)] at k3
      exact ⟨k3, k4⟩

/-- The two slots. -/
structure Slots (wr : World) (g q4 q8 b0 c0 b1 c1 : Nat) (X0 X1 : List UInt8) : Prop where
  s : Blk wr q8 52 #[.slice (some ⟨b0, 0, none⟩) 256 c0, .slice (some ⟨b1, 0, none⟩) 256 c1]
  r0 : Row wr b0 0 X0
  r1 : Row wr b1 0 X1
  l0 : X0.length = 256
  l1 : X1.length = 256
  k0 : 256 ≤ c0
  k1 : 256 ≤ c1
  g0 : b0 ≠ g
  g1 : b1 ≠ g
  p0 : b0 ≠ q4
  p1 : b1 ≠ q4
  t0 : b0 ≠ q8
  t1 : b1 ≠ q8
theorem Slots.below {wr w' : World} {g q4 q8 b0 c0 b1 c1 : Nat} {X0 X1 : List UInt8} (h : Slots wr g q4 q8 b0 c0 b1 c1 X0 X1) (hb : Below wr.heap.size wr w') : Slots w' g q4 q8 b0 c0 b1 c1 X0 X1 :=
  ⟨h.s.below hb h.s.lt, h.r0.below hb, h.r1.below hb, h.l0, h.l1, h.k0, h.k1, h.g0, h.g1, h.p0, h.p1, h.t0, h.t1⟩
theorem Slots.grown {wr w' : World} {g q4 q8 b0 c0 b1 c1 : Nat} {X0 X1 : List UInt8} (h : Slots wr g q4 q8 b0 c0 b1 c1 X0 X1) (hg : wr.grownBy w' (some g)) (hq : q8 ≠ g) : Slots w' g q4 q8 b0 c0 b1 c1 X0 X1 :=
  ⟨h.s.grown hg (fun e => hq (Option.some.inj e)), h.r0.grown hg h.g0, h.r1.grown hg h.g1, h.l0, h.l1, h.k0, h.k1, h.g0, h.g1, h.p0, h.p1, h.t0, h.t1⟩

/-- Behind some turns: the super told last, and the slots. -/
structure TR (w wr : World) (g q4 q8 ec rt fr pg : Nat) : Prop where
  und : ∃ m, Und w.heap.size w wr g m
  x : Blk wr q4 41 #[.int .i64 (ec : Int), .int .i64 (rt : Int), .int .i64 (fr : Int), .int .i64 (pg : Int)]
  chk : checkB ⟨ec, rt, fr, pg⟩ = true
  s : ∃ b0 c0 b1 c1 X0 X1, Slots wr g q4 q8 b0 c0 b1 c1 X0 X1 ∧ ((ec % 2 = 0 ∧ X0 = bytesSu ⟨ec, rt, fr, pg⟩ ∧ Older X1 1 ⟨ec, rt, fr, pg⟩) ∨ (ec % 2 = 1 ∧ X1 = bytesSu ⟨ec, rt, fr, pg⟩ ∧ Older X0 0 ⟨ec, rt, fr, pg⟩))
theorem TR.below {w wr w' : World} {g q4 q8 ec rt fr pg : Nat} (h : TR w wr g q4 q8 ec rt fr pg) (hb : Below wr.heap.size wr w') : TR w w' g q4 q8 ec rt fr pg := by
  obtain ⟨⟨m, hm⟩, hx, hc, b0, c0, b1, c1, X0, X1, hs, ho⟩ := h
  exact ⟨⟨m, hm.below hb⟩, hx.below hb hx.lt, hc, b0, c0, b1, c1, X0, X1, hs.below hb, ho⟩
theorem TR.grown {w wr w' : World} {g q4 q8 ec rt fr pg : Nat} (h : TR w wr g q4 q8 ec rt fr pg) (hg : wr.grownBy w' (some g)) (hs : ∃ m, SumAt w' g m) (h4 : q4 ≠ g) (h8 : q8 ≠ g) : TR w w' g q4 q8 ec rt fr pg := by
  obtain ⟨⟨m, hm⟩, hx, hc, b0, c0, b1, c1, X0, X1, hsl, ho⟩ := h
  obtain ⟨m', hm'⟩ := hs
  exact ⟨⟨m', hm.grown hm' hg⟩, hx.grown hg (fun e => h4 (Option.some.inj e)), hc, b0, c0, b1, c1, X0, X1, hsl.grown hg h8, ho⟩

theorem und_drew {B : Nat} {w0 w : World} {g : Nat} {m : Int} (h : Und B w0 w g m) : Und B w0 w.drew g m := ⟨h.1.drew, h.2.1.drew, h.2.2.1, h.2.2.2⟩
theorem und_put {B : Nat} {w0 W : World} {g q4 q8 i : Nat} {m : Int} {v a b c d : Value} (h : Und B w0 W g m) (h4 : B ≤ q4) (h8 : B ≤ q8) (g4 : q4 ≠ g) (g8 : q8 ≠ g) :
    Und B w0 (((((W.setCell ⟨q8, i, none⟩ v).setCell ⟨q4, 0, none⟩ a).setCell ⟨q4, 1, none⟩ b).setCell ⟨q4, 2, none⟩ c).setCell ⟨q4, 3, none⟩ d).drew g m := by
  exact und_drew (((((h.setCell (i := i) h8 g8.symm v).setCell (i := 0) h4 g4.symm a).setCell (i := 1) h4 g4.symm b).setCell (i := 2) h4 g4.symm c).setCell (i := 3) h4 g4.symm d)
theorem row_put {W : World} {q4 q8 i bb : Nat} {X : List UInt8} {v a b c d : Value} (h : Row W bb 0 X) (h4 : bb ≠ q4) (h8 : bb ≠ q8) :
    Row (((((W.setCell ⟨q8, i, none⟩ v).setCell ⟨q4, 0, none⟩ a).setCell ⟨q4, 1, none⟩ b).setCell ⟨q4, 2, none⟩ c).setCell ⟨q4, 3, none⟩ d).drew bb 0 X :=
  (((((h.set_far h8 v).set_far h4 a).set_far h4 b).set_far h4 c).set_far h4 d).drew
theorem box_put {W : World} {q4 q8 i : Nat} {x0 x1 x2 x3 v a b c d : Value} (h : Blk W q4 41 #[x0, x1, x2, x3]) (h8 : q4 ≠ q8) :
    Blk (((((W.setCell ⟨q8, i, none⟩ v).setCell ⟨q4, 0, none⟩ a).setCell ⟨q4, 1, none⟩ b).setCell ⟨q4, 2, none⟩ c).setCell ⟨q4, 3, none⟩ d).drew q4 41 #[a, b, c, d] :=
  (su_blk (h.far h8 v) a b c d).drew
theorem arr_put {W : World} {q4 q8 i : Nat} {C : Array Value} {v a b c d : Value} (h : Blk W q8 52 C) (h8 : q8 ≠ q4) :
    Blk (((((W.setCell ⟨q8, i, none⟩ v).setCell ⟨q4, 0, none⟩ a).setCell ⟨q4, 1, none⟩ b).setCell ⟨q4, 2, none⟩ c).setCell ⟨q4, 3, none⟩ d).drew q8 52 (C.setIfInBounds i v) :=
  (((((h.set_ i v).far h8 a).far h8 b).far h8 c).far h8 d).drew

set_option maxRecDepth 100000 in
set_option maxHeartbeats 4000000 in
theorem superTurns_walk {w : World} (v0 : Value) (x0 : List Su) (f0 : Sups w v0 x0) :
    Calls Try.prog 9 #[v0] w fun e w' => e = .returned (.bool true) ∧ Below w.heap.size w w' := by
  obtain ⟨A, c, rfl, _, hm, hsm, hcells⟩ := f0
  unfold maxLen at hm
  have hln : x0.length ≤ 9223372036854775807 := by omega
  have HC := hide hcells
  have HI := hide hsm
  clear hcells hsm
  go_enter Try.func9, Try.ntmps9
  go_wp2_with fail
  refine (new_any _).mono ?_
  rintro e w1 ⟨g, rfl, hu⟩
  have V1 := hide hu
  clear hu
  go_wp2_with fail
  refine (awake7 _).mono ?_
  rintro e w2 ⟨rfl, hb⟩
  have V2 := hide (V1.out.below hb)
  clear hb V1
  by_cases hl : x0.length ≤ 20
  case neg =>
    have hli : (20 : Int) < (x0.length : Int) := by omega
    go_wp2_with fail
    refine (awake7 _).mono ?_
    rintro e w3 ⟨rfl, hb⟩
    have V3 := hide (V2.out.below hb)
    clear hb
    go_wp2_with fail
    go_ret
    exact ⟨rfl, V3.out.2.1⟩
  have hli : (x0.length : Int) ≤ 20 := by omega
  go_upto_region 5 with fail
  obtain ⟨w3, hw3⟩ : ∃ w3, w3 = w2.alloc (.cells #[.int .i64 0, .int .i64 0, .int .i64 0, .int .i64 2] 41) := ⟨_, rfl⟩
  have N3 : Below w2.heap.size w2 w3 := by rw [hw3]; exact (Below.refl _ _).alloc (Nat.le_refl _) _
  have X3' : Blk w3 w2.heap.size 41 #[.int .i64 0, .int .i64 0, .int .i64 0, .int .i64 2] := by rw [hw3]; exact Blk.new _ _ _
  obtain ⟨q4, hq4⟩ : ∃ q, q = w2.heap.size := ⟨_, rfl⟩
  have hq4g : q4 ≠ g := by have := V2.out.1.lt; omega
  have hq4w : w.heap.size ≤ q4 := by have := V2.out.2.2.2; omega
  rw [← hq4] at X3'
  have X3 := hide X3'
  have V3 := hide (V2.out.below N3)
  rw [← hw3, ← hq4]
  clear N3 X3' hw3 hq4 V2
  obtain ⟨⟨a0, a1, a2, a3⟩, _⟩ := su_there X3.out
  have chk0 : checkB ⟨0, 0, 0, 2⟩ = true := by decide
  have PT := hide (sput_ok g 0 ⟨0, 0, 0, 2⟩ w3 V3.out.1 chk0)
  obtain ⟨B0, hB0⟩ : ∃ B, B = bytesSu ⟨0, 0, 0, 2⟩ := ⟨_, rfl⟩
  have hB0l : B0.length = 256 := by rw [hB0]; exact su_len chk0
  rw [← hB0] at PT
  have EB0 := hide hB0
  clear hB0
  unfold suV at PT
  go_wp2_with fail
  refine PT.out.mono ?_
  rintro e w4 ⟨b, rfl, hbn, hbuf, ⟨m4, hs4⟩, hg4⟩
  rw [show ((⟨0, 0, 0, 2⟩ : Su).ep % 2) = 0 from rfl]
  have V4 := hide (V3.out.grown hs4 hg4)
  have R4 := hide hbuf.row
  have X4 := hide (X3.out.grown hg4 (fun e => hq4g (Option.some.inj e)))
  have hbg : b ≠ g := by have := V3.out.1.lt; omega
  have hbq4 : b ≠ q4 := by have := X3.out.lt; omega
  clear hbn hbuf hs4 hg4 PT V3 X3 a0 a1 a2 a3
  have mk := make256
  go_upto_region 7 with fail
  obtain ⟨q8, hq8⟩ : ∃ q, q = (zeroW w4 256).heap.size := ⟨_, rfl⟩
  obtain ⟨w5, hw5⟩ : ∃ w5, w5 = (zeroW w4 256).alloc (.cells #[.slice (some ⟨b, 0, none⟩) 256 256, .slice (some ⟨w4.heap.size, 0, none⟩) 256 256] 52) := ⟨_, rfl⟩
  have ZB := zeroW_bytes w4 256
  have NZ : Below w4.heap.size w4 w5 := by rw [hw5]; exact ZB.below.alloc ZB.below.size _
  have hq8w : w4.heap.size < q8 := by rw [hq8]; exact ZB.lt
  have S5 : Blk w5 q8 52 #[.slice (some ⟨b, 0, none⟩) 256 256, .slice (some ⟨w4.heap.size, 0, none⟩) 256 256] := by rw [hw5, hq8]; exact Blk.new _ _ _
  have Z5 : Row w5 w4.heap.size 0 (List.replicate 256 0) := by rw [hw5]; exact ZB.row.below ((Below.refl _ _).alloc (Nat.le_refl _) _)
  have hg4 := V4.out.1.lt
  have hb4 : b < w4.heap.size := World.block_lt_of_cell? w4 _ (R4.out 0 (by rw [hB0l]; omega))
  have hx4 := X4.out.lt
  have hq8g : q8 ≠ g := by omega
  have hq48 : q4 ≠ q8 := by omega
  have hq8w' : w.heap.size ≤ q8 := by have := V4.out.2.2.2; omega
  have TR5 := hide (show TR w w5 g q4 q8 0 0 0 2 from ⟨⟨m4, V4.out.below NZ⟩, X4.out.below NZ hx4, chk0, b, 256, w4.heap.size, 256, B0, List.replicate 256 0,
    ⟨S5, R4.out.below NZ, Z5, hB0l, List.length_replicate, by omega, by omega, hbg, by omega, hbq4, by omega, by omega, by omega⟩, .inl ⟨rfl, EB0.out, .inl (no_zeros 1)⟩⟩)
  rw [← hw5, ← hq8]
  clear S5 Z5 NZ ZB hw5 hq8 hg4 hb4 hx4 hq8w V4 R4 X4 hbg hbq4 mk chk0 EB0 hB0l
  go_wp2_with fail
  go_loopw [9] (fun i wr => ∃ k ec rt fr pg : Nat, k ≤ x0.length ∧ ec ≤ k ∧ i = .int .i64 k ∧ TR w wr g q4 q8 ec rt fr pg) (fun i _ => x0.length - (intOf i).toNat)
  case atStart => exact ⟨0, 0, 0, 0, 2, by omega, by omega, rfl, TR5.out⟩
  case round =>
    obtain ⟨k, ec, rt, fr, pg, hk, hec, rfl, htr⟩ := hrel
    have T0 := hide htr
    clear htr
    by_cases hlt : k < x0.length
    · obtain ⟨lb, off, rfl, hcl⟩ : ∃ b off, A = some ⟨b, off, none⟩ ∧ (w.cell? ⟨b, off + 4 * k, none⟩ = some (.int .i64 x0[k].ep) ∧ w.cell? ⟨b, off + 4 * k + 1, none⟩ = some (.int .i64 x0[k].rt) ∧
          w.cell? ⟨b, off + 4 * k + 2, none⟩ = some (.int .i64 x0[k].fr) ∧ w.cell? ⟨b, off + 4 * k + 3, none⟩ = some (.int .i64 x0[k].pg)) := by
        rcases HC.out with h | ⟨b, off, hA, h⟩
        · rw [h] at hlt; simp at hlt
        · exact ⟨b, off, hA, h k hlt⟩
      obtain ⟨m0, hm0⟩ := T0.out.und
      obtain ⟨le, hle⟩ : ∃ y, y = x0[k].ep := ⟨_, rfl⟩
      obtain ⟨lr, hlr⟩ : ∃ y, y = x0[k].rt := ⟨_, rfl⟩
      obtain ⟨lf, hlf⟩ : ∃ y, y = x0[k].fr := ⟨_, rfl⟩
      obtain ⟨lp, hlp⟩ : ∃ y, y = x0[k].pg := ⟨_, rfl⟩
      rw [← hle, ← hlr, ← hlf, ← hlp] at hcl
      clear hle hlr hlf hlp
      obtain ⟨o, ho⟩ : ∃ o, o = off + 4 * k := ⟨_, rfl⟩
      rw [← ho] at hcl
      have hBk := hide hm0.2.1
      have LC := hide (fun W (h : Below wr.heap.size wr W) => And.intro ((hBk.out.trans (h.mono hBk.out.size)).old hcl.2.1) (And.intro ((hBk.out.trans (h.mono hBk.out.size)).old hcl.2.2.1) ((hBk.out.trans (h.mono hBk.out.size)).old hcl.2.2.2)))
      have XC := hide (fun W (h : Below wr.heap.size wr W) => (su_there ((T0.out.below h).x)).1)
      clear hcl hm0
      obtain ⟨en, hen⟩ : ∃ en, en = ec + 1 := ⟨_, rfl⟩
      have heni : (ec : Int) + 1 = (en : Int) := by omega
      have NX := hide (fun W => next_any ⟨ec, rt, fr, pg⟩ lr lf lp W (by show (0 : Int) ≤ (ec : Int); omega) (by show (ec : Int) ≤ 4294967296; omega))
      dsimp only at NX
      rw [heni] at NX
      unfold suV at NX
      dsimp only at NX
      have HEN := hide hen
      clear hen
      have SF := hide (fun W (h : Below wr.heap.size wr W) => And.intro (XC.out W h) (show W.cell? ⟨lb, off + k * 4 + 1, none⟩ = some (.int .i64 lr) ∧ W.cell? ⟨lb, off + k * 4 + 2, none⟩ = some (.int .i64 lf) ∧ W.cell? ⟨lb, off + k * 4 + 3, none⟩ = some (.int .i64 lp) by
        have h3 := LC.out W h
        rw [ho, Nat.mul_comm 4 k] at h3
        exact h3))
      clear ho
      go_upto_region 10 with fail
      go_cut [10] (fun s10 wx => ∃ q, s10 = .pointer (some ⟨q, 0, none⟩) ∧ wr.heap.size ≤ q ∧ Blk wx q 41 #[.int .i64 (en : Int), .int .i64 lr, .int .i64 lf, .int .i64 lp] ∧ Below wr.heap.size wr wx)
      case first =>
        go_region_held3 (fun W => (W.cell? ⟨q4, 0, none⟩ = some (.int .i64 (ec : Int)) ∧ W.cell? ⟨q4, 1, none⟩ = some (.int .i64 (rt : Int)) ∧ W.cell? ⟨q4, 2, none⟩ = some (.int .i64 (fr : Int)) ∧ W.cell? ⟨q4, 3, none⟩ = some (.int .i64 (pg : Int))) ∧
            W.cell? ⟨lb, off + k * 4 + 1, none⟩ = some (.int .i64 lr) ∧ W.cell? ⟨lb, off + k * 4 + 2, none⟩ = some (.int .i64 lf) ∧ W.cell? ⟨lb, off + k * 4 + 3, none⟩ = some (.int .i64 lp))
          (first
            | exact SF.out _ (Below.refl _ _).drew
            | exact SF.out _ B5.out
            | exact SF.out _ (B5.out.alloc B5.out.size _)
            | exact SF.out _ ((Below.refl _ _).drew.alloc (Nat.le_refl _) _)
            | exact SF.out _ ((((B5.out.setCell TQ.out _).setCell TQ.out _).setCell TQ.out _).setCell TQ.out _))
          (first
            | (go_at_call 33; refine (NX.out _).mono ?_; rintro e W5 ⟨rfl, hb5⟩
               first
                 | (have TQ := hide (Nat.le_refl wr.heap.size)
                    have TB := hide ((show Blk (wr.alloc (.cells #[.int .i64 0, .int .i64 0, .int .i64 0, .int .i64 0] 41)).drew wr.heap.size 41 #[.int .i64 0, .int .i64 0, .int .i64 0, .int .i64 0] from (Blk.new _ _ _).drew).below hb5 (by simp))
                    have B5 := hide (((Below.refl wr.heap.size wr).drew.alloc (Nat.le_refl _) (.cells #[.int .i64 0, .int .i64 0, .int .i64 0, .int .i64 0] 41)).trans (hb5.mono ((Below.refl wr.heap.size wr).drew.alloc (Nat.le_refl _) (.cells #[.int .i64 0, .int .i64 0, .int .i64 0, .int .i64 0] 41)).size))
                    obtain ⟨⟨t0, t1, t2, t3⟩, t4, t5, t6, t7⟩ := su_there TB.out)
                 | have B5 := hide ((Below.refl wr.heap.size wr).drew.trans (hb5.mono (Nat.le_refl _)))
               clear hb5
               dsimp only))
        all_goals (
          go_wp2_with fail
          go_meet
          first
            | exact ⟨_, rfl, TQ.out, su_blk TB.out _ _ _ _, (((B5.out.setCell TQ.out _).setCell TQ.out _).setCell TQ.out _).setCell TQ.out _⟩
            | exact ⟨_, rfl, B5.out.size, Blk.new _ _ _, B5.out.alloc B5.out.size _⟩)
      obtain ⟨q10, rfl, hq10, hN, hbel⟩ := hcut
      have T1 := hide (T0.out.below hbel)
      have N1 := hide hN
      have nq4 : q10 ≠ q4 := by have := T0.out.x.lt; omega
      have nq8 : q10 ≠ q8 := by obtain ⟨_, _, _, _, _, _, hs, _⟩ := T0.out.s; have := hs.s.lt; omega
      have nq4' := nq4.symm
      have nq8' := nq8.symm
      have NG := hide (show q10 ≠ g by obtain ⟨m, hm⟩ := T0.out.und; have := hm.1.lt; omega)
      clear hN hbel LC XC SF NX hBk hq10
      obtain ⟨⟨n0, n1, n2, n3⟩, _⟩ := su_there N1.out
      have RC := hide (fun W => ref_check ⟨en, lr, lf, lp⟩ W)
      by_cases hn : checkB ⟨en, lr, lf, lp⟩ = true
      case neg =>
        have hnf : checkB ⟨en, lr, lf, lp⟩ = false := by simpa using hn
        have PT := hide (sput_no g ⟨en, lr, lf, lp⟩ wc hnf)
        rw [hnf] at RC
        unfold suV at PT RC
        dsimp only at PT RC
        clear hn hnf
        go_wp2_with fail
        refine PT.out.mono ?_
        rintro e w7 ⟨rfl, hb⟩
        have T2 := hide (T1.out.below hb)
        have N2 := hide (N1.out.below hb N1.out.lt)
        clear hb n0 n1 n2 n3 T1 N1 PT
        obtain ⟨⟨n0, n1, n2, n3⟩, _⟩ := su_there N2.out
        go_wp2_with fail
        refine (RC.out w7).mono ?_
        rintro e w8 ⟨rfl, hb⟩
        have T3 := hide (T2.out.below hb)
        clear hb n0 n1 n2 n3 T2 N2
        go_wp2_with fail
        go_roundw
        case rel => exact ⟨k + 1, ec, rt, fr, pg, by omega, by omega, by go_num, T3.out⟩
        case measure => simp [intOf]; omega
      rw [hn] at RC
      obtain ⟨en_, rn, fn, pn, hne, l1, l2, l3, l4, l5⟩ := check_nat hn
      injection hne with h1 h2 h3 h4
      obtain rfl : en_ = en := by omega
      subst h2 h3 h4
      clear h1
      obtain ⟨m1, hm1⟩ := T1.out.und
      have PT := hide (sput_ok g m1 ⟨en_, rn, fn, pn⟩ wc hm1.1 hn)
      clear hm1
      obtain ⟨Bn, hBn⟩ : ∃ B, B = bytesSu ⟨en_, rn, fn, pn⟩ := ⟨_, rfl⟩
      have hBl : Bn.length = 256 := by rw [hBn]; exact su_len hn
      rw [← hBn] at PT
      have EB := hide hBn
      have HN := hide hn
      clear hBn hn
      unfold suV at PT RC
      dsimp only at PT RC
      rcases (show en_ % 2 = 0 ∨ en_ % 2 = 1 by omega) with hpar | hpar
      · skip
        have hsl : (en_ : Int) % 2 = 0 := by omega
        have hand : (en_ : Int).tmod 2 = 0 := by have e : (en_ : Int).tmod 2 = ((en_ % 2 : Nat) : Int) := rfl; rw [e]; omega
        have HSL := hide hsl
        rw [hsl] at PT
        clear hsl hpar
        go_wp2_with fail
        refine PT.out.mono ?_
        rintro e w7 ⟨b', rfl, hbn, hbuf, hsm7, hg7⟩
        have T2 := hide (T1.out.grown hg7 hsm7 hq4g hq8g)
        have N2 := hide (N1.out.grown hg7 (fun e => by have := NG.out; injection e with e; exact this e))
        have R2 := hide hbuf.row
        have b4 : b' ≠ q4 := by have := T1.out.x.lt; omega
        have b8 : b' ≠ q8 := by obtain ⟨_, _, _, _, _, _, hs, _⟩ := T1.out.s; have := hs.s.lt; omega
        have bg : b' ≠ g := by obtain ⟨m, hm⟩ := T1.out.und; have := hm.1.lt; omega
        clear hbn hbuf hsm7 hg7 n0 n1 n2 n3 T1 N1 PT
        obtain ⟨⟨n0, n1, n2, n3⟩, _⟩ := su_there N2.out
        go_wp2_with fail
        refine (RC.out w7).mono ?_
        rintro e w8 ⟨rfl, hb⟩
        have T3 := hide (T2.out.below hb)
        have N3 := hide (N2.out.below hb N2.out.lt)
        have R3 := hide (R2.out.below hb)
        clear hb n0 n1 n2 n3 T2 N2 R2
        obtain ⟨⟨n0, n1, n2, n3⟩, _⟩ := su_there N3.out
        obtain ⟨⟨x0', x1, x2, x3⟩, y0, y1, y2, y3⟩ := su_there T3.out.x
        obtain ⟨b0, c0, b1, c1, X0, X1, hsl, hold⟩ := T3.out.s
        have SL := hide hsl
        have OL := hide hold
        clear hsl hold
        have s0 := SL.out.s.cell 0
        have s1 := SL.out.s.cell 1
        have f0 := SL.out.s.frozen 0
        have f1 := SL.out.s.frozen 1
        simp at s0 s1
        go_upto_region 17 with fail
        go_region
        obtain ⟨w9, hw9⟩ : ∃ w9, w9 = (((((w8.setCell ⟨q8, 0, none⟩ (.slice (some ⟨b', 0, none⟩) 256 256)).setCell ⟨q4, 0, none⟩ (.int .i64 (en_ : Int))).setCell ⟨q4, 1, none⟩ (.int .i64 (rn : Int))).setCell ⟨q4, 2, none⟩ (.int .i64 (fn : Int))).setCell ⟨q4, 3, none⟩ (.int .i64 (pn : Int))).drew := ⟨_, rfl⟩
        have OLD := hide (show Older X1 1 ⟨en_, rn, fn, pn⟩ by
            rcases OL.out with ⟨h, _⟩ | ⟨h, h2, _⟩
            · have := HSL.out; have := HEN.out; omega
            · exact .inr ⟨⟨ec, rt, fr, pg⟩, ⟨T3.out.chk, h2, by show (1 : Int) = (ec : Int) % 2; omega⟩, by show (ec : Int) < (en_ : Int); have := HEN.out; omega⟩)
        have U9 : ∃ m, Und w.heap.size w w9 g m := by
          obtain ⟨m, hm⟩ := T3.out.und
          rw [hw9]
          exact ⟨m, und_put hm hq4w hq8w' hq4g hq8g⟩
        have X9 : Blk w9 q4 41 #[.int .i64 (en_ : Int), .int .i64 (rn : Int), .int .i64 (fn : Int), .int .i64 (pn : Int)] := by rw [hw9]; exact box_put T3.out.x hq48
        have S9 : Slots w9 g q4 q8 b' 256 b1 c1 Bn X1 := by rw [hw9]; exact ⟨arr_put SL.out.s hq48.symm, row_put R3.out b4 b8, row_put SL.out.r1 SL.out.p1 SL.out.t1, hBl, SL.out.l1, by omega, SL.out.k1, bg, SL.out.g1, b4, SL.out.p1, b8, SL.out.t1⟩
        rw [← hw9]
        have SN := hide S9
        have TN := hide (show TR w w9 g q4 q8 en_ rn fn pn from ⟨U9, X9, HN.out, ⟨b', 256, b1, c1, Bn, X1, SN.out, .inl ⟨by have := HSL.out; omega, EB.out, OLD.out⟩⟩⟩)
        obtain ⟨m9, hm9⟩ := U9
        have PK := hide (pick_any g b' 256 b1 c1 m9 Bn X1 w9 hm9.1 SN.out.r0 SN.out.r1 SN.out.l0 SN.out.l1 SN.out.g0 SN.out.g1 SN.out.k0 SN.out.k1)
        clear hw9 X9 S9 hm9 T3 R3 N3 SL s0 s1 f0 f1 y0 y1 y2 y3 x0' x1 x2 x3 n0 n1 n2 n3 b4 b8 bg
        have s0 := SN.out.s.cell 0
        have s1 := SN.out.s.cell 1
        simp at s0 s1
        go_wp2_with fail
        refine PK.out.mono ?_
        rintro e w10 ⟨v, er, rfl, hpe, hsm10, hg10⟩
        obtain ⟨hv, rfl⟩ := pick_new0 HN.out (by show (en_ : Int) % 2 = 0; exact HSL.out) EB.out OLD.out hpe
        replace hv : v = .agg #[.int .i64 (en_ : Int), .int .i64 (rn : Int), .int .i64 (fn : Int), .int .i64 (pn : Int)] := hv
        subst hv
        have T10 := hide (TN.out.grown hg10 hsm10 hq4g hq8g)
        clear hpe hsm10 hg10 PK TN SN s0 s1
        go_upto_region 19 with fail
        obtain ⟨w11, hw11⟩ : ∃ w11, w11 = w10.alloc (.cells #[.int .i64 (en_ : Int), .int .i64 (rn : Int), .int .i64 (fn : Int), .int .i64 (pn : Int)] 41) := ⟨_, rfl⟩
        have N11 : Below w10.heap.size w10 w11 := by rw [hw11]; exact (Below.refl _ _).alloc (Nat.le_refl _) _
        have Z11 : Blk w11 w10.heap.size 41 #[.int .i64 (en_ : Int), .int .i64 (rn : Int), .int .i64 (fn : Int), .int .i64 (pn : Int)] := by rw [hw11]; exact Blk.new _ _ _
        obtain ⟨q14, hq14⟩ : ∃ q, q = w10.heap.size := ⟨_, rfl⟩
        rw [← hq14] at Z11
        have T11 := hide (T10.out.below N11)
        rw [← hw11, ← hq14]
        clear N11 hw11 hq14 T10
        obtain ⟨⟨z0, z1, z2, z3⟩, _⟩ := su_there Z11
        obtain ⟨⟨x0', x1, x2, x3⟩, _⟩ := su_there T11.out.x
        clear Z11
        go_wp2_with fail
        go_roundw
        case rel => exact ⟨k + 1, en_, rn, fn, pn, by omega, by have := HEN.out; omega, by go_num, T11.out⟩
        case measure => simp [intOf]; omega
      · skip
        have hsl : (en_ : Int) % 2 = 1 := by omega
        have hand : (en_ : Int).tmod 2 = 1 := by have e : (en_ : Int).tmod 2 = ((en_ % 2 : Nat) : Int) := rfl; rw [e]; omega
        have HSL := hide hsl
        rw [hsl] at PT
        clear hsl hpar
        go_wp2_with fail
        refine PT.out.mono ?_
        rintro e w7 ⟨b', rfl, hbn, hbuf, hsm7, hg7⟩
        have T2 := hide (T1.out.grown hg7 hsm7 hq4g hq8g)
        have N2 := hide (N1.out.grown hg7 (fun e => by have := NG.out; injection e with e; exact this e))
        have R2 := hide hbuf.row
        have b4 : b' ≠ q4 := by have := T1.out.x.lt; omega
        have b8 : b' ≠ q8 := by obtain ⟨_, _, _, _, _, _, hs, _⟩ := T1.out.s; have := hs.s.lt; omega
        have bg : b' ≠ g := by obtain ⟨m, hm⟩ := T1.out.und; have := hm.1.lt; omega
        clear hbn hbuf hsm7 hg7 n0 n1 n2 n3 T1 N1 PT
        obtain ⟨⟨n0, n1, n2, n3⟩, _⟩ := su_there N2.out
        go_wp2_with fail
        refine (RC.out w7).mono ?_
        rintro e w8 ⟨rfl, hb⟩
        have T3 := hide (T2.out.below hb)
        have N3 := hide (N2.out.below hb N2.out.lt)
        have R3 := hide (R2.out.below hb)
        clear hb n0 n1 n2 n3 T2 N2 R2
        obtain ⟨⟨n0, n1, n2, n3⟩, _⟩ := su_there N3.out
        obtain ⟨⟨x0', x1, x2, x3⟩, y0, y1, y2, y3⟩ := su_there T3.out.x
        obtain ⟨b0, c0, b1, c1, X0, X1, hsl, hold⟩ := T3.out.s
        have SL := hide hsl
        have OL := hide hold
        clear hsl hold
        have s0 := SL.out.s.cell 0
        have s1 := SL.out.s.cell 1
        have f0 := SL.out.s.frozen 0
        have f1 := SL.out.s.frozen 1
        simp at s0 s1
        go_upto_region 17 with fail
        go_region
        obtain ⟨w9, hw9⟩ : ∃ w9, w9 = (((((w8.setCell ⟨q8, 1, none⟩ (.slice (some ⟨b', 0, none⟩) 256 256)).setCell ⟨q4, 0, none⟩ (.int .i64 (en_ : Int))).setCell ⟨q4, 1, none⟩ (.int .i64 (rn : Int))).setCell ⟨q4, 2, none⟩ (.int .i64 (fn : Int))).setCell ⟨q4, 3, none⟩ (.int .i64 (pn : Int))).drew := ⟨_, rfl⟩
        have OLD := hide (show Older X0 0 ⟨en_, rn, fn, pn⟩ by
            rcases OL.out with ⟨h, h2, _⟩ | ⟨h, _⟩
            · exact .inr ⟨⟨ec, rt, fr, pg⟩, ⟨T3.out.chk, h2, by show (0 : Int) = (ec : Int) % 2; omega⟩, by show (ec : Int) < (en_ : Int); have := HEN.out; omega⟩
            · have := HSL.out; have := HEN.out; omega)
        have U9 : ∃ m, Und w.heap.size w w9 g m := by
          obtain ⟨m, hm⟩ := T3.out.und
          rw [hw9]
          exact ⟨m, und_put hm hq4w hq8w' hq4g hq8g⟩
        have X9 : Blk w9 q4 41 #[.int .i64 (en_ : Int), .int .i64 (rn : Int), .int .i64 (fn : Int), .int .i64 (pn : Int)] := by rw [hw9]; exact box_put T3.out.x hq48
        have S9 : Slots w9 g q4 q8 b0 c0 b' 256 X0 Bn := by rw [hw9]; exact ⟨arr_put SL.out.s hq48.symm, row_put SL.out.r0 SL.out.p0 SL.out.t0, row_put R3.out b4 b8, SL.out.l0, hBl, SL.out.k0, by omega, SL.out.g0, bg, SL.out.p0, b4, SL.out.t0, b8⟩
        rw [← hw9]
        have SN := hide S9
        have TN := hide (show TR w w9 g q4 q8 en_ rn fn pn from ⟨U9, X9, HN.out, ⟨b0, c0, b', 256, X0, Bn, SN.out, .inr ⟨by have := HSL.out; omega, EB.out, OLD.out⟩⟩⟩)
        obtain ⟨m9, hm9⟩ := U9
        have PK := hide (pick_any g b0 c0 b' 256 m9 X0 Bn w9 hm9.1 SN.out.r0 SN.out.r1 SN.out.l0 SN.out.l1 SN.out.g0 SN.out.g1 SN.out.k0 SN.out.k1)
        clear hw9 X9 S9 hm9 T3 R3 N3 SL s0 s1 f0 f1 y0 y1 y2 y3 x0' x1 x2 x3 n0 n1 n2 n3 b4 b8 bg
        have s0 := SN.out.s.cell 0
        have s1 := SN.out.s.cell 1
        simp at s0 s1
        go_wp2_with fail
        refine PK.out.mono ?_
        rintro e w10 ⟨v, er, rfl, hpe, hsm10, hg10⟩
        obtain ⟨hv, rfl⟩ := pick_new1 HN.out (by show (en_ : Int) % 2 = 1; exact HSL.out) EB.out OLD.out hpe
        replace hv : v = .agg #[.int .i64 (en_ : Int), .int .i64 (rn : Int), .int .i64 (fn : Int), .int .i64 (pn : Int)] := hv
        subst hv
        have T10 := hide (TN.out.grown hg10 hsm10 hq4g hq8g)
        clear hpe hsm10 hg10 PK TN SN s0 s1
        go_upto_region 19 with fail
        obtain ⟨w11, hw11⟩ : ∃ w11, w11 = w10.alloc (.cells #[.int .i64 (en_ : Int), .int .i64 (rn : Int), .int .i64 (fn : Int), .int .i64 (pn : Int)] 41) := ⟨_, rfl⟩
        have N11 : Below w10.heap.size w10 w11 := by rw [hw11]; exact (Below.refl _ _).alloc (Nat.le_refl _) _
        have Z11 : Blk w11 w10.heap.size 41 #[.int .i64 (en_ : Int), .int .i64 (rn : Int), .int .i64 (fn : Int), .int .i64 (pn : Int)] := by rw [hw11]; exact Blk.new _ _ _
        obtain ⟨q14, hq14⟩ : ∃ q, q = w10.heap.size := ⟨_, rfl⟩
        rw [← hq14] at Z11
        have T11 := hide (T10.out.below N11)
        rw [← hw11, ← hq14]
        clear N11 hw11 hq14 T10
        obtain ⟨⟨z0, z1, z2, z3⟩, _⟩ := su_there Z11
        obtain ⟨⟨x0', x1, x2, x3⟩, _⟩ := su_there T11.out.x
        clear Z11
        go_wp2_with fail
        go_roundw
        case rel => exact ⟨k + 1, en_, rn, fn, pn, by omega, by have := HEN.out; omega, by go_num, T11.out⟩
        case measure => simp [intOf]; omega
    · obtain rfl : k = x0.length := by omega
      go_wp2_with fail
      go_ret
      exact ⟨rfl, T0.out.und.elim fun m h => h.2.1⟩
end Go.Proofs.Ytljfomgcoodjkaa
