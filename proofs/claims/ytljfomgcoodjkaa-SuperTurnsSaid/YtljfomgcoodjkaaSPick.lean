/- super.Pick: the newer one of two slots' supers. -/
import Derived.Test.YtljfomgcoodjkaaSGot
namespace Go.Proofs.Ytljfomgcoodjkaa
open Go.RowKit

def IsSu (xs : List UInt8) (slot : Int) (x : Su) : Prop := checkB x = true ∧ xs = bytesSu x ∧ slot = x.ep % 2
def NoSu (xs : List UInt8) (slot : Int) : Prop := ∀ x, checkB x = true → xs = bytesSu x → slot ≠ x.ep % 2
def PickEnd (xs ys : List UInt8) (v : Value) (er : Int) : Prop :=
  (NoSu xs 0 ∧ NoSu ys 1 ∧ v = suV ⟨0, 0, 0, 0⟩ ∧ er = 70) ∨ (∃ x, IsSu xs 0 x ∧ NoSu ys 1 ∧ v = suV x ∧ er = 0) ∨ (∃ y, NoSu xs 0 ∧ IsSu ys 1 y ∧ v = suV y ∧ er = 0) ∨
    (∃ x y, IsSu xs 0 x ∧ IsSu ys 1 y ∧ v = suV (if y.ep < x.ep then x else y) ∧ er = 0)
def PickTo (w : World) (g : Nat) (xs ys : List UInt8) (e : Ending) (w' : World) : Prop :=
  ∃ v er, e = .returned (.tuple #[v, .int .i64 er]) ∧ PickEnd xs ys v er ∧ (∃ m, SumAt w' g m) ∧ w.grownBy w' (some g)
theorem got_form {xs : List UInt8} {slot er : Int} {v : Value} (h : GotSu xs slot v er) : ∃ x : Su, v = suV x ∧ ((er = 0 ∧ IsSu xs slot x) ∨ ((er = 41 ∨ er = 42 ∨ er = 70) ∧ NoSu xs slot ∧ x = ⟨0, 0, 0, 0⟩)) := by
  rcases h with ⟨x, h1, h2, h3, h4, h5⟩ | ⟨h1, h2, h3, _⟩
  · exact ⟨x, h4, .inl ⟨h5, h1, h2, h3⟩⟩
  · exact ⟨_, h3, .inr ⟨h2, h1, rfl⟩⟩
theorem pick_results {W : World} {r : Nat} {a b c d er : Value} {tmps : Array Value} (h : Blk W r 41 #[a, b, c, d]) (h6 : tmps[6]? = some (.pointer (some ⟨r, 0, none⟩))) (h7 : tmps[7]? = some er) :
    (results Try.f31 tmps).run Try.prog W = .ok (.tuple #[.agg #[a, b, c, d], er]) W := by
  have k0 := h.cell 0
  have k1 := h.cell 1
  have k2 := h.cell 2
  have k3 := h.cell 3
  simp at k0 k1 k2 k3
  simp [results, Try.results31, go_sem, h6, h7, k0, k1, k2, k3]
theorem pick_of {w W : World} {g : Nat} {xs ys : List UInt8} {er : Int} {v : Value} (hsm : ∃ m, SumAt W g m) (hgr : w.grownBy W (some g)) (hgl : g < w.heap.size) (hg : PickEnd xs ys v er) (a b c d : Value) :
    PickTo w g xs ys (.returned (.tuple #[v, .int .i64 er])) ((((W.setCell ⟨w.heap.size, 0, none⟩ a).setCell ⟨w.heap.size, 1, none⟩ b).setCell ⟨w.heap.size, 2, none⟩ c).setCell ⟨w.heap.size, 3, none⟩ d) := by
  obtain ⟨m, hm⟩ := hsm
  exact ⟨v, er, rfl, hg, ⟨m, hm.set_su (by omega) _ _ _ _⟩, grown_setCell (grown_setCell (grown_setCell (grown_setCell hgr (.inr (Nat.le_refl _)) a) (.inr (Nat.le_refl _)) b) (.inr (Nat.le_refl _)) c) (.inr (Nat.le_refl _)) d⟩

set_option maxRecDepth 100000 in
set_option maxHeartbeats 1600000 in
theorem pick_any (g ba ca bb cb : Nat) (m : Int) (xs ys : List UInt8) (w : World) (hs : SumAt w g m) (hra : Row w ba 0 xs) (hrb : Row w bb 0 ys) (hx : xs.length = 256) (hy : ys.length = 256) (ha : ba ≠ g) (hb : bb ≠ g) (hca : 256 ≤ ca) (hcb : 256 ≤ cb) :
    Calls Try.prog 31 #[.pointer (some ⟨g, 0, none⟩), .slice (some ⟨ba, 0, none⟩) 256 ca, .slice (some ⟨bb, 0, none⟩) 256 cb] w (PickTo w g xs ys) := by
  obtain ⟨w0, hw0⟩ : ∃ w0, w0 = w.alloc (.cells #[.int .i64 0, .int .i64 0, .int .i64 0, .int .i64 0] 41) := ⟨_, rfl⟩
  have hb0 : Below w.heap.size w w0 := by rw [hw0]; exact (Below.refl _ _).alloc (Nat.le_refl _) _
  have R0' : Blk w0 w.heap.size 41 #[.int .i64 0, .int .i64 0, .int .i64 0, .int .i64 0] := by rw [hw0]; exact Blk.new _ _ _
  have hgl := hs.lt
  have G1 := hide (sget_any g ba ca m 0 xs w0 (hs.below hb0 hgl) (hra.below hb0) hx ha hca)
  have GB := hide (grown_of_below hb0 (some g))
  have RB0 := hide (hrb.below hb0)
  have R0 := hide R0'
  clear hb0 R0' hs hra hrb
  go_enter Try.func31, Try.ntmps31
  go_upto_region 1 with fail
  rw [← hw0]
  clear hw0
  go_wp2_with fail
  refine G1.out.mono ?_
  rintro e w1 ⟨vx, ex, rfl, hgx, hsm1, hg1⟩
  obtain ⟨x, rfl, hfx⟩ := got_form hgx
  have FX := hide hfx
  have S1 := hide hsm1
  have GR1 := hide (grown_trans GB.out hg1)
  have R1 := hide (R0.out.grown hg1 (fun e => by injection e; omega))
  have RB1 := hide (RB0.out.grown hg1 hb)
  clear hgx hfx hsm1 hg1 G1 GB RB0 R0
  unfold suV
  go_upto_region 2 with fail
  obtain ⟨w2, hw2⟩ : ∃ w2, w2 = w1.alloc (.cells #[.int .i64 x.ep, .int .i64 x.rt, .int .i64 x.fr, .int .i64 x.pg] 41) := ⟨_, rfl⟩
  have N2 : Below w1.heap.size w1 w2 := by rw [hw2]; exact (Below.refl _ _).alloc (Nat.le_refl _) _
  have X2' : Blk w2 w1.heap.size 41 #[.int .i64 x.ep, .int .i64 x.rt, .int .i64 x.fr, .int .i64 x.pg] := by rw [hw2]; exact Blk.new _ _ _
  obtain ⟨q1, hq1⟩ : ∃ q, q = w1.heap.size := ⟨_, rfl⟩
  have HQ1 := hide (show g < q1 by rw [hq1]; exact S1.out.elim fun m h => h.lt)
  rw [← hq1] at X2'
  have X2 := hide X2'
  have R2 := hide (R1.out.below N2 R1.out.lt)
  have RB2 := hide (RB1.out.below N2)
  have S2 := hide (show ∃ m, SumAt w2 g m from S1.out.elim fun m h => ⟨m, h.below N2 h.lt⟩)
  have GR2 := hide (grown_trans GR1.out (grown_of_below N2 (some g)))
  rw [← hw2, ← hq1]
  clear N2 X2' hw2 hq1 R1 RB1 S1 GR1
  obtain ⟨m2, hm2⟩ := S2.out
  have G2 := hide (sget_any g bb cb m2 1 ys w2 hm2 RB2.out hy hb hcb)
  clear hm2
  go_wp2_with fail
  refine G2.out.mono ?_
  rintro e w3 ⟨vy, ey, rfl, hgy, hsm3, hg3⟩
  obtain ⟨y, rfl, hfy⟩ := got_form hgy
  have FY := hide hfy
  have S3 := hide hsm3
  have GR3 := hide (grown_trans GR2.out hg3)
  have R3 := hide (R2.out.grown hg3 (fun e => by injection e; omega))
  have X3 := hide (X2.out.grown hg3 (fun e => by have := HQ1.out; injection e; omega))
  clear hgy hfy hsm3 hg3 G2 R2 X2 S2 GR2 RB2
  unfold suV
  go_upto_region 3 with fail
  obtain ⟨w4, hw4⟩ : ∃ w4, w4 = w3.alloc (.cells #[.int .i64 y.ep, .int .i64 y.rt, .int .i64 y.fr, .int .i64 y.pg] 41) := ⟨_, rfl⟩
  have N4 : Below w3.heap.size w3 w4 := by rw [hw4]; exact (Below.refl _ _).alloc (Nat.le_refl _) _
  have Y4' : Blk w4 w3.heap.size 41 #[.int .i64 y.ep, .int .i64 y.rt, .int .i64 y.fr, .int .i64 y.pg] := by rw [hw4]; exact Blk.new _ _ _
  obtain ⟨q2, hq2⟩ : ∃ q, q = w3.heap.size := ⟨_, rfl⟩
  rw [← hq2] at Y4'
  have R4 := hide (R3.out.below N4 R3.out.lt)
  have X4 := hide (X3.out.below N4 X3.out.lt)
  have S4 := hide (show ∃ m, SumAt w4 g m from S3.out.elim fun m h => ⟨m, h.below N4 h.lt⟩)
  have GR4 := hide (grown_trans GR3.out (grown_of_below N4 (some g)))
  rw [← hw4, ← hq2]
  obtain ⟨⟨z0, z1, z2, z3⟩, u0, u1, u2, u3⟩ := su_there R4.out
  obtain ⟨⟨x0, x1, x2, x3⟩, _⟩ := su_there X4.out
  obtain ⟨⟨y0, y1, y2, y3⟩, _⟩ := su_there Y4'
  clear N4 Y4' hw4 hq2 R3 X3 S3 GR3
  rcases FX.out with ⟨rfl, hix⟩ | ⟨hex, hnx, rfl⟩
  · rcases FY.out with ⟨rfl, hiy⟩ | ⟨hey, hny, rfl⟩
    · by_cases hlt : y.ep < x.ep
      · have PE := hide (show PickEnd xs ys (suV x) 0 from .inr (.inr (.inr ⟨x, y, hix, hiy, by rw [if_pos hlt], rfl⟩)))
        clear hix hiy FX FY
        go_wp2_with fail
        refine bodyPost_ret (pick_results (su_blk R4.out _ _ _ _) rfl rfl) rfl ?_
        exact pick_of S4.out GR4.out hgl PE.out _ _ _ _
      · have PE := hide (show PickEnd xs ys (suV y) 0 from .inr (.inr (.inr ⟨x, y, hix, hiy, by rw [if_neg hlt], rfl⟩)))
        clear hix hiy FX FY
        go_wp2_with fail
        refine bodyPost_ret (pick_results (su_blk R4.out _ _ _ _) rfl rfl) rfl ?_
        exact pick_of S4.out GR4.out hgl PE.out _ _ _ _
    · have PE := hide (show PickEnd xs ys (suV x) 0 from .inr (.inl ⟨x, hix, hny, rfl, rfl⟩))
      clear hix hny FX FY
      rcases hey with rfl | rfl | rfl
      all_goals (
        go_wp2_with fail
        refine bodyPost_ret (pick_results (su_blk R4.out _ _ _ _) rfl rfl) rfl ?_
        exact pick_of S4.out GR4.out hgl PE.out _ _ _ _)
  · rcases FY.out with ⟨rfl, hiy⟩ | ⟨hey, hny, rfl⟩
    · have PE := hide (show PickEnd xs ys (suV y) 0 from .inr (.inr (.inl ⟨y, hnx, hiy, rfl, rfl⟩)))
      clear hiy hnx FX FY
      rcases hex with rfl | rfl | rfl
      all_goals (
        go_wp2_with fail
        refine bodyPost_ret (pick_results (su_blk R4.out _ _ _ _) rfl rfl) rfl ?_
        exact pick_of S4.out GR4.out hgl PE.out _ _ _ _)
    · have PE := hide (show PickEnd xs ys (suV ⟨0, 0, 0, 0⟩) 70 from .inl ⟨hnx, hny, rfl, rfl⟩)
      clear hny hnx FX FY
      rcases hex with rfl | rfl | rfl <;> rcases hey with rfl | rfl | rfl
      all_goals (
        go_wp2_with fail
        refine bodyPost_ret (pick_results (su_blk R4.out _ _ _ _) rfl rfl) rfl ?_
        exact pick_of S4.out GR4.out hgl PE.out _ _ _ _)
end Go.Proofs.Ytljfomgcoodjkaa
