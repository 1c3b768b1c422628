/- page.Get where there is no page: another length, another sum. -/
import Derived.Test.YtljfomgcoodjkaaPut
namespace Go.Proofs.Ytljfomgcoodjkaa
open Go.RowKit

/-- The page that is none. -/
def zpg : Value := .agg #[.int .i64 0, .int .i64 0, .int .i64 0, .int .i64 0, .slice none 0 0]

theorem get_results {W : World} {r : Nat} {a b c d e er : Value} {tmps : Array Value} (h : Blk W r 58 #[a, b, c, d, e]) (h4 : tmps[4]? = some (.pointer (some ⟨r, 0, none⟩))) (h5 : tmps[5]? = some er) :
    (results Try.f42 tmps).run Try.prog W = .ok (.tuple #[.agg #[a, b, c, d, e], er]) W := by
  have k0 := h.cell 0
  have k1 := h.cell 1
  have k2 := h.cell 2
  have k3 := h.cell 3
  have k4 := h.cell 4
  simp at k0 k1 k2 k3 k4
  simp [results, Try.results42, go_sem, h4, h5, k0, k1, k2, k3, k4]

theorem page_blk {W : World} {r : Nat} {x0 x1 x2 x3 x4 : Value} (h : Blk W r 58 #[x0, x1, x2, x3, x4]) (a b c d e : Value) :
    Blk (((((W.setCell ⟨r, 0, none⟩ a).setCell ⟨r, 1, none⟩ b).setCell ⟨r, 2, none⟩ c).setCell ⟨r, 3, none⟩ d).setCell ⟨r, 4, none⟩ e) r 58 #[a, b, c, d, e] :=
  ((((h.set_ 0 a).set_ 1 b).set_ 2 c).set_ 3 d).set_ 4 e
theorem page_below {B r : Nat} {w0 W : World} (h : Below B w0 W) (hr : B ≤ r) (a b c d e : Value) :
    Below B w0 (((((W.setCell ⟨r, 0, none⟩ a).setCell ⟨r, 1, none⟩ b).setCell ⟨r, 2, none⟩ c).setCell ⟨r, 3, none⟩ d).setCell ⟨r, 4, none⟩ e) :=
  ((((h.setCell hr a).setCell hr b).setCell hr c).setCell hr d).setCell hr e
theorem page_grown {g r : Nat} {w0 W : World} (h : w0.grownBy W (some g)) (hr : w0.heap.size ≤ r) (a b c d e : Value) :
    w0.grownBy (((((W.setCell ⟨r, 0, none⟩ a).setCell ⟨r, 1, none⟩ b).setCell ⟨r, 2, none⟩ c).setCell ⟨r, 3, none⟩ d).setCell ⟨r, 4, none⟩ e) (some g) :=
  grown_setCell (grown_setCell (grown_setCell (grown_setCell (grown_setCell h (.inr hr) a) (.inr hr) b) (.inr hr) c) (.inr hr) d) (.inr hr) e
theorem SumAt.set_page {W : World} {g r : Nat} {m : Int} (h : SumAt W g m) (hr : g ≠ r) (a b c d e : Value) :
    SumAt (((((W.setCell ⟨r, 0, none⟩ a).setCell ⟨r, 1, none⟩ b).setCell ⟨r, 2, none⟩ c).setCell ⟨r, 3, none⟩ d).setCell ⟨r, 4, none⟩ e) g m := by
  obtain ⟨cs, hb, k⟩ := h
  exact ⟨cs, ((((hb.far hr a).far hr b).far hr c).far hr d).far hr e, k⟩
/-- What a block of a page's make reads. -/
theorem page_cells {W : World} {r : Nat} {x0 x1 x2 x3 x4 : Value} (h : Blk W r 58 #[x0, x1, x2, x3, x4]) :
    (W.cell? ⟨r, 0, none⟩ = some x0 ∧ W.cell? ⟨r, 1, none⟩ = some x1 ∧ W.cell? ⟨r, 2, none⟩ = some x2 ∧ W.cell? ⟨r, 3, none⟩ = some x3 ∧ W.cell? ⟨r, 4, none⟩ = some x4) ∧
    (W.frozen? ⟨r, 0, none⟩ = false ∧ W.frozen? ⟨r, 1, none⟩ = false ∧ W.frozen? ⟨r, 2, none⟩ = false ∧ W.frozen? ⟨r, 3, none⟩ = false ∧ W.frozen? ⟨r, 4, none⟩ = false) :=
  ⟨⟨h.cell 0, h.cell 1, h.cell 2, h.cell 3, h.cell 4⟩, h.frozen 0, h.frozen 1, h.frozen 2, h.frozen 3, h.frozen 4⟩

set_option maxRecDepth 100000 in
set_option maxHeartbeats 800000 in
/-- 'page.Get' of another length. -/
theorem get_short (g n c : Nat) (A : Option Addr) (w : World) (hn : n ≠ 256) :
    Calls Try.prog 42 #[.pointer (some ⟨g, 0, none⟩), .slice A n c] w fun e w' => e = .returned (.tuple #[zpg, .int .i64 41]) ∧ Below w.heap.size w w' := by
  go_enter Try.func42, Try.ntmps42
  go_wp2_with fail
  refine bodyPost_ret (get_results (Blk.new _ _ _) rfl rfl) rfl ?_
  exact ⟨rfl, (Below.refl _ _).alloc (Nat.le_refl _) _⟩

theorem cut_from (bb c l : Nat) (hl : l ≤ 256) (hlc : l ≠ c) (w : World) : (Instr.slice 28 (.slice (some ⟨bb, 0, none⟩) 256 c) (some (.int .i64 (l : Int))) none none).run Try.prog w = .ok (.slice (some ⟨bb, l, none⟩) (256 - l) (c - l)) w := by
  have h := slice28_l (some ⟨bb, 0, none⟩) 256 c l hl w
  rw [cutAt_some _ _ _ _ (Ne.symm hlc), Nat.zero_add] at h
  exact h
theorem cut_tail (bb c : Nat) (hc : 256 ≤ c) (w : World) : (Instr.slice 28 (.slice (some ⟨bb, 0, none⟩) 256 c) (some (.int .i64 252)) none none).run Try.prog w = .ok (.slice (some ⟨bb, 252, none⟩) 4 (c - 252)) w :=
  cut_from bb c 252 (by omega) (by omega) w
theorem cut_head (bb c : Nat) (hc : 256 ≤ c) (w : World) : (Instr.slice 28 (.slice (some ⟨bb, 0, none⟩) 256 c) none (some (.int .i64 252)) (some (.int .i64 252))).run Try.prog w = .ok (.slice (some ⟨bb, 0, none⟩) 252 252) w := by
  have h := slice28_hm (some ⟨bb, 0, none⟩) 256 c 252 252 (by omega) (by omega) w
  rw [cutAt_some _ _ _ _ (by omega), Nat.zero_add] at h
  exact h

/-- What 'Right' says of a page's bytes. -/
theorem right_page (g bb c : Nat) (m : Int) (xs : List UInt8) (w : World) (hs : SumAt w g m) (hr : Row w bb 0 xs) (hx : xs.length = 256) (hb : bb ≠ g) :
    Calls Try.prog 25 #[.pointer (some ⟨g, 0, none⟩), .slice (some ⟨bb, 0, none⟩) 252 c, .int .u32 (IntKind.u32.wrap (getTo xs 252 4 : Nat))] w fun e w' =>
      e = .returned (.bool (decide (Crc.crc (xs.take 252) = getTo xs 252 4))) ∧ (∃ m, SumAt w' g m) ∧ w.grownBy w' (some g) := by
  have hl : (xs.take 252).length = 252 := by rw [List.length_take]; omega
  have hrow : Row w bb 0 (xs.take 252) := by
    refine Row.left (ys := xs.drop 252) ?_
    rw [List.take_append_drop]; exact hr
  have h := Row.RB (g := g) (c := c) hrow hb
  rw [hl] at h
  have hlt := getTo_lt xs 252 4
  refine (right_any g m _ (xs.take 252) _ w hs h (by omega)).mono ?_
  rintro e w' ⟨rfl, hu, hg⟩
  refine ⟨?_, ⟨_, hu.at_⟩, hg⟩
  congr 2
  have e : IntKind.u32.wrap (getTo xs 252 4 : Nat) = (getTo xs 252 4 : Nat) := IntWalk.u32_in _ (by omega)
  rw [e, Bool.eq_iff_iff]
  simp
  omega

set_option maxRecDepth 100000 in
set_option maxHeartbeats 1600000 in
/-- 'page.Get' of bytes whose sum is another. -/
theorem get_sum (g bb c : Nat) (m : Int) (xs : List UInt8) (w : World) (hs : SumAt w g m) (hr : Row w bb 0 xs) (hx : xs.length = 256) (hb : bb ≠ g) (hc : 256 ≤ c) (hne : Crc.crc (xs.take 252) ≠ getTo xs 252 4) :
    Calls Try.prog 42 #[.pointer (some ⟨g, 0, none⟩), .slice (some ⟨bb, 0, none⟩) 256 c] w fun e w' => e = .returned (.tuple #[zpg, .int .i64 42]) ∧ (∃ m, SumAt w' g m) ∧ w.grownBy w' (some g) := by
  obtain ⟨W, hW⟩ : ∃ W, W = w.alloc (.cells #[.int .i64 0, .int .i64 0, .int .i64 0, .int .i64 0, .slice none 0 0] 58) := ⟨_, rfl⟩
  have hbl : Below w.heap.size w W := by rw [hW]; exact (Below.refl _ _).alloc (Nat.le_refl _) _
  have hbk : Blk W w.heap.size 58 #[.int .i64 0, .int .i64 0, .int .i64 0, .int .i64 0, .slice none 0 0] := by rw [hW]; exact Blk.new _ _ _
  have HW := hide hW
  have hgl := hs.lt
  have HS := hide (hs.below hbl.drew hgl)
  have HR := hide (hr.below hbl.drew)
  have s1 := cut_tail bb c hc
  have s2 := cut_head bb c hc
  have GT0 := get_any bb 252 4 (c - 252) xs W.drew HR.out (by omega) (by omega)
  have RT0 := right_page g bb 252 m xs W.drew HS.out HR.out hx hb
  rw [decide_eq_false hne] at RT0
  obtain ⟨t, ht⟩ : ∃ t, t = getTo xs 252 4 := ⟨_, rfl⟩
  rw [← ht] at GT0 RT0
  have GT := hide GT0
  have RT := hide RT0
  have GB := hide (grown_of_below hbl.drew (some g))
  have BK := hide hbk.drew
  clear hW hs hr hne hbl hbk ht GT0 RT0
  go_enter Try.func42, Try.ntmps42
  go_wp2_with fail
  rw [← HW.out]
  go_region_with (first
    | (go_at_call 59; refine GT.out.mono ?_; rintro e w6 ⟨rfl, rfl⟩)
    | (go_at_call 25; refine RT.out.mono ?_; rintro e w7 ⟨rfl, hm, hgr⟩; have M7 := hide hm; have G7 := hide hgr; clear hm hgr))
  have B7 := BK.out.grown G7.out (fun e => by injection e; omega)
  obtain ⟨⟨k0, k1, k2, k3, k4⟩, f0, f1, f2, f3, f4⟩ := page_cells B7
  have BK7 := hide B7
  clear B7
  go_wp2_with fail
  refine bodyPost_ret (get_results (page_blk BK7.out _ _ _ _ _) rfl rfl) rfl ?_
  obtain ⟨m7, hm7⟩ := M7.out
  exact ⟨rfl, ⟨m7, hm7.set_page (by omega) _ _ _ _ _⟩, page_grown (grown_trans GB.out G7.out) (Nat.le_refl _) _ _ _ _ _⟩
end Go.Proofs.Ytljfomgcoodjkaa
