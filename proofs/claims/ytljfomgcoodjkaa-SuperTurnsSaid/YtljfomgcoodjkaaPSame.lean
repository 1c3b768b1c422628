/- Whether two pages are the same: the law's walk. -/
import Derived.Test.YtljfomgcoodjkaaAwake4
import Derived.Test.YtljfomgcoodjkaaArgs
import Derived.Deep.RegionHeld3
namespace Go.Proofs.Ytljfomgcoodjkaa
open Go.RowKit

theorem Page.PV {w w' : World} {B g : Nat} {v : Value} {p : Pg} (h : Page w v p) (hB : w.heap.size = B) (hb : Below B w w') (hg : B ≤ g) : PV w' g v p := by
  obtain ⟨cv, rfl, hs, _⟩ := h
  exact ⟨cv, rfl, hs.RS hB hb hg⟩
theorem few_page (g : Nat) (v : Value) (p : Pg) (w : World) (h : PV w g v p) : Calls Try.prog 35 #[v] w fun e w' => e = .returned (.bool (fewB p.cells)) ∧ Below w.heap.size w w' := by
  obtain ⟨cv, rfl, hr⟩ := h
  exact few_any g _ _ _ _ cv p.cells w hr
theorem eqB_refl (a : List ByteArray) : eqB a a = true := by simp [eqB]
theorem sameB_refl (p : Pg) : sameB p p = true := by simp [sameB, eqB_refl]
/-- A contract that is said from a world further back. -/
theorem from_base {w0 w : World} {f : FuncId} {args : Array Value} {R : Ending → Prop} (hb : Below w0.heap.size w0 w) (h : Calls Try.prog f args w fun e w' => R e ∧ Below w.heap.size w w') :
    Calls Try.prog f args w fun e w' => R e ∧ Below w0.heap.size w0 w' := h.mono fun _ _ ⟨a, b⟩ => ⟨a, hb.trans (b.mono hb.size)⟩

/-- A page's value and the cells of its box. -/
theorem Page.open_ {w : World} {v : Value} {p : Pg} (h : Page w v p) : ∃ A c, v = .agg #[.int .i64 p.kd, .int .i64 p.no, .int .i64 p.ep, .int .i64 p.lk, .slice A p.cells.length c] := by
  obtain ⟨cv, rfl, ⟨A, c, rfl, _⟩, _⟩ := h
  exact ⟨A, c, rfl⟩

set_option maxRecDepth 100000 in
set_option maxHeartbeats 1600000 in
theorem pageSame_walk {w : World} (v0 : Value) (x0 : Pg) (f0 : Page w v0 x0) (v1 : Value) (x1 : Pg) (f1 : Page w v1 x1) :
    Calls Try.prog 14 #[v0, v1] w fun e w' => e = .returned (.bool true) ∧ Below w.heap.size w w' := by
  obtain ⟨A0, c0, rfl⟩ := f0.open_
  obtain ⟨A1, c1, rfl⟩ := f1.open_
  obtain ⟨w1, hw1⟩ : ∃ w1, w1 = (w.alloc (.cells #[.int .i64 x0.kd, .int .i64 x0.no, .int .i64 x0.ep, .int .i64 x0.lk, .slice A0 x0.cells.length c0] 58)).alloc (.cells #[.int .i64 x1.kd, .int .i64 x1.no, .int .i64 x1.ep, .int .i64 x1.lk, .slice A1 x1.cells.length c1] 58) := ⟨_, rfl⟩
  have N1 : Below w.heap.size w w1 := by rw [hw1]; exact ((Below.refl _ _).alloc (Nat.le_refl _) _).alloc (by simp) _
  have BX : Blk w1 w.heap.size 58 #[.int .i64 x0.kd, .int .i64 x0.no, .int .i64 x0.ep, .int .i64 x0.lk, .slice A0 x0.cells.length c0] := by rw [hw1]; exact (Blk.new _ _ _).alloc _
  have BY : Blk w1 (w.heap.size + 1) 58 #[.int .i64 x1.kd, .int .i64 x1.no, .int .i64 x1.ep, .int .i64 x1.lk, .slice A1 x1.cells.length c1] := by
    rw [hw1]
    have h := Blk.new (w.alloc (.cells #[.int .i64 x0.kd, .int .i64 x0.no, .int .i64 x0.ep, .int .i64 x0.lk, .slice A0 x0.cells.length c0] 58)) 58 #[.int .i64 x1.kd, .int .i64 x1.no, .int .i64 x1.ep, .int .i64 x1.lk, .slice A1 x1.cells.length c1]
    rwa [World.size_alloc] at h
  have P0 := hide (fun w' (h : Below w1.heap.size w1 w') => f0.PV rfl (N1.trans (h.mono N1.size)) (Nat.le_refl _))
  have P1 := hide (fun w' (h : Below w1.heap.size w1 w') => f1.PV rfl (N1.trans (h.mono N1.size)) (Nat.le_refl _))
  have F0 := hide (fun w' (h : Below w1.heap.size w1 w') => from_base h (few_page w.heap.size _ x0 w' (P0.out w' h)))
  have F1 := hide (fun w' (h : Below w1.heap.size w1 w') => from_base h (few_page w.heap.size _ x1 w' (P1.out w' h)))
  have SA := hide (fun w' (h : Below w1.heap.size w1 w') => from_base h (same_any w.heap.size w.heap.size _ _ x0 x1 w' (P0.out w' h) (P1.out w' h)))
  have RA := hide (fun w' (h : Below w1.heap.size w1 w') => from_base h (ref_same w.heap.size w.heap.size _ _ x0 x1 w' (P0.out w' h) (P1.out w' h)))
  have SS := hide (fun w' (h : Below w1.heap.size w1 w') => by
    have h := from_base h (same_any w.heap.size w.heap.size _ _ x0 x0 w' (P0.out w' h) (P0.out w' h))
    rw [sameB_refl] at h
    exact h)
  have AW := hide (fun w' (h : Below w1.heap.size w1 w') => from_base h (awake4 w'))
  have CL := hide (fun w' (h : Below w1.heap.size w1 w') => And.intro (page_cells (BX.below h BX.lt)).1 (page_cells (BY.below h BY.lt)).1)
  have NN := hide N1
  clear N1 BX BY f0 f1 P0 P1
  go_enter Try.func14, Try.ntmps14
  go_upto_region 1 with fail
  rw [← hw1]
  clear hw1
  have end_ : ∀ W, Below w1.heap.size w1 W → Below w.heap.size w W := fun W h => NN.out.trans (h.mono NN.out.size)
  have EN := hide end_
  clear end_ NN
  obtain ⟨⟨a0, a1, a2, a3, a4⟩, b0, b1, b2, b3, b4⟩ := CL.out _ (Below.refl _ _)
  by_cases hf0 : fewB x0.cells = true
  case neg =>
    rw [show fewB x0.cells = false by simpa using hf0] at F0
    clear hf0
    go_wp2_with fail
    refine (F0.out _ (Below.refl _ _)).mono ?_
    rintro e w2 ⟨rfl, hb2⟩
    have H2 := hide hb2
    clear hb2
    go_wp2_with fail
    refine (AW.out _ H2.out).mono ?_
    rintro e w3 ⟨rfl, hb3⟩
    have H3 := hide hb3
    clear hb3
    go_wp2_with fail
    go_ret
    exact ⟨rfl, EN.out _ H3.out⟩
  rw [hf0] at F0
  clear hf0
  go_wp2_with fail
  refine (F0.out _ (Below.refl _ _)).mono ?_
  rintro e w2 ⟨rfl, hb2⟩
  have H2 := hide hb2
  clear hb2 a0 a1 a2 a3 a4 b0 b1 b2 b3 b4
  obtain ⟨⟨a0, a1, a2, a3, a4⟩, b0, b1, b2, b3, b4⟩ := CL.out _ H2.out
  by_cases hf1 : fewB x1.cells = true
  case neg =>
    rw [show fewB x1.cells = false by simpa using hf1] at F1
    clear hf1
    go_wp2_with fail
    refine (F1.out _ H2.out).mono ?_
    rintro e w3 ⟨rfl, hb3⟩
    have H3 := hide hb3
    clear hb3
    go_wp2_with fail
    refine (AW.out _ H3.out).mono ?_
    rintro e w4 ⟨rfl, hb4⟩
    have H4 := hide hb4
    clear hb4
    go_wp2_with fail
    go_ret
    exact ⟨rfl, EN.out _ H4.out⟩
  rw [hf1] at F1
  clear hf1
  go_wp2_with fail
  refine (F1.out _ H2.out).mono ?_
  rintro e w3 ⟨rfl, hb3⟩
  have H3 := hide hb3
  clear hb3 a0 a1 a2 a3 a4 b0 b1 b2 b3 b4
  obtain ⟨s, hs⟩ : ∃ s, s = sameB x0 x1 := ⟨_, rfl⟩
  rw [← hs] at SA RA
  clear hs F0 F1
  go_upto_region 3 with fail
  have SF := hide (fun W (h : Below w1.heap.size w1 W) => And.intro h (CL.out W h))
  go_region_held3 (fun W => Below w1.heap.size w1 W ∧ (W.cell? ⟨w.heap.size, 0, none⟩ = some (.int .i64 x0.kd) ∧ W.cell? ⟨w.heap.size, 1, none⟩ = some (.int .i64 x0.no) ∧ W.cell? ⟨w.heap.size, 2, none⟩ = some (.int .i64 x0.ep) ∧ W.cell? ⟨w.heap.size, 3, none⟩ = some (.int .i64 x0.lk) ∧ W.cell? ⟨w.heap.size, 4, none⟩ = some (.slice A0 x0.cells.length c0)) ∧
      W.cell? ⟨w.heap.size + 1, 0, none⟩ = some (.int .i64 x1.kd) ∧ W.cell? ⟨w.heap.size + 1, 1, none⟩ = some (.int .i64 x1.no) ∧ W.cell? ⟨w.heap.size + 1, 2, none⟩ = some (.int .i64 x1.ep) ∧ W.cell? ⟨w.heap.size + 1, 3, none⟩ = some (.int .i64 x1.lk) ∧ W.cell? ⟨w.heap.size + 1, 4, none⟩ = some (.slice A1 x1.cells.length c1))
    (first
      | exact SF.out _ H3.out.drew
      | exact SF.out _ (by assumption))
    (first
      | (go_at_call 34; refine (AW.out _ (by go_split_ands; assumption)).mono ?_; rintro e W ⟨rfl, hbW⟩)
      | (go_at_call 43; refine (RA.out _ (by go_split_ands; assumption)).mono ?_; rintro e W ⟨rfl, hbW⟩)
      | (go_at_call_of 44 c1; refine (SA.out _ (by go_split_ands; assumption)).mono ?_; rintro e W ⟨rfl, hbW⟩)
      | (go_at_call 44; refine (SS.out _ (by go_split_ands; assumption)).mono ?_; rintro e W ⟨rfl, hbW⟩))
  all_goals (
    go_wp2_with fail
    go_ret
    exact ⟨rfl, EN.out _ (by go_split_ands; assumption)⟩)
end Go.Proofs.Ytljfomgcoodjkaa
