/- May a super be: super.Check and the document's own. -/
import Derived.Test.YtljfomgcoodjkaaPutAll
namespace Go.Proofs.Ytljfomgcoodjkaa
open Go.RowKit

/-- May a number be a page's, out of so many; may a super be. -/
def placeB (n pg : Int) : Bool := decide (n = 0) || (decide (2 ≤ n) && decide (n < pg))
def checkB (x : Su) : Bool := decide (0 ≤ x.ep) && decide (x.ep ≤ 4294967295) && decide (2 ≤ x.pg) && decide (x.pg ≤ 4096) && placeB x.rt x.pg && placeB x.fr x.pg

set_option maxRecDepth 100000 in
set_option maxHeartbeats 800000 in
/-- The closure of Check. -/
theorem place_any (n pg : Int) (b : Nat) (w : World) (h : w.cell? ⟨b, 3, none⟩ = some (.int .i64 pg)) :
    Calls Try.prog 62 #[.int .i64 n, .pointer (some ⟨b, 0, none⟩)] w fun e w' => e = .returned (.bool (placeB n pg)) ∧ w = w' := by
  go_enter Try.func62, Try.ntmps62
  go_wp2_with fail
  all_goals (
    go_ret
    refine ⟨ret_b ?_, rfl⟩
    unfold placeB
    rw [Bool.eq_iff_iff]
    simp
    try omega)

theorem su_cells (w : World) (x : Su) : ((w.alloc (.cells #[.int .i64 x.ep, .int .i64 x.rt, .int .i64 x.fr, .int .i64 x.pg] 41)).cell? ⟨w.heap.size, 0, none⟩ = some (.int .i64 x.ep) ∧ (w.alloc (.cells #[.int .i64 x.ep, .int .i64 x.rt, .int .i64 x.fr, .int .i64 x.pg] 41)).cell? ⟨w.heap.size, 1, none⟩ = some (.int .i64 x.rt) ∧
    (w.alloc (.cells #[.int .i64 x.ep, .int .i64 x.rt, .int .i64 x.fr, .int .i64 x.pg] 41)).cell? ⟨w.heap.size, 2, none⟩ = some (.int .i64 x.fr) ∧ (w.alloc (.cells #[.int .i64 x.ep, .int .i64 x.rt, .int .i64 x.fr, .int .i64 x.pg] 41)).cell? ⟨w.heap.size, 3, none⟩ = some (.int .i64 x.pg)) := by
  have h := Blk.new w 41 #[.int .i64 x.ep, .int .i64 x.rt, .int .i64 x.fr, .int .i64 x.pg]
  exact ⟨h.cell 0, h.cell 1, h.cell 2, h.cell 3⟩

set_option maxRecDepth 100000 in
set_option maxHeartbeats 1600000 in
/-- 'super.Check'. -/
theorem check_any (x : Su) (w : World) : Calls Try.prog 45 #[suV x] w fun e w' => e = .returned (.bool (checkB x)) ∧ Below w.heap.size w w' := by
  obtain ⟨wb, hwb⟩ : ∃ wb, wb = w.alloc (.cells #[.int .i64 x.ep, .int .i64 x.rt, .int .i64 x.fr, .int .i64 x.pg] 41) := ⟨_, rfl⟩
  obtain ⟨k0, k1, k2, k3⟩ := su_cells w x
  have NB : Below w.heap.size w wb := by rw [hwb]; exact (Below.refl _ _).alloc (Nat.le_refl _) _
  rw [← hwb] at k0 k1 k2 k3
  have hmf : ∀ (fn : Fn) (first cap : Array Value) (w : World), (Instr.makeFunc fn first cap).run Try.prog w = .ok (.func fn first cap) w := fun _ _ _ _ => rfl
  have PR := hide (place_any x.rt x.pg w.heap.size wb k3)
  have PF := hide (place_any x.fr x.pg w.heap.size wb k3)
  have NN := hide NB
  obtain ⟨pr, hpr⟩ : ∃ p, p = placeB x.rt x.pg := ⟨_, rfl⟩
  obtain ⟨pf, hpf⟩ : ∃ p, p = placeB x.fr x.pg := ⟨_, rfl⟩
  have EC := hide (show checkB x = (decide (0 ≤ x.ep) && decide (x.ep ≤ 4294967295) && decide (2 ≤ x.pg) && decide (x.pg ≤ 4096) && pr && pf) by unfold checkB; rw [hpr, hpf])
  rw [← hpr] at PR
  rw [← hpf] at PF
  clear NB hpr hpf
  obtain ⟨ep, rt, fr, pg⟩ := x
  dsimp only at k0 k1 k2 k3 hwb PR PF EC
  unfold suV
  go_enter Try.func45, Try.ntmps45
  go_upto_region 1 with fail
  rw [← hwb]
  clear hwb
  by_cases h1 : 0 ≤ ep
  case neg =>
    have e1 := hide (show checkB ⟨ep, rt, fr, pg⟩ = false by rw [EC.out, decide_eq_false h1]; rfl)
    go_wp2_with fail
    go_ret
    exact ⟨ret_b e1.out.symm, NN.out⟩
  by_cases h2 : ep ≤ 4294967295
  case neg =>
    have e1 := hide (show checkB ⟨ep, rt, fr, pg⟩ = false by rw [EC.out, decide_eq_false h2, Bool.and_false]; rfl)
    go_wp2_with fail
    go_ret
    exact ⟨ret_b e1.out.symm, NN.out⟩
  by_cases h3 : 2 ≤ pg
  case neg =>
    have e1 := hide (show checkB ⟨ep, rt, fr, pg⟩ = false by rw [EC.out, decide_eq_false h3, Bool.and_false]; rfl)
    go_wp2_with fail
    go_ret
    exact ⟨ret_b e1.out.symm, NN.out⟩
  by_cases h4 : pg ≤ 4096
  case neg =>
    have e1 := hide (show checkB ⟨ep, rt, fr, pg⟩ = false by rw [EC.out, decide_eq_false h4, Bool.and_false]; rfl)
    go_wp2_with fail
    go_ret
    exact ⟨ret_b e1.out.symm, NN.out⟩
  rw [decide_eq_true h1, decide_eq_true h2, decide_eq_true h3, decide_eq_true h4] at EC
  cases pr with
  | false =>
    go_wp2_with fail
    refine PR.out.mono ?_
    rintro e w' ⟨rfl, rfl⟩
    go_wp2_with fail
    go_ret
    exact ⟨ret_b EC.out.symm, NN.out⟩
  | true =>
    go_wp2_with fail
    refine PR.out.mono ?_
    rintro e w' ⟨rfl, rfl⟩
    go_wp2_with fail
    refine PF.out.mono ?_
    rintro e w' ⟨rfl, rfl⟩
    go_wp2_with fail
    go_ret
    exact ⟨ret_b EC.out.symm, NN.out⟩

set_option maxRecDepth 100000 in
set_option maxHeartbeats 1600000 in
/-- 'lunetteref07.Check'. -/
theorem ref_check (x : Su) (w : World) : Calls Try.prog 29 #[suV x] w fun e w' => e = .returned (.bool (checkB x)) ∧ Below w.heap.size w w' := by
  obtain ⟨wb, hwb⟩ : ∃ wb, wb = w.alloc (.cells #[.int .i64 x.ep, .int .i64 x.rt, .int .i64 x.fr, .int .i64 x.pg] 41) := ⟨_, rfl⟩
  obtain ⟨k0, k1, k2, k3⟩ := su_cells w x
  have NB : Below w.heap.size w wb := by rw [hwb]; exact (Below.refl _ _).alloc (Nat.le_refl _) _
  rw [← hwb] at k0 k1 k2 k3
  have NN := hide NB
  obtain ⟨ep, rt, fr, pg⟩ := x
  dsimp only at k0 k1 k2 k3 hwb
  unfold suV
  clear NB
  go_enter Try.func29, Try.ntmps29
  go_upto_region 1 with fail
  rw [← hwb]
  clear hwb
  go_cut [3] (fun s3 wx => s3 = .bool (placeB rt pg) ∧ wx = wb)
  case first =>
    by_cases h : rt = 0
    · have t1 := beq_yes h
      have E := hide (show placeB rt pg = true by unfold placeB; rw [decide_eq_true h]; rfl)
      clear h
      go_wp2_with fail
      go_meet
      exact ⟨by rw [E.out], rfl⟩
    · have t1 := beq_no h
      have E := hide (show placeB rt pg = (decide (2 ≤ rt) && decide (rt < pg)) by unfold placeB; rw [decide_eq_false h]; rfl)
      clear h
      go_wp2_with fail
      all_goals (
        go_meet
        refine ⟨?_, rfl⟩
        congr 1
        rw [E.out, Bool.eq_iff_iff]
        simp
        try omega)
  obtain ⟨rfl, rfl⟩ := hcut
  obtain ⟨pr, hpr⟩ : ∃ p, p = placeB rt pg := ⟨_, rfl⟩
  rw [← hpr]
  have EP := hide hpr
  clear hpr
  go_upto_region 2 with fail
  go_cut [4] (fun s4 wx => s4 = .bool (placeB fr pg) ∧ wx = wc)
  case first =>
    by_cases h : fr = 0
    · have t1 := beq_yes h
      have E := hide (show placeB fr pg = true by unfold placeB; rw [decide_eq_true h]; rfl)
      clear h
      go_wp2_with fail
      go_meet
      exact ⟨by rw [E.out], rfl⟩
    · have t1 := beq_no h
      have E := hide (show placeB fr pg = (decide (2 ≤ fr) && decide (fr < pg)) by unfold placeB; rw [decide_eq_false h]; rfl)
      clear h
      go_wp2_with fail
      all_goals (
        go_meet
        refine ⟨?_, rfl⟩
        congr 1
        rw [E.out, Bool.eq_iff_iff]
        simp
        try omega)
  obtain ⟨rfl, rfl⟩ := hcut
  obtain ⟨pf, hpf⟩ : ∃ p, p = placeB fr pg := ⟨_, rfl⟩
  rw [← hpf]
  have EC := hide (show checkB ⟨ep, rt, fr, pg⟩ = (decide (0 ≤ ep) && decide (ep ≤ 4294967295) && decide (2 ≤ pg) && decide (pg ≤ 4096) && pr && pf) by unfold checkB; rw [EP.out, hpf])
  clear hpf
  cases pr <;> cases pf
  all_goals (
    go_wp2_with fail
    all_goals (
      go_ret
      refine ⟨ret_b ?_, NN.out⟩
      rw [EC.out, Bool.eq_iff_iff]
      simp
      try omega))
end Go.Proofs.Ytljfomgcoodjkaa
