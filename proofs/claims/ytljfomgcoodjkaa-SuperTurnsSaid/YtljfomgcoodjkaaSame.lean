/- The walks of page.Same and of the document's own Same: both tell whether all of two pages is the same. -/
import Derived.Test.YtljfomgcoodjkaaLeaf
namespace Go.Proofs.Ytljfomgcoodjkaa
open Go.RowKit

/-- A page as data. -/
structure Pg where
  kd : Int
  no : Int
  ep : Int
  lk : Int
  cells : List ByteArray

def I64 (n : Int) : Prop := -9223372036854775808 ≤ n ∧ n ≤ 9223372036854775807

/-- A page's value: four numbers and a slice of texts. -/
def PV (w : World) (g : Nat) (v : Value) (p : Pg) : Prop :=
  ∃ cv, v = .agg #[.int .i64 p.kd, .int .i64 p.no, .int .i64 p.ep, .int .i64 p.lk, cv] ∧ RS w g cv p.cells
theorem PV.grown {w w' : World} {g : Nat} {v : Value} {p : Pg} (h : PV w g v p) (hg : w.grownBy w' (some g)) : PV w' g v p := by
  obtain ⟨cv, hv, h⟩ := h
  exact ⟨cv, hv, h.grown hg⟩
theorem PV.below {w w' : World} {g : Nat} {v : Value} {p : Pg} (h : PV w g v p) (hb : Below w.heap.size w w') : PV w' g v p := h.grown (grown_of_below hb _)

def sameB (p q : Pg) : Bool := decide (p.kd = q.kd) && decide (p.no = q.no) && decide (p.ep = q.ep) && decide (p.lk = q.lk) && eqB p.cells q.cells
theorem same_1 {p q : Pg} (h : p.kd ≠ q.kd) : sameB p q = false := by simp [sameB, h]
theorem same_2 {p q : Pg} (h : p.no ≠ q.no) : sameB p q = false := by simp [sameB, h]
theorem same_3 {p q : Pg} (h : p.ep ≠ q.ep) : sameB p q = false := by simp [sameB, h]
theorem same_4 {p q : Pg} (h : p.lk ≠ q.lk) : sameB p q = false := by simp [sameB, h]
theorem same_5 {p q : Pg} (h1 : p.kd = q.kd) (h2 : p.no = q.no) (h3 : p.ep = q.ep) (h4 : p.lk = q.lk) : sameB p q = eqB p.cells q.cells := by simp [sameB, h1, h2, h3, h4]

theorem beq_yes {a b : Int} (h : a = b) : (a == b) = true := by simpa using h
theorem beq_no {a b : Int} (h : a ≠ b) : (a == b) = false := by simpa using h
theorem bne_yes {a b : Int} (h : a ≠ b) : (a != b) = true := by simpa using h
theorem bne_no {a b : Int} (h : a = b) : (a != b) = false := by simpa using h

set_option maxRecDepth 100000 in
set_option maxHeartbeats 800000 in
/-- 'page.Same'. -/
theorem same_any (g g2 : Nat) (va vb : Value) (p q : Pg) (w : World) (ha : PV w g va p) (hb : PV w g2 vb q) :
    Calls Try.prog 44 #[va, vb] w fun e w' => e = .returned (.bool (sameB p q)) ∧ Below w.heap.size w w' := by
  obtain ⟨ca, rfl, ha⟩ := ha
  obtain ⟨cb, rfl, hb⟩ := hb
  have B1 : Below w.heap.size w ((w.alloc (.cells #[.int .i64 p.kd, .int .i64 p.no, .int .i64 p.ep, .int .i64 p.lk, ca] 58)).alloc (.cells #[.int .i64 q.kd, .int .i64 q.no, .int .i64 q.ep, .int .i64 q.lk, cb] 58)) :=
    ((Below.refl _ _).alloc (Nat.le_refl _) _).alloc (by simp) _
  have EQ := hide (equal_any g g2 ca cb p.cells q.cells _ (ha.below B1) (hb.below B1))
  have BB := hide B1
  clear ha hb B1
  by_cases h1 : p.kd = q.kd
  · have t1 := beq_yes h1
    by_cases h2 : p.no = q.no
    · have t2 := beq_yes h2
      by_cases h3 : p.ep = q.ep
      · have t3 := beq_yes h3
        by_cases h4 : p.lk = q.lk
        · have t4 := beq_yes h4
          have S := hide (same_5 h1 h2 h3 h4)
          clear h1 h2 h3 h4
          go_enter Try.func44, Try.ntmps44
          go_wp2_with fail
          refine EQ.out.mono ?_
          rintro e w' ⟨rfl, hb⟩
          have HB := hide hb
          clear hb
          go_wp2_with fail
          go_ret
          exact ⟨ret_b (by rw [S.out]), BB.out.trans (HB.out.mono BB.out.size)⟩
        · have t4 := beq_no h4
          have S := hide (same_4 h4)
          clear h1 h2 h3 h4 EQ
          go_enter Try.func44, Try.ntmps44
          go_wp2_with fail
          go_ret
          exact ⟨ret_b (by rw [S.out]), BB.out⟩
      · have t3 := beq_no h3
        have S := hide (same_3 h3)
        clear h1 h2 h3 EQ
        go_enter Try.func44, Try.ntmps44
        go_wp2_with fail
        go_ret
        exact ⟨ret_b (by rw [S.out]), BB.out⟩
    · have t2 := beq_no h2
      have S := hide (same_2 h2)
      clear h1 h2 EQ
      go_enter Try.func44, Try.ntmps44
      go_wp2_with fail
      go_ret
      exact ⟨ret_b (by rw [S.out]), BB.out⟩
  · have t1 := beq_no h1
    have S := hide (same_1 h1)
    clear h1 EQ
    go_enter Try.func44, Try.ntmps44
    go_wp2_with fail
    go_ret
    exact ⟨ret_b (by rw [S.out]), BB.out⟩

theorem two_boxes_1 (w : World) (C D : Array Value) {t u : TypeId} {i : Nat} {v : Value} (h : C[i]? = some v) : ((w.alloc (.cells C t)).alloc (.cells D u)).cell? ⟨w.heap.size, i, none⟩ = some v := by
  rw [World.cell?_alloc_lt _ _ _ (by simp), cell_of_row _ _ i C t (0, 0) (heap_alloc_new w _)]; exact h
theorem two_boxes_2 (w : World) (C D : Array Value) {t u : TypeId} {i : Nat} {v : Value} (h : D[i]? = some v) : ((w.alloc (.cells C t)).alloc (.cells D u)).cell? ⟨w.heap.size + 1, i, none⟩ = some v := by
  have e := heap_alloc_new (w.alloc (.cells C t)) (.cells D u)
  rw [World.size_alloc] at e
  rw [cell_of_row _ _ i D u (0, 0) e]; exact h

set_option maxRecDepth 100000 in
set_option maxHeartbeats 800000 in
/-- 'lunetteref04.Same', all numbers the same. -/
theorem ref_same_cells (g g2 : Nat) (va vb : Value) (p q : Pg) (w : World) (ha : PV w g va p) (hb : PV w g2 vb q) (h1 : p.kd = q.kd) (h2 : p.no = q.no) (h3 : p.ep = q.ep) (h4 : p.lk = q.lk) :
    Calls Try.prog 43 #[va, vb] w fun e w' => e = .returned (.bool (sameB p q)) ∧ Below w.heap.size w w' := by
  obtain ⟨ca, rfl, ha⟩ := ha
  obtain ⟨cb, rfl, hb⟩ := hb
  obtain ⟨A1, c1, hv1, hl1⟩ := ha.len
  obtain ⟨A2, c2, hv2, hl2⟩ := hb.len
  unfold maxLen at hl1 hl2
  subst hv1 hv2
  have B1 : Below w.heap.size w ((w.alloc (.cells #[.int .i64 p.kd, .int .i64 p.no, .int .i64 p.ep, .int .i64 p.lk, .slice A1 p.cells.length c1] 58)).alloc (.cells #[.int .i64 q.kd, .int .i64 q.no, .int .i64 q.ep, .int .i64 q.lk, .slice A2 q.cells.length c2] 58)) :=
    ((Below.refl _ _).alloc (Nat.le_refl _) _).alloc (by simp) _
  have HA := hide (ha.below B1)
  have HB := hide (hb.below B1)
  have BB := hide B1
  have t1 := bne_no h1
  have t2 := bne_no h2
  have t3 := bne_no h3
  have t4 := bne_no h4
  have S := hide (same_5 h1 h2 h3 h4)
  clear ha hb B1 h1 h2 h3 h4
  by_cases hlen : p.cells.length = q.cells.length
  · have hne : ((p.cells.length : Int) != (q.cells.length : Int)) = false := by rw [hlen]; simp
    have HL := hide hlen
    clear hlen
    go_enter Try.func43, Try.ntmps43
    go_wp2_with fail
    go_loopw [5] (fun i wr => ∃ k : Nat, k ≤ p.cells.length ∧ i = .int .i64 k ∧ bytesOf (p.cells.take k) = bytesOf (q.cells.take k) ∧ wr.cell? ⟨w.heap.size, 4, none⟩ = some (.slice A1 p.cells.length c1) ∧
      wr.cell? ⟨w.heap.size + 1, 4, none⟩ = some (.slice A2 q.cells.length c2) ∧ RS wr g (.slice A1 p.cells.length c1) p.cells ∧ RS wr g2 (.slice A2 q.cells.length c2) q.cells ∧ Below w.heap.size w wr) (fun i _ => p.cells.length - (intOf i).toNat)
    case atStart => exact ⟨0, by omega, rfl, rfl, two_boxes_1 _ _ _ rfl, two_boxes_2 _ _ _ rfl, HA.out, HB.out, BB.out⟩
    case round =>
      obtain ⟨k, hk, rfl, hall, hb1, hb2, hr1, hr2, hbw⟩ := hrel
      have AL := hide hall
      have BW := hide hbw
      have R1 := hide hr1
      have R2 := hide hr2
      clear hall hbw hr1 hr2
      by_cases hlt : k < p.cells.length
      · have hlt2 : k < q.cells.length := by rw [← HL.out]; exact hlt
        obtain ⟨b1, o1, hA1, _, d1⟩ := R1.out.at_ hlt
        obtain ⟨b2, o2, hA2, _, d2⟩ := R2.out.at_ hlt2
        subst hA1 hA2
        by_cases he : p.cells[k].data.toList = q.cells[k].data.toList
        · have ht : (p.cells[k].toList == q.cells[k].toList) = true := by rw [ByteArray.toList_eq, ByteArray.toList_eq, he]; simp
          have EN := hide (eq_take hlt hlt2 AL.out he)
          clear he
          go_wp2_with fail
          go_region
          go_wp2
          go_roundw
          case rel => exact ⟨k + 1, by omega, by go_num, EN.out, hb1, hb2, R1.out.below (Below.refl _ _).drew, R2.out.below (Below.refl _ _).drew, BW.out.drew⟩
          case measure => simp [intOf]; omega
        · have ht : (p.cells[k].toList == q.cells[k].toList) = false := by rw [ByteArray.toList_eq, ByteArray.toList_eq]; simpa using he
          have NO := hide (eq_at hlt hlt2 he)
          clear he
          go_wp2_with fail
          go_region
          go_wp2
          go_ret
          exact ⟨ret_b (by rw [S.out, NO.out]), BW.out.drew⟩
      · obtain rfl : k = p.cells.length := by omega
        have Y := hide (eq_all AL.out HL.out)
        go_wp2_with fail
        go_ret
        exact ⟨ret_b (by rw [S.out, Y.out]), BW.out⟩
  · have hne : ((p.cells.length : Int) != (q.cells.length : Int)) = true := by simp; omega
    have NO := hide (eq_lens hlen)
    clear hlen
    go_enter Try.func43, Try.ntmps43
    go_wp2_with fail
    go_ret
    exact ⟨ret_b (by rw [S.out, NO.out]), BB.out⟩

set_option maxRecDepth 100000 in
set_option maxHeartbeats 800000 in
/-- 'lunetteref04.Same'. -/
theorem ref_same (g g2 : Nat) (va vb : Value) (p q : Pg) (w : World) (ha : PV w g va p) (hb : PV w g2 vb q) :
    Calls Try.prog 43 #[va, vb] w fun e w' => e = .returned (.bool (sameB p q)) ∧ Below w.heap.size w w' := by
  by_cases hall : p.kd = q.kd ∧ p.no = q.no ∧ p.ep = q.ep ∧ p.lk = q.lk
  · exact ref_same_cells g g2 va vb p q w ha hb hall.1 hall.2.1 hall.2.2.1 hall.2.2.2
  · obtain ⟨ca, rfl, ha⟩ := ha
    obtain ⟨cb, rfl, hb⟩ := hb
    have BB := hide (show Below w.heap.size w ((w.alloc (.cells #[.int .i64 p.kd, .int .i64 p.no, .int .i64 p.ep, .int .i64 p.lk, ca] 58)).alloc (.cells #[.int .i64 q.kd, .int .i64 q.no, .int .i64 q.ep, .int .i64 q.lk, cb] 58)) from
      ((Below.refl _ _).alloc (Nat.le_refl _) _).alloc (by simp) _)
    clear ha hb
    by_cases h1 : p.kd = q.kd
    · have t1 := bne_no h1
      by_cases h2 : p.no = q.no
      · have t2 := bne_no h2
        by_cases h3 : p.ep = q.ep
        · have t3 := bne_no h3
          have h4 : p.lk ≠ q.lk := fun h => hall ⟨h1, h2, h3, h⟩
          have t4 := bne_yes h4
          have S := hide (same_4 h4)
          clear h1 h2 h3 h4 hall
          go_enter Try.func43, Try.ntmps43
          go_wp2_with fail
          go_ret
          exact ⟨ret_b (by rw [S.out]), BB.out⟩
        · have t3 := bne_yes h3
          have S := hide (same_3 h3)
          clear h1 h2 h3 hall
          go_enter Try.func43, Try.ntmps43
          go_wp2_with fail
          go_ret
          exact ⟨ret_b (by rw [S.out]), BB.out⟩
      · have t2 := bne_yes h2
        have S := hide (same_2 h2)
        clear h1 h2 hall
        go_enter Try.func43, Try.ntmps43
        go_wp2_with fail
        go_ret
        exact ⟨ret_b (by rw [S.out]), BB.out⟩
    · have t1 := bne_yes h1
      have S := hide (same_1 h1)
      clear h1 hall
      go_enter Try.func43, Try.ntmps43
      go_wp2_with fail
      go_ret
      exact ⟨ret_b (by rw [S.out]), BB.out⟩
end Go.Proofs.Ytljfomgcoodjkaa
