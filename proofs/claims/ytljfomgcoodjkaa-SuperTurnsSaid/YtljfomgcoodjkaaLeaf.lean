/- The walks of the small functions of layer 4 over slices of texts: Room, Fits, few, slices.Equal, and the document's own. -/
import Derived.Test.YtljfomgcoodjkaaAlone
namespace Go.Proofs.Ytljfomgcoodjkaa
open Go.RowKit

/-- How many bytes there are in all. -/
def tot (ss : List ByteArray) : Nat := (ss.map ByteArray.size).sum
def room (ss : List ByteArray) : Nat := 2 * ss.length + tot ss
def slimB (ss : List ByteArray) : Bool := ss.all fun s => decide (s.size ≤ 235)
def fitsB (ss : List ByteArray) : Bool := decide (room ss ≤ 236) && slimB ss
def fewB (ss : List ByteArray) : Bool := (ss.all fun s => decide (s.size ≤ 300)) && decide (ss.length ≤ 200)

theorem tot_nil : tot [] = 0 := rfl
theorem tot_cons (s : ByteArray) (ss : List ByteArray) : tot (s :: ss) = s.size + tot ss := by simp [tot]
theorem tot_append (a b : List ByteArray) : tot (a ++ b) = tot a + tot b := by simp [tot]
theorem tot_snoc (ss : List ByteArray) (k : Nat) (h : k < ss.length) : tot (ss.take (k + 1)) = tot (ss.take k) + ss[k].size := by
  rw [take_snoc ss k h, tot_append, tot_cons, tot_nil]; omega
theorem tot_le : ∀ (ss : List ByteArray) (m : Nat), (∀ s ∈ ss, s.size ≤ m) → tot ss ≤ m * ss.length
  | [], _, _ => by simp [tot]
  | s :: ss, m, h => by
    have h1 := tot_le ss m (fun x hx => h x (List.mem_cons_of_mem _ hx))
    have h2 := h s (List.mem_cons_self ..)
    rw [tot_cons, List.length_cons, Nat.mul_add]
    omega
theorem room_append (a b : List ByteArray) : room (a ++ b) = room a + room b := by
  unfold room; rw [tot_append, List.length_append]; omega
theorem slim_iff (ss : List ByteArray) : slimB ss = true ↔ ∀ s ∈ ss, s.size ≤ 235 := by simp [slimB]
theorem few_iff (ss : List ByteArray) : fewB ss = true ↔ (∀ s ∈ ss, s.size ≤ 300) ∧ ss.length ≤ 200 := by simp [fewB]
theorem fits_iff (ss : List ByteArray) : fitsB ss = true ↔ room ss ≤ 236 ∧ ∀ s ∈ ss, s.size ≤ 235 := by simp [fitsB, slimB]

theorem ret_b {a b : Bool} (h : a = b) : Ending.returned (.bool a) = .returned (.bool b) := by rw [h]
theorem int_eq {k : IntKind} {a b : Int} (h : a = b) : Value.int k a = .int k b := by rw [h]

/-- What a walk over a slice of strings needs: where its k-th cell lies. -/
theorem RS.at_ {w : World} {g n c k : Nat} {A : Option Addr} {ss : List ByteArray} (h : RS w g (.slice A n c) ss) (hk : k < ss.length) : ∃ b off, A = some ⟨b, off, none⟩ ∧ b ≠ g ∧ w.cell? ⟨b, off + k, none⟩ = some (.string ss[k]) := by
  obtain ⟨A', c', hv, _, _, _, h⟩ := h
  injection hv with hv
  subst hv
  rcases h with h | ⟨b, off, h1, h2, h3⟩
  · rw [h] at hk; simp at hk
  · exact ⟨b, off, h1, h2, h3 k hk⟩
theorem RS.len {w : World} {g : Nat} {v : Value} {ss : List ByteArray} (h : RS w g v ss) : ∃ A c, v = .slice A ss.length c ∧ ss.length ≤ maxLen := by
  obtain ⟨A, c, hv, h1, h2, _⟩ := h
  exact ⟨A, c, hv, Nat.le_trans h1 h2⟩
theorem RS.small {w : World} {g : Nat} {v : Value} {ss : List ByteArray} (h : RS w g v ss) : ∀ s ∈ ss, s.size ≤ maxLen := by
  obtain ⟨A, c, hv, h1, h2, h3, _⟩ := h
  exact h3

set_option maxRecDepth 100000 in
set_option maxHeartbeats 400000 in
/-- 'page.Room'. -/
theorem room_any (g : Nat) (v : Value) (ss : List ByteArray) (w : World) (h : RS w g v ss) (hl : ss.length ≤ 300) (hs : ∀ s ∈ ss, s.size ≤ 300) :
    Calls Try.prog 38 #[v] w fun e w' => e = .returned (.int .i64 (room ss : Nat)) ∧ w = w' := by
  have htot : ∀ k, tot (ss.take k) ≤ 90000 := fun k => by
    have h1 := tot_le (ss.take k) 300 (fun s hx => hs s (List.mem_of_mem_take hx))
    rw [List.length_take] at h1
    omega
  obtain ⟨A, c, hv, _⟩ := h.len
  subst hv
  have H := hide h
  have HT := hide htot
  have HS := hide hs
  clear h htot hs
  go_enter Try.func38, Try.ntmps38
  go_wp2_with fail
  go_loop [3, 8] (fun n i => ∃ k : Nat, k ≤ ss.length ∧ i = .int .i64 k ∧ n = .int .i64 (2 * k + tot (ss.take k) : Nat)) (fun _ i => ss.length - (intOf i).toNat)
  case atStart => exact ⟨0, by omega, rfl, rfl⟩
  case round =>
    obtain ⟨k, hk, rfl, rfl⟩ := hrel
    by_cases hlt : k < ss.length
    · obtain ⟨b, off, hA, _, hc⟩ := H.out.at_ hlt
      subst hA
      have h1 := HT.out k
      have h2 := HS.out ss[k] (List.getElem_mem hlt)
      have h3 := hide (tot_snoc ss k hlt)
      obtain ⟨t, ht⟩ : ∃ t, t = 2 * k + tot (ss.take k) := ⟨_, rfl⟩
      rw [← ht]
      have ht' : t ≤ 91000 := by omega
      have HTT := hide ht
      clear ht
      go_wp2_with fail
      go_round
      case rel => exact ⟨k + 1, by omega, by go_num, int_eq (by rw [h3.out]; have := HTT.out; omega)⟩
      case measure => simp [intOf]; omega
    · obtain rfl : k = ss.length := by omega
      go_wp2_with fail
      go_ret
      exact ⟨ret_int (by unfold room; omega), rfl⟩

set_option maxRecDepth 100000 in
set_option maxHeartbeats 400000 in
/-- 'lunetteref04.Room'. -/
theorem ref_room (g : Nat) (v : Value) (ss : List ByteArray) (w : World) (h : RS w g v ss) (hl : ss.length ≤ 300) (hs : ∀ s ∈ ss, s.size ≤ 300) :
    Calls Try.prog 39 #[v] w fun e w' => e = .returned (.int .i64 (room ss : Nat)) ∧ w = w' := by
  have htot : ∀ k, tot (ss.take k) ≤ 90000 := fun k => by
    have h1 := tot_le (ss.take k) 300 (fun s hx => hs s (List.mem_of_mem_take hx))
    rw [List.length_take] at h1
    omega
  obtain ⟨A, c, hv, _⟩ := h.len
  subst hv
  have H := hide h
  have HT := hide htot
  have HS := hide hs
  clear h htot hs
  go_enter Try.func39, Try.ntmps39
  go_wp2_with fail
  go_loop [3, 4] (fun n i => ∃ k : Nat, k ≤ ss.length ∧ i = .int .i64 k ∧ n = .int .i64 (2 * ss.length + tot (ss.take k) : Nat)) (fun _ i => ss.length - (intOf i).toNat)
  case atStart => exact ⟨0, by omega, rfl, int_eq (by simp [tot])⟩
  case round =>
    obtain ⟨k, hk, rfl, rfl⟩ := hrel
    by_cases hlt : k < ss.length
    · obtain ⟨b, off, hA, _, hc⟩ := H.out.at_ hlt
      subst hA
      have h1 := HT.out k
      have h2 := HS.out ss[k] (List.getElem_mem hlt)
      have h3 := hide (tot_snoc ss k hlt)
      obtain ⟨t, ht⟩ : ∃ t, t = 2 * ss.length + tot (ss.take k) := ⟨_, rfl⟩
      rw [← ht]
      have ht' : t ≤ 91000 := by omega
      have HTT := hide ht
      clear ht
      go_wp2_with fail
      go_round
      case rel => exact ⟨k + 1, by omega, by go_num, int_eq (by rw [h3.out]; have := HTT.out; omega)⟩
      case measure => simp [intOf]; omega
    · obtain rfl : k = ss.length := by omega
      go_wp2_with fail
      go_ret
      exact ⟨ret_int (by unfold room; omega), rfl⟩

set_option maxRecDepth 100000 in
set_option maxHeartbeats 400000 in
/-- The closure of Fits. -/
theorem long_any (s : ByteArray) (w : World) (_hs : s.size ≤ maxLen) :
    Calls Try.prog 57 #[.string s] w fun e w' => e = .returned (.bool (decide (235 < (s.size : Int)))) ∧ w = w' := by
  unfold maxLen at _hs
  go_enter Try.func57, Try.ntmps57
  go_wp2_with fail
  go_ret
  exact ⟨rfl, rfl⟩

/-- How far the cells are short enough. -/
theorem slim_take {ss : List ByteArray} {k : Nat} (hlt : k < ss.length) (h : ∀ x ∈ ss.take k, x.size ≤ 235) (hk : ss[k].size ≤ 235) : ∀ x ∈ ss.take (k + 1), x.size ≤ 235 := by
  intro x hx
  rw [take_snoc ss k hlt, List.mem_append] at hx
  rcases hx with hx | hx
  · exact h x hx
  · simp at hx
    subst hx
    exact hk
theorem slim_no {ss : List ByteArray} {k : Nat} (hlt : k < ss.length) (hk : 235 < ss[k].size) : slimB ss = false := by
  rw [← Bool.not_eq_true, slim_iff]
  intro h
  have := h _ (List.getElem_mem hlt)
  omega

set_option maxRecDepth 100000 in
set_option maxHeartbeats 400000 in
/-- 'slices.IndexFunc' with the closure: the first cell that is too long, or -1. -/
theorem index_any (g : Nat) (v : Value) (ss : List ByteArray) (w : World) (h : RS w g v ss) :
    Calls Try.prog 68 #[v, .func (.func 57) #[] #[]] w fun e w' => (∃ n : Int, e = .returned (.int .i64 n) ∧ decide (n ≥ 0) = !slimB ss) ∧ w = w' := by
  have hsm := h.small
  obtain ⟨A, c, hv, hlm⟩ := h.len
  unfold maxLen at hlm
  subst hv
  have H := hide h
  have HS := hide hsm
  clear h hsm
  go_enter Try.func68, Try.ntmps68
  go_wp2_with fail
  go_loop [8] (fun i => ∃ k : Nat, k ≤ ss.length ∧ i = .int .i64 k ∧ ∀ x ∈ ss.take k, x.size ≤ 235) (fun i => ss.length - (intOf i).toNat)
  case atStart => exact ⟨0, by omega, rfl, by simp⟩
  case round =>
    obtain ⟨k, hk, rfl, hall⟩ := hrel
    have AL := hide hall
    clear hall
    by_cases hlt : k < ss.length
    · obtain ⟨b, off, hA, _, hc⟩ := H.out.at_ hlt
      subst hA
      have h2 := HS.out ss[k] (List.getElem_mem hlt)
      by_cases hbig : 235 < ss[k].size
      · have L := long_any ss[k] w h2
        rw [decide_eq_true (show (235 : Int) < (ss[k].size : Int) by omega)] at L
        have L' := hide L
        have NO := hide (slim_no hlt hbig)
        clear L
        go_wp2_with (go_at_call 57; refine L'.out.mono ?_; rintro e w' ⟨rfl, rfl⟩)
        go_ret
        exact ⟨⟨_, rfl, by rw [NO.out]; simp⟩, rfl⟩
      · have L := long_any ss[k] w h2
        rw [decide_eq_false (show ¬ (235 : Int) < (ss[k].size : Int) by omega)] at L
        have L' := hide L
        have S' := hide (slim_take hlt AL.out (by omega))
        clear L
        go_wp2_with (go_at_call 57; refine L'.out.mono ?_; rintro e w' ⟨rfl, rfl⟩)
        go_round
        case rel => exact ⟨k + 1, by omega, by go_num, S'.out⟩
        case measure => simp [intOf]; omega
    · obtain rfl : k = ss.length := by omega
      have Y := hide ((slim_iff ss).2 (by have := AL.out; rw [List.take_length] at this; exact this))
      go_wp2_with fail
      go_ret
      exact ⟨⟨_, rfl, by rw [Y.out]; simp⟩, rfl⟩

set_option maxRecDepth 100000 in
set_option maxHeartbeats 400000 in
theorem contains_any (g : Nat) (v : Value) (ss : List ByteArray) (w : World) (h : RS w g v ss) :
    Calls Try.prog 58 #[v, .func (.func 57) #[] #[]] w fun e w' => e = .returned (.bool (!slimB ss)) ∧ w = w' := by
  have I := hide (index_any g v ss w h)
  clear h
  go_enter Try.func58, Try.ntmps58
  go_wp2_with fail
  refine I.out.mono ?_
  rintro e w' ⟨⟨n, rfl, hn⟩, rfl⟩
  have N := hide hn
  clear hn
  go_wp2_with fail
  go_ret
  exact ⟨ret_b N.out, rfl⟩

set_option maxRecDepth 100000 in
set_option maxHeartbeats 400000 in
/-- 'page.Fits'. -/
theorem fits_any (g : Nat) (v : Value) (ss : List ByteArray) (w : World) (h : RS w g v ss) (hl : ss.length ≤ 300) (hs : ∀ s ∈ ss, s.size ≤ 300) :
    Calls Try.prog 40 #[v] w fun e w' => e = .returned (.bool (fitsB ss)) ∧ w = w' := by
  have R := hide (room_any g v ss w h hl hs)
  have C := hide (contains_any g v ss w h)
  clear h hs
  by_cases hr : room ss ≤ 236
  · have hr' : ((room ss : Nat) : Int) ≤ 236 := by omega
    have E := hide (show fitsB ss = slimB ss by unfold fitsB; rw [decide_eq_true hr, Bool.true_and])
    go_enter Try.func40, Try.ntmps40
    go_wp2_with fail
    refine R.out.mono ?_
    rintro e w' ⟨rfl, rfl⟩
    go_wp2_with fail
    refine C.out.mono ?_
    rintro e w' ⟨rfl, rfl⟩
    go_wp2_with fail
    go_ret
    exact ⟨ret_b (by rw [E.out]), rfl⟩
  · have hr' : ¬ ((room ss : Nat) : Int) ≤ 236 := by omega
    have E := hide (show fitsB ss = false by unfold fitsB; rw [decide_eq_false hr, Bool.false_and])
    go_enter Try.func40, Try.ntmps40
    go_wp2_with fail
    refine R.out.mono ?_
    rintro e w' ⟨rfl, rfl⟩
    go_wp2_with fail
    go_ret
    exact ⟨ret_b (by rw [E.out]), rfl⟩

set_option maxRecDepth 100000 in
set_option maxHeartbeats 400000 in
/-- 'lunetteref04.Fits'. -/
theorem ref_fits (g : Nat) (v : Value) (ss : List ByteArray) (w : World) (h : RS w g v ss) (hl : ss.length ≤ 300) :
    Calls Try.prog 41 #[v] w fun e w' => e = .returned (.bool (fitsB ss)) ∧ w = w' := by
  have hsm := h.small
  have HH := hide h
  obtain ⟨A, c, hv, hlm⟩ := h.len
  unfold maxLen at hlm
  subst hv
  have H := hide h
  have HS := hide hsm
  clear h hsm
  go_enter Try.func41, Try.ntmps41
  go_wp2_with fail
  go_loop [3] (fun i => ∃ k : Nat, k ≤ ss.length ∧ i = .int .i64 k ∧ ∀ x ∈ ss.take k, x.size ≤ 235) (fun i => ss.length - (intOf i).toNat)
  case atStart => exact ⟨0, by omega, rfl, by simp⟩
  case round =>
    obtain ⟨k, hk, rfl, hall⟩ := hrel
    have AL := hide hall
    clear hall
    by_cases hlt : k < ss.length
    · obtain ⟨b, off, hA, _, hc⟩ := H.out.at_ hlt
      subst hA
      have h2 := HS.out ss[k] (List.getElem_mem hlt)
      unfold maxLen at h2
      by_cases hbig : 235 < ss[k].size
      · have hbig' : (235 : Int) < (ss[k].size : Int) := by omega
        have NO := hide (show fitsB ss = false by unfold fitsB; rw [slim_no hlt hbig, Bool.and_false])
        go_wp2_with fail
        go_ret
        exact ⟨ret_b (by rw [NO.out]), rfl⟩
      · have S' := hide (slim_take hlt AL.out (by omega))
        go_wp2_with fail
        go_round
        case rel => exact ⟨k + 1, by omega, by go_num, S'.out⟩
        case measure => simp [intOf]; omega
    · obtain rfl : k = ss.length := by omega
      have hal : ∀ x ∈ ss, x.size ≤ 235 := by have := AL.out; rw [List.take_length] at this; exact this
      have R := hide (ref_room g _ ss _ H.out hl (fun x hx => Nat.le_trans (hal x hx) (by omega)))
      have Y := hide (show fitsB ss = decide (room ss ≤ 236) by unfold fitsB; rw [(slim_iff ss).2 hal, Bool.and_true])
      clear hal
      go_wp2_with fail
      refine R.out.mono ?_
      rintro e w' ⟨rfl, rfl⟩
      go_wp2_with fail
      go_ret
      exact ⟨ret_b (by rw [Y.out, Bool.eq_iff_iff]; simp; omega), rfl⟩

theorem few_take {ss : List ByteArray} {k : Nat} (hlt : k < ss.length) (h : ∀ x ∈ ss.take k, x.size ≤ 300) (hk : ss[k].size ≤ 300) : ∀ x ∈ ss.take (k + 1), x.size ≤ 300 := by
  intro x hx
  rw [take_snoc ss k hlt, List.mem_append] at hx
  rcases hx with hx | hx
  · exact h x hx
  · simp at hx
    subst hx
    exact hk

set_option maxRecDepth 100000 in
set_option maxHeartbeats 400000 in
/-- 'lunettelaw04.few'. -/
theorem few_any (g : Nat) (kd no ep lk : Int) (v : Value) (ss : List ByteArray) (w : World) (h : RS w g v ss) :
    Calls Try.prog 35 #[.agg #[.int .i64 kd, .int .i64 no, .int .i64 ep, .int .i64 lk, v]] w fun e w' => e = .returned (.bool (fewB ss)) ∧ Below w.heap.size w w' := by
  have hsm := h.small
  obtain ⟨A, c, hv, hlm⟩ := h.len
  unfold maxLen at hlm
  subst hv
  have H := hide (h.below ((Below.refl w.heap.size w).alloc (Nat.le_refl _) (.cells #[.int .i64 kd, .int .i64 no, .int .i64 ep, .int .i64 lk, .slice A ss.length c] 58)))
  have hc4 : (w.alloc (.cells #[.int .i64 kd, .int .i64 no, .int .i64 ep, .int .i64 lk, .slice A ss.length c] 58)).cell? ⟨w.heap.size, 4, none⟩ = some (.slice A ss.length c) := by simp
  have BB := hide ((Below.refl w.heap.size w).alloc (Nat.le_refl _) (.cells #[.int .i64 kd, .int .i64 no, .int .i64 ep, .int .i64 lk, .slice A ss.length c] 58))
  have HS := hide hsm
  clear h hsm
  go_enter Try.func35, Try.ntmps35
  go_wp2_with fail
  go_loop [3] (fun i => ∃ k : Nat, k ≤ ss.length ∧ i = .int .i64 k ∧ ∀ x ∈ ss.take k, x.size ≤ 300) (fun i => ss.length - (intOf i).toNat)
  case atStart => exact ⟨0, by omega, rfl, by simp⟩
  case round =>
    obtain ⟨k, hk, rfl, hall⟩ := hrel
    have AL := hide hall
    clear hall
    by_cases hlt : k < ss.length
    · obtain ⟨b, off, hA, _, hc⟩ := H.out.at_ hlt
      subst hA
      have h2 := HS.out ss[k] (List.getElem_mem hlt)
      unfold maxLen at h2
      by_cases hbig : 300 < ss[k].size
      · have hbig' : (300 : Int) < (ss[k].size : Int) := by omega
        have NO := hide (show fewB ss = false by
          rw [← Bool.not_eq_true, few_iff]
          intro h
          have := h.1 _ (List.getElem_mem hlt)
          omega)
        go_wp2_with fail
        go_ret
        exact ⟨ret_b (by rw [NO.out]), BB.out⟩
      · have S' := hide (few_take hlt AL.out (by omega))
        go_wp2_with fail
        go_round
        case rel => exact ⟨k + 1, by omega, by go_num, S'.out⟩
        case measure => simp [intOf]; omega
    · obtain rfl : k = ss.length := by omega
      have hal : ∀ x ∈ ss, x.size ≤ 300 := by have := AL.out; rw [List.take_length] at this; exact this
      have Y := hide (show fewB ss = decide (ss.length ≤ 200) by rw [Bool.eq_iff_iff, few_iff, decide_eq_true_eq]; exact ⟨fun h => h.2, fun h => ⟨hal, h⟩⟩)
      clear hal
      go_wp2_with fail
      go_ret
      exact ⟨ret_b (by rw [Y.out, Bool.eq_iff_iff]; simp; omega), BB.out⟩

/-- Whether two lists of texts are the same, byte by byte. -/
def eqB (a b : List ByteArray) : Bool := decide (bytesOf a = bytesOf b)
theorem eq_lens {a b : List ByteArray} (h : a.length ≠ b.length) : eqB a b = false := by
  unfold eqB
  refine decide_eq_false fun e => h ?_
  have := congrArg List.length e
  rwa [bytesOf_length, bytesOf_length] at this
theorem eq_at {a b : List ByteArray} {k : Nat} (ha : k < a.length) (hb : k < b.length) (h : a[k].data.toList ≠ b[k].data.toList) : eqB a b = false := by
  unfold eqB
  refine decide_eq_false fun e => h ?_
  have h1 : (bytesOf a)[k]? = (bytesOf b)[k]? := by rw [e]
  unfold bytesOf at h1
  rw [List.getElem?_map, List.getElem?_map, List.getElem?_eq_getElem ha, List.getElem?_eq_getElem hb] at h1
  simpa using h1
theorem eq_all {a b : List ByteArray} (h : bytesOf (a.take a.length) = bytesOf (b.take a.length)) (hl : a.length = b.length) : eqB a b = true := by
  unfold eqB
  rw [List.take_length, hl, List.take_length] at h
  exact decide_eq_true h
theorem eq_take {a b : List ByteArray} {k : Nat} (ha : k < a.length) (hb : k < b.length) (h : bytesOf (a.take k) = bytesOf (b.take k)) (h2 : a[k].data.toList = b[k].data.toList) : bytesOf (a.take (k + 1)) = bytesOf (b.take (k + 1)) := by
  rw [bytesOf_snoc a k ha, bytesOf_snoc b k hb, h, h2]

set_option maxRecDepth 100000 in
set_option maxHeartbeats 400000 in
/-- 'slices.Equal'. -/
theorem equal_any (g g2 : Nat) (va vb : Value) (a b : List ByteArray) (w : World) (ha : RS w g va a) (hb : RS w g2 vb b) :
    Calls Try.prog 61 #[va, vb] w fun e w' => e = .returned (.bool (eqB a b)) ∧ Below w.heap.size w w' := by
  obtain ⟨A1, c1, hv1, hl1⟩ := ha.len
  obtain ⟨A2, c2, hv2, hl2⟩ := hb.len
  unfold maxLen at hl1 hl2
  subst hv1 hv2
  have HA := hide ha
  have HB := hide hb
  clear ha hb
  by_cases hlen : a.length = b.length
  · have hne : ((a.length : Int) != (b.length : Int)) = false := by rw [hlen]; simp
    have HL := hide hlen
    clear hlen
    go_enter Try.func61, Try.ntmps61
    go_wp2_with fail
    go_loopw [13] (fun i wr => ∃ k : Nat, k ≤ a.length ∧ i = .int .i64 k ∧ bytesOf (a.take k) = bytesOf (b.take k) ∧ Below w.heap.size w wr) (fun i _ => a.length - (intOf i).toNat)
    case atStart => exact ⟨0, by omega, rfl, rfl, Below.refl _ _⟩
    case round =>
      obtain ⟨k, hk, rfl, hall, hbw⟩ := hrel
      have AL := hide hall
      have BW := hide hbw
      clear hall hbw
      by_cases hlt : k < a.length
      · have hlt2 : k < b.length := by rw [← HL.out]; exact hlt
        obtain ⟨b1, o1, hA1, _, hc1⟩ := HA.out.at_ hlt
        obtain ⟨b2, o2, hA2, _, hc2⟩ := HB.out.at_ hlt2
        subst hA1 hA2
        have d1 := BW.out.old hc1
        have d2 := BW.out.old hc2
        clear hc1 hc2
        by_cases he : a[k].data.toList = b[k].data.toList
        · have ht : (a[k].toList == b[k].toList) = true := by rw [ByteArray.toList_eq, ByteArray.toList_eq, he]; simp
          have EN := hide (eq_take hlt hlt2 AL.out he)
          clear he
          go_wp2_with fail
          go_region
          go_wp2
          go_roundw
          case rel => exact ⟨k + 1, by omega, by go_num, EN.out, BW.out.drew⟩
          case measure => simp [intOf]; omega
        · have ht : (a[k].toList == b[k].toList) = false := by rw [ByteArray.toList_eq, ByteArray.toList_eq]; simpa using he
          have NO := hide (eq_at hlt hlt2 he)
          clear he
          go_wp2_with fail
          go_region
          go_wp2
          go_ret
          exact ⟨ret_b (by rw [NO.out]), BW.out.drew⟩
      · obtain rfl : k = a.length := by omega
        have Y := hide (eq_all AL.out HL.out)
        go_wp2_with fail
        go_ret
        exact ⟨ret_b (by rw [Y.out]), BW.out⟩
  · have hne : ((a.length : Int) != (b.length : Int)) = true := by simp; omega
    have NO := hide (eq_lens hlen)
    clear hlen
    go_enter Try.func61, Try.ntmps61
    go_wp2_with fail
    go_ret
    exact ⟨ret_b (by rw [NO.out]), Below.refl _ _⟩
end Go.Proofs.Ytljfomgcoodjkaa
