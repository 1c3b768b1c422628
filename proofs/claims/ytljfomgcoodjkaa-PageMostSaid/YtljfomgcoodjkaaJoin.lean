/- Appending a slice of texts, whatever it is (nil too), to a row of the call's own. -/
import Derived.Test.YtljfomgcoodjkaaAwake4
import Derived.Deep.AppendSrc
import Derived.Deep.AppendLies
namespace Go.Proofs.Ytljfomgcoodjkaa
open Go.RowKit

theorem rs_own {W : World} {g base n : Nat} {v : Value} {ss : List ByteArray} (h : W.ownsRow base 9 1 v n (ss.map Value.string)) (hn : ss.length = n) (hg : g < base) (hs : ∀ s ∈ ss, s.size ≤ maxLen) : RS W g v ss := by
  rcases h.2 with ⟨rfl, h0⟩ | ⟨b, cap, cur, rfl, hb, hh, hc, hcm, _, ht⟩
  · have : ss = [] := List.eq_nil_of_length_eq_zero (by omega)
    subst this
    exact ⟨none, 0, by simp, by simp, by unfold maxLen; omega, hs, .inl rfl⟩
  · refine ⟨_, cap, by rw [hn], by omega, hcm, hs, .inr ⟨b, 0, rfl, by omega, fun i hi => ?_⟩⟩
    rw [Nat.zero_add, cell_of_row _ _ _ cur 9 (0, 0) hh]
    have h2 : (cur.toList.take (n * 1))[i]? = (ss.map Value.string)[i]? := by rw [ht]
    rw [List.getElem?_take, if_pos (by omega), List.getElem?_map, List.getElem?_eq_getElem hi, Array.getElem?_toList] at h2
    exact h2

theorem run_append_strs {w : World} {base n g c : Nat} {v : Value} {xs : List Value} {A : Option Addr} {ss : List ByteArray} (ty : TypeId) (hown : w.ownsRow base 9 1 v n xs) (hr : RS w g (.slice A ss.length c) ss) (hl : n + ss.length ≤ 1000) (hbase : base ≤ w.heap.size) :
    ∃ v' w', (Builtin.append_ #[31, 31] ty #[v, .slice A ss.length c]).run Try.prog w = .ok v' w' ∧ w'.ownsRow base 9 1 v' (n + ss.length) (xs ++ ss.map Value.string) ∧ w.grownBy w' v.ownBlock ∧ (v'.ownBlock = v.ownBlock ∨ v'.ownBlock = some w.heap.size) := by
  obtain ⟨i0, hi0, hz0, hz1, hz2⟩ := info_parts info9
  obtain ⟨A', c', hv, _, _, _, hh⟩ := hr
  injection hv with hA _ hc
  subst hA hc
  have hm : n + ss.length ≤ maxLen := by unfold maxLen; omega
  rcases hh with rfl | ⟨b, off, rfl, _, hcell⟩
  · rcases hown.2 with ⟨rfl, rfl⟩ | ⟨b, cap, cur, rfl, hb, hh, hnc, hcm, _, ht⟩
    · refine ⟨.slice none 0 0, w, ?_, by simpa using hown, grown_refl _ _, .inl rfl⟩
      cases A <;> simp [Builtin.append_, run_underlying Try.underlying31, sizeOf, typeInfo, hi0, Builtin.lenOf, Builtin.firstCells, loadCells, loadCellsFrom]
    · cases A with
      | none =>
        have h := run_append_room_src (P := Try.prog) w 31 31 ty 9 i0 Try.underlying31 hi0 b 0 n cap (.slice none 0 c) 0 [] (Src.ofNil w Try.underlying31 c) (by omega) (by simp) (by simp)
        exact ⟨_, _, h, by simpa [World.setCells] using hown, by simpa [World.setCells] using grown_refl _ _, .inl rfl⟩
      | some a =>
        have h := run_append_room_src (P := Try.prog) w 31 31 ty 9 i0 Try.underlying31 hi0 b 0 n cap (.slice (some a) 0 c) 0 [] (Src.ofSlice w Try.underlying31 a 0 c [] (by simp) (by simp) (by simp)) (by omega) (by simp) (by simp)
        exact ⟨_, _, h, by simpa [World.setCells] using hown, by simpa [World.setCells] using grown_refl _ _, .inl rfl⟩
  · obtain ⟨v', w', h1, h2, h3, _, h5⟩ := run_append_own_at (P := Try.prog) w base 31 ty 9 i0 (.string ByteArray.empty) 1 16 Try.underlying31 hi0 hz0 hz1 hz2 rfl (by omega) v n xs hown ⟨b, off, none⟩ ss.length c (ss.map Value.string) (by simp)
      (fun j u hj => by
        rw [List.getElem?_map] at hj
        have hjl : j < ss.length := by
          rcases Nat.lt_or_ge j ss.length with h | h
          · exact h
          · rw [List.getElem?_eq_none h] at hj; cases hj
        rw [List.getElem?_eq_getElem hjl] at hj
        have e : (⟨b, off, none⟩ : Addr).add j = ⟨b, off + j, none⟩ := by unfold Addr.add; split <;> simp_all
        rw [e, hcell j hjl]
        exact hj)
      (fun u hu => by obtain ⟨s, _, rfl⟩ := List.mem_map.1 hu; rfl) hm (by omega) hbase
    exact ⟨v', w', h1, h2, h3, h5⟩

theorem wp_append_strs {w : World} {o : Oper} {a : Act} {K : Act → World → Prop} {Q : Exit → Act → World → Prop} (s x : Operand) (ho : o.op = .call { callee := .builtin .append, args := #[s, x], argTypes := #[31, 31] })
    (base : Nat) (v : Value) (n : Nat) (xs : List Value) (hs : a.eval s = v) (hown : w.ownsRow base 9 1 v n xs) (A : Option Addr) (g m c : Nat) (ss : List ByteArray) (hx : a.eval x = .slice A m c) (hm : m = ss.length) (hr : RS w g (.slice A ss.length c) ss)
    (hl : n + ss.length ≤ 1000) (hbase : base ≤ w.heap.size)
    (h : ∀ v' w', w'.ownsRow base 9 1 v' (n + ss.length) (xs ++ ss.map Value.string) → w.grownBy w' v.ownBlock → (v'.ownBlock = v.ownBlock ∨ v'.ownBlock = some w.heap.size) → K (a.put o.dst v') w') : o.wp Try.prog a w K Q := by
  subst hm
  obtain ⟨v', w', hrun, h2, h3, h4⟩ := run_append_strs o.type hown hr hl hbase
  unfold Oper.wp execOp
  simp only [ho, resolve, invoke, builtin, Sem.run_bind, Sem.run_pure, Result.andThen_ok, List.map_toArray, List.map_cons, List.map_nil, hs, hx, hrun]
  exact h v' w' h2 h3 h4

theorem wpList_append_strs {ops : Array Oper} {rest : List Oper} {w : World} {o : Oper} {a : Act} {Q : Exit → Act → World → Prop} (hgd : o.guard = none) (s x : Operand) (ho : o.op = .call { callee := .builtin .append, args := #[s, x], argTypes := #[31, 31] })
    (base : Nat) (v : Value) (n : Nat) (xs : List Value) (hs : a.eval s = v) (hown : w.ownsRow base 9 1 v n xs) (A : Option Addr) (g m c : Nat) (ss : List ByteArray) (hx : a.eval x = .slice A m c) (hm : m = ss.length) (hr : RS w g (.slice A ss.length c) ss)
    (hl : n + ss.length ≤ 1000) (hbase : base ≤ w.heap.size)
    (h : ∀ v' w', w'.ownsRow base 9 1 v' (n + ss.length) (xs ++ ss.map Value.string) → w.grownBy w' v.ownBlock → (v'.ownBlock = v.ownBlock ∨ v'.ownBlock = some w.heap.size) → wpList Try.prog ops Q rest (a.put o.dst v') w') : wpList Try.prog ops Q (o :: rest) a w :=
  wpList_plain hgd fun _ hK => wp_append_strs s x ho base v n xs hs hown A g m c ss hx hm hr hl hbase fun v' w' h1 h2 h3 => hK _ _ (h v' w' h1 h2 h3)

theorem step_append_strs {ops : Array Oper} {w : World} {o : Oper} {a : Act} {K : Act → World → Prop} {Q : Exit → Act → World → Prop} {E : Prop} (hgd : o.guard = none) (s x : Operand) (ho : o.op = .call { callee := .builtin .append, args := #[s, x], argTypes := #[31, 31] })
    (base : Nat) (v : Value) (n : Nat) (xs : List Value) (hs : a.eval s = v) (hown : w.ownsRow base 9 1 v n xs) (A : Option Addr) (g m c : Nat) (ss : List ByteArray) (hx : a.eval x = .slice A m c) (hm : m = ss.length) (hr : RS w g (.slice A ss.length c) ss)
    (hl : n + ss.length ≤ 1000) (hbase : base ≤ w.heap.size)
    (h : ∀ v' w', w'.ownsRow base 9 1 v' (n + ss.length) (xs ++ ss.map Value.string) → w.grownBy w' v.ownBlock → (v'.ownBlock = v.ownBlock ∨ v'.ownBlock = some w.heap.size) → K (a.put o.dst v') w') :
    if Region.wanted o (yielded ops a.tmps) = true then Oper.wp Try.prog o a w K Q else E := by
  have hw : Region.wanted o (yielded ops a.tmps) = true := by simp [Region.wanted, hgd]
  rw [if_pos hw]
  exact wp_append_strs s x ho base v n xs hs hown A g m c ss hx hm hr hl hbase h

theorem room_join (a b : List ByteArray) : room (a ++ b) = room a + room b := by
  unfold room tot
  rw [List.map_append, List.sum_append, List.length_append]
  omega
theorem slim_join (a b : List ByteArray) : slimB (a ++ b) = (slimB a && slimB b) := by
  rw [Bool.eq_iff_iff, Bool.and_eq_true, slim_iff, slim_iff, slim_iff]
  constructor
  · exact fun h => ⟨fun s hs => h s (List.mem_append_left _ hs), fun s hs => h s (List.mem_append_right _ hs)⟩
  · rintro ⟨h1, h2⟩ s hs
    rcases List.mem_append.1 hs with h | h
    · exact h1 s h
    · exact h2 s h
theorem fits_join {a b : List ByteArray} (h : fitsB (a ++ b) = true) : fitsB a = true ∧ fitsB b = true := by
  obtain ⟨h1, h2⟩ := (fits_iff _).1 h
  rw [room_join] at h1
  exact ⟨(fits_iff _).2 ⟨by omega, fun s hs => h2 s (List.mem_append_left _ hs)⟩, (fits_iff _).2 ⟨by omega, fun s hs => h2 s (List.mem_append_right _ hs)⟩⟩
end Go.Proofs.Ytljfomgcoodjkaa
