/- Bytes laid over others: copy of a text into a buffer of the call's own, as an arm of the walk. -/
import Derived.Test.YtljfomgcoodjkaaBuf
namespace Go.Proofs.Ytljfomgcoodjkaa
open Go.RowKit

/-- Bytes laid over others from a place on. -/
def over (xs : List UInt8) (o : Nat) (ys : List UInt8) : List UInt8 := xs.take o ++ (ys ++ xs.drop (o + ys.length))
theorem over_length (xs : List UInt8) (o : Nat) (ys : List UInt8) (h : o + ys.length ≤ xs.length) : (over xs o ys).length = xs.length := by
  unfold over; simp; omega
theorem over_in (xs : List UInt8) (o : Nat) (ys : List UInt8) (h : o + ys.length ≤ xs.length) (i : Nat) (hi : i < ys.length) : (over xs o ys)[o + i]? = some ys[i] := by
  unfold over
  rw [List.getElem?_append_right (by simp; omega), List.getElem?_append_left (by simp; omega), List.length_take, show o + i - min o xs.length = i by omega, List.getElem?_eq_getElem hi]
theorem over_out (xs : List UInt8) (o : Nat) (ys : List UInt8) (h : o + ys.length ≤ xs.length) (i : Nat) (hi : i < o ∨ o + ys.length ≤ i) : (over xs o ys)[i]? = xs[i]? := by
  unfold over
  rcases hi with hi | hi
  · rw [List.getElem?_append_left (by simp; omega), List.getElem?_take, if_pos hi]
  · rw [List.getElem?_append_right (by simp; omega), List.getElem?_append_right (by simp; omega), List.getElem?_drop, List.length_take]
    congr 1
    omega

theorem Buf.over {w : World} {b o : Nat} {xs ys : List UInt8} (h : Buf w b xs) (hl : o + ys.length ≤ xs.length) : Buf (w.setCells b o (ys.map bv)) b (over xs o ys) := by
  have hsome : ∀ j, j < (ys.map bv).length → (w.cell? ⟨b, o + j, none⟩).isSome = true := fun j hj => by
    rw [List.length_map] at hj
    rw [h.cell (k := o + j) (by omega)]; rfl
  refine ⟨fun i hi => ?_, fun i hi => ?_⟩
  · have hi' : i < xs.length := by rw [over_length _ _ _ hl] at hi; exact hi
    rw [Nat.zero_add]
    by_cases hin : o ≤ i ∧ i < o + ys.length
    · obtain ⟨j, rfl⟩ : ∃ j, i = o + j := ⟨i - o, by omega⟩
      have hj : j < ys.length := by omega
      have e := over_in xs o ys hl j hj
      rw [World.cell?_setCells_in b (ys.map bv) o w hsome j (by simpa using hj)]
      have e2 : (Go.Proofs.Ytljfomgcoodjkaa.over xs o ys)[o + j] = ys[j] := by
        rw [List.getElem?_eq_getElem hi] at e
        exact Option.some.inj e
      rw [e2, List.getElem_map]
      rfl
    · have e := over_out xs o ys hl i (by omega)
      rw [World.cell?_setCells_out b (ys.map bv) o w _ (fun _ _ => by simp; omega), h.cell hi']
      have e2 : (Go.Proofs.Ytljfomgcoodjkaa.over xs o ys)[i] = xs[i] := by
        rw [List.getElem?_eq_getElem hi, List.getElem?_eq_getElem hi'] at e
        exact Option.some.inj e
      rw [e2]
  · rw [over_length _ _ _ hl] at hi
    rw [World.frozen?_setCells]; exact h.loose i hi

theorem grown_setCells {a : World} {b : Nat} : ∀ (vs : List Value) (o : Nat) (w : World), a.grownBy w (some b) → a.grownBy (w.setCells b o vs) (some b)
  | [], _, _, h => h
  | v :: r, o, _, h => grown_setCells (a := a) r (o + 1) _ (grown_setCell h (.inl rfl) v)

/-- 'copy(b[o:], s)' as an arm of the walk. -/
theorem wpList_copy_str {ops : Array Oper} {rest : List Oper} {p : Oper} {a : Act} {w : World} {Q : Exit → Act → World → Prop} (hgd : p.guard = none) (d s : Operand)
    (ho : p.op = .call { callee := .builtin .copy, args := #[d, s], argTypes := #[28, 9] }) (b o n c : Nat) (x : ByteArray) (hd : a.eval d = .slice (some ⟨b, o, none⟩) n c) (hs : a.eval s = .string x)
    (xs : List UInt8) (hb : Buf w b xs) (hfit : o + x.size ≤ xs.length) (hl : x.size ≤ n)
    (h : ∀ w', Buf w' b (over xs o x.data.toList) → w.grownBy w' (some b) → wpList Try.prog ops Q rest (a.put p.dst (goInt x.size)) w') : wpList Try.prog ops Q (p :: rest) a w := by
  refine wpList_plain hgd fun K hK => ?_
  have e : x.data.toList.length = x.size := by simp
  obtain ⟨i0, hi0, hz0, hz1, hz2⟩ := info_parts info5
  have hst := run_storeCells_cells (P := Try.prog) b o (x.data.toList.map bv) 0 w
    (fun j hj => by rw [List.length_map, e] at hj; rw [Nat.add_zero, hb.cell (k := o + j) (by omega)]; rfl)
    (fun j hj => by rw [List.length_map, e] at hj; rw [Nat.add_zero]; exact hb.loose _ (by omega))
    (fun v hv => by obtain ⟨u, _, rfl⟩ := List.mem_map.1 hv; rfl)
  have et : List.take x.size (List.map (fun b => Value.int IntKind.u8 (b.toNat : Int)) x.data.toList) = x.data.toList.map bv := by
    rw [List.take_of_length_le (by rw [List.length_map, e]; exact Nat.le_refl _)]
    rfl
  have hmin : Nat.min x.size n = x.size := Nat.min_eq_left hl
  unfold Oper.wp
  simp [execOp, ho, resolve, invoke, builtin, hd, hs, Result.andThen, Builtin.copy_, run_underlying Try.underlying28, Builtin.lenOf, Builtin.firstCells, sizeOf, typeInfo, hi0, hmin]
  rw [et, hst]
  exact hK _ _ (h _ (by rw [Nat.add_zero]; exact hb.over (by rw [e]; exact hfit)) (grown_setCells _ _ _ (grown_refl _ _)))
end Go.Proofs.Ytljfomgcoodjkaa
