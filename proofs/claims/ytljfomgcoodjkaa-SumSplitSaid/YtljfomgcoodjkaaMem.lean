/- Bytes in memory: rows of cells that read as bytes, and what a conversion of a string to bytes leaves, as an arm of the walk. -/
import Derived.Test.YtljfomgcoodjkaaAwake2
namespace Go.Proofs.Ytljfomgcoodjkaa
open Go.RowKit

/-- Cells that read as bytes. -/
def Row (w : World) (b off : Nat) (xs : List UInt8) : Prop := ∀ i, (h : i < xs.length) → w.cell? ⟨b, off + i, none⟩ = some (.int .u8 (xs[i].toNat : Int))
/-- Cells that may be written. -/
def Loose (w : World) (b : Nat) : Prop := ∀ i v, w.cell? ⟨b, i, none⟩ = some v → w.frozen? ⟨b, i, none⟩ = false

theorem Row.of_cells {w : World} {b off : Nat} {xs : List UInt8} (h : ∀ i, (h : i < xs.length) → w.cell? ⟨b, off + i, none⟩ = some (.int .u8 (xs[i].toNat : Int))) : Row w b off xs := h
theorem Row.grown {w w' : World} {g b off : Nat} {xs : List UInt8} (h : Row w b off xs) (hg : w.grownBy w' (some g)) (hb : b ≠ g) : Row w' b off xs := fun i hi => cell_grown hg hb (h i hi)
theorem Row.take {w : World} {b off : Nat} {xs : List UInt8} (h : Row w b off xs) (k : Nat) : Row w b off (xs.take k) := fun i hi => by
  have hi' : i < xs.length := by rw [List.length_take] at hi; omega
  rw [h i hi', List.getElem_take]
theorem Row.drop {w : World} {b off : Nat} {xs : List UInt8} (h : Row w b off xs) (k : Nat) : Row w b (off + k) (xs.drop k) := fun i hi => by
  have hi' : k + i < xs.length := by rw [List.length_drop] at hi; omega
  rw [Nat.add_assoc, h (k + i) hi', List.getElem_drop]
theorem Row.RB {w : World} {g b off c : Nat} {xs : List UInt8} (h : Row w b off xs) (hb : b ≠ g) : RB w g (.slice (some ⟨b, off, none⟩) xs.length c) xs := ⟨_, _, rfl, .inr ⟨b, off, rfl, hb, h⟩⟩
theorem RB.none (w : World) (g : Nat) (A : Option Addr) (c : Nat) : RB w g (.slice A 0 c) [] := ⟨_, _, rfl, .inl rfl⟩

theorem row_of_block {w : World} {b : Nat} {C : Array Value} {t : TypeId} {fr : Nat × Nat} (hb : w.heap[b]? = some (.cells C t fr)) (xs : List UInt8) (hC : C.toList.take xs.length = xs.map bv) : Row w b 0 xs := fun i hi => by
  have h2 : (C.toList.take xs.length)[i]? = (xs.map bv)[i]? := by rw [hC]
  rw [List.getElem?_take, if_pos hi, List.getElem?_map, List.getElem?_eq_getElem hi, Array.getElem?_toList] at h2
  rw [Nat.zero_add, cell_of_row _ _ _ C t fr hb, h2]; rfl

/-- What '[]byte(s)' leaves: a new block whose cells read as the bytes; room behind them. -/
structure Bytes (w w' : World) (b c : Nat) (xs : List UInt8) : Prop where
  row : Row w' b 0 xs
  loose : ∀ i, i < xs.length → w'.frozen? ⟨b, i, none⟩ = false
  new : w.heap.size ≤ b
  lt : b < w'.heap.size
  room : xs.length ≤ c
  below : Below w.heap.size w w'

theorem bytesRow_take (s : ByteArray) (cap : Nat) : (bytesRow s cap).toList.take s.data.toList.length = s.data.toList.map bv := by
  have : (s.data.map (fun b => Value.int .u8 b.toNat)).toList = s.data.toList.map bv := by rw [Array.toList_map]; rfl
  unfold bytesRow
  rw [Array.toList_append, List.take_append_of_le_length (by simp), this, List.take_of_length_le (by simp)]

theorem bytes_made (w : World) (s : ByteArray) :
    Bytes w (w.drew.alloc (.cells (bytesRow s (grownCap w s.size 0 5)) 5 ((bytesRow s (grownCap w s.size 0 5)).size, (bytesRow s (grownCap w s.size 0 5)).size + 1))) w.heap.size (grownCap w s.size 0 5) s.data.toList := by
  have hb : (w.drew.alloc (.cells (bytesRow s (grownCap w s.size 0 5)) 5 ((bytesRow s (grownCap w s.size 0 5)).size, (bytesRow s (grownCap w s.size 0 5)).size + 1))).heap[w.heap.size]? =
      some (.cells (bytesRow s (grownCap w s.size 0 5)) 5 ((bytesRow s (grownCap w s.size 0 5)).size, (bytesRow s (grownCap w s.size 0 5)).size + 1)) := heap_alloc_new w.drew _
  refine ⟨row_of_block hb _ (bytesRow_take s _), fun i hi => ?_, Nat.le_refl _, by simp, grownCap_ge w _ _ _, ((Below.refl _ _).drew).alloc (Nat.le_refl _) _⟩
  have hi' : i < (bytesRow s (grownCap w s.size 0 5)).size := by
    unfold bytesRow
    simp only [Array.size_append, Array.size_map]
    have : i < s.data.size := by simpa using hi
    omega
  simp only [World.frozen?, hb]
  simp only [decide_eq_false_iff_not, Bool.and_eq_false_iff, Nat.not_le]
  exact .inl (by simpa using hi')

/-- '[]byte(s)' as an arm of the walk. -/
theorem wpList_to_bytes {ops : Array Oper} {rest : List Oper} {o : Oper} {a : Act} {w : World} {Q : Exit → Act → World → Prop} (hgd : o.guard = none) (x : Operand) (ho : o.op = .convert 9 28 x) (s : ByteArray) (hx : a.eval x = .string s)
    (h : ∀ b c w', Bytes w w' b c s.data.toList → wpList Try.prog ops Q rest (a.put o.dst (.slice (some ⟨b, 0, none⟩) s.size c)) w') : wpList Try.prog ops Q (o :: rest) a w := by
  refine wpList_plain hgd fun _ hK => ?_
  unfold Oper.wp execOp
  simp only [ho, hx, Sem.run_bind]
  rw [run_bytes_of_string w 9 28 5 s Try.underlying9 Try.underlying28 Try.underlying5]
  simp only [Result.andThen_ok, Sem.run_pure]
  exact hK _ _ (h _ _ _ (bytes_made w s))
end Go.Proofs.Ytljfomgcoodjkaa
