/- Bytes in memory: rows of cells that read as bytes, and what a conversion of a string to bytes leaves, as an arm of the walk. -/
import Derived.Test.YtljfomgcoodjkaaAwake2
namespace Go.Proofs.Ytljfomgcoodjkaa
open Go.RowKit

/-- Cells that read as bytes. -/
def Row (w : World) (b off : Nat) (xs : List UInt8) : Prop := ∀ i, (h : i < xs.length) → w.cell? ⟨b, off + i, none⟩ = some (.int .u8 (xs[i].toNat : Int))
/-- Cells that may be written. -/
def Loose (w : World) (b : Nat) : Prop := ∀ i v, w.cell? ⟨b, i, none⟩ = some v → w.frozen? ⟨b, i, none⟩ = false

theorem Row.of_cells {w : World} {b off : Nat} {xs : List UInt8} (h : ∀ i, (h : i < xs.length) → w.cell? ⟨b, off + i, none⟩ = some (.int .u8 (xs[i].toNat : Int))) : Row w b off xs := h
theorem Row.grown {w w' : World} {g b off : Nat} {xs : List UInt8} (h : Row w b off xs) (hg : w.grownBy w' (some g)) (hb : b ≠ g) : Row w' b off xs := fun i hi => cell_grown hg hb (h i hi)
theorem Row.take {w : World} {b off : Nat} {xs : List UInt8} (h : Row w b off xs) (k : Nat) : Row w b off (xs.take k) := fun i hi => by
  have hi' : i < xs.length := by rw [List.length_take] at hi; omega
  rw [h i hi', List.getElem_take]
theorem Row.drop {w : World} {b off : Nat} {xs : List UInt8} (h : Row w b off xs) (k : Nat) : Row w b (off + k) (xs.drop k) := fun i hi => by
  have hi' : k + i < xs.length := by rw [List.length_drop] at hi; omega
  rw [Nat.add_assoc, h (k + i) hi', List.getElem_drop]
theorem Row.RB {w : World} {g b off c : Nat} {xs : List UInt8} (h : Row w b off xs) (hb : b ≠ g) : RB w g (.slice (some ⟨b, off, none⟩) xs.length c) xs := ⟨_, _, rfl, .inr ⟨b, off, rfl, hb, h⟩⟩
theorem RB.none (w : World) (g : Nat) (A : Option Addr) (c : Nat) : RB w g (.slice A 0 c) [] := ⟨_, _, rfl, .inl rfl⟩

theorem row_of_block {w : World} {b : Nat} {C : Array Value} {t : TypeId} {fr : Nat × Nat} (hb : w.heap[b]? = some (.cells C t fr)) (xs : List UInt8) (hC : C.toList.take xs.length = xs.map bv) : Row w b 0 xs := fun i hi => by
  have h2 : (C.toList.take xs.length)[i]? = (xs.map bv)[i]? := by rw [hC]
  rw [List.getElem?_take, if_pos hi, List.getElem?_map, List.getElem?_eq_getElem hi, Array.getElem?_toList] at h2
  rw [Nat.zero_add, cell_of_row _ _ _ C t fr hb, h2]; rfl

/-- The element type of a block. -/
def Typed (w : World) (b : Nat) (t : TypeId) : Prop := ∃ C fr, w.heap[b]? = some (.cells C t fr)

theorem Typed.lt {w : World} {b : Nat} {t : TypeId} (h : Typed w b t) : b < w.heap.size := by
  obtain ⟨C, fr, h⟩ := h
  exact (Array.getElem?_eq_some_iff.1 h).1
theorem Typed.below {w w' : World} {b B : Nat} {t : TypeId} (h : Typed w b t) (hb : Below B w w') (hB : b < B) : Typed w' b t := by
  obtain ⟨C, fr, h⟩ := h
  exact ⟨C, fr, (hb.block b hB).trans h⟩
theorem Typed.grown {w w' : World} {b : Nat} {t : TypeId} {row : Option Nat} (h : Typed w b t) (hg : w.grownBy w' row) (hne : some b ≠ row) : Typed w' b t := by
  obtain ⟨C, fr, h⟩ := h
  exact ⟨C, fr, (hg.block b (Array.getElem?_eq_some_iff.1 h).1 hne).trans h⟩
theorem Typed.apart {w : World} {b t base e size n : Nat} {v : Value} {xs : List Value} (h : Typed w b t) (ho : w.ownsRow base e size v n xs) (hne : t ≠ e) : some b ≠ v.ownBlock := by
  rcases ho.2 with ⟨rfl, _⟩ | ⟨g', cap, cur, rfl, _, hh, _⟩
  · simp [Value.ownBlock]
  · obtain ⟨C, fr, h⟩ := h
    simp only [Value.ownBlock]
    intro he
    injection he with he
    subst he
    rw [h] at hh
    injection hh with hh
    injection hh with _ hh
    exact hne hh
theorem own_below {w w' : World} {base e size n : Nat} {v : Value} {xs : List Value} (h : w.ownsRow base e size v n xs) (hb : Below w.heap.size w w') : w'.ownsRow base e size v n xs := by
  have hg := grown_of_below hb none
  exact h.kept hg (by cases v.ownBlock <;> simp)

/-- What '[]byte(s)' leaves: a new block whose cells read as the bytes; room behind them. -/
structure Bytes (w w' : World) (b c : Nat) (xs : List UInt8) : Prop where
  row : Row w' b 0 xs
  loose : ∀ i, i < xs.length → w'.frozen? ⟨b, i, none⟩ = false
  new : w.heap.size ≤ b
  lt : b < w'.heap.size
  room : xs.length ≤ c
  below : Below w.heap.size w w'
  kind : Typed w' b 5

theorem bytesRow_take (s : ByteArray) (cap : Nat) : (bytesRow s cap).toList.take s.data.toList.length = s.data.toList.map bv := by
  have : (s.data.map (fun b => Value.int .u8 b.toNat)).toList = s.data.toList.map bv := by rw [Array.toList_map]; rfl
  unfold bytesRow
  rw [Array.toList_append, List.take_append_of_le_length (by simp), this, List.take_of_length_le (by simp)]

theorem bytes_made (w : World) (s : ByteArray) :
    Bytes w (w.drew.alloc (.cells (bytesRow s (grownCap w s.size 0 5)) 5 ((bytesRow s (grownCap w s.size 0 5)).size, (bytesRow s (grownCap w s.size 0 5)).size + 1))) w.heap.size (grownCap w s.size 0 5) s.data.toList := by
  have hb : (w.drew.alloc (.cells (bytesRow s (grownCap w s.size 0 5)) 5 ((bytesRow s (grownCap w s.size 0 5)).size, (bytesRow s (grownCap w s.size 0 5)).size + 1))).heap[w.heap.size]? =
      some (.cells (bytesRow s (grownCap w s.size 0 5)) 5 ((bytesRow s (grownCap w s.size 0 5)).size, (bytesRow s (grownCap w s.size 0 5)).size + 1)) := heap_alloc_new w.drew _
  refine ⟨row_of_block hb _ (bytesRow_take s _), fun i hi => ?_, Nat.le_refl _, by simp, grownCap_ge w _ _ _, ((Below.refl _ _).drew).alloc (Nat.le_refl _) _, ⟨_, _, hb⟩⟩
  have hi' : i < (bytesRow s (grownCap w s.size 0 5)).size := by
    unfold bytesRow
    simp only [Array.size_append, Array.size_map]
    have : i < s.data.size := by simpa using hi
    omega
  simp only [World.frozen?, hb]
  simp only [decide_eq_false_iff_not, Bool.and_eq_false_iff, Nat.not_le]
  exact .inl (by simpa using hi')

/-- '[]byte(s)' as an arm of the walk. -/
theorem wpList_to_bytes {ops : Array Oper} {rest : List Oper} {o : Oper} {a : Act} {w : World} {Q : Exit → Act → World → Prop} (hgd : o.guard = none) (x : Operand) (ho : o.op = .convert 9 28 x) (s : ByteArray) (hx : a.eval x = .string s)
    (h : ∀ b c w', Bytes w w' b c s.data.toList → wpList Try.prog ops Q rest (a.put o.dst (.slice (some ⟨b, 0, none⟩) s.size c)) w') : wpList Try.prog ops Q (o :: rest) a w := by
  refine wpList_plain hgd fun _ hK => ?_
  unfold Oper.wp execOp
  simp only [ho, hx, Sem.run_bind]
  rw [run_bytes_of_string w 9 28 5 s Try.underlying9 Try.underlying28 Try.underlying5]
  simp only [Result.andThen_ok, Sem.run_pure]
  exact hK _ _ (h _ _ _ (bytes_made w s))

/-- A slice that reads as strings, none of its cells in block g. -/
def RS (w : World) (g : Nat) (v : Value) (ss : List ByteArray) : Prop :=
  ∃ A c, v = .slice A ss.length c ∧ ss.length ≤ c ∧ c ≤ maxLen ∧ (∀ s ∈ ss, s.size ≤ maxLen) ∧
    (ss = [] ∨ ∃ b off, A = some ⟨b, off, none⟩ ∧ b ≠ g ∧ ∀ i, (h : i < ss.length) → w.cell? ⟨b, off + i, none⟩ = some (.string ss[i]))

theorem RS.grown {w w' : World} {g : Nat} {v : Value} {ss : List ByteArray} (h : RS w g v ss) (hg : w.grownBy w' (some g)) : RS w' g v ss := by
  obtain ⟨A, c, hv, h1, h2, h3, h⟩ := h
  exact ⟨A, c, hv, h1, h2, h3, h.imp id fun ⟨b, off, hA, hb, hc⟩ => ⟨b, off, hA, hb, fun i hi => cell_grown hg hb (hc i hi)⟩⟩
theorem RS.below {w w' : World} {g : Nat} {v : Value} {ss : List ByteArray} (h : RS w g v ss) (hb : Below w.heap.size w w') : RS w' g v ss := h.grown (grown_of_below hb _)
theorem RB.below {w w' : World} {g : Nat} {v : Value} {xs : List UInt8} (h : RB w g v xs) (hb : Below w.heap.size w w') : RB w' g v xs := h.grown (grown_of_below hb _)
theorem Row.other {w w' : World} {b off : Nat} {xs : List UInt8} {row : Option Nat} (h : Row w b off xs) (hg : w.grownBy w' row) (hne : some b ≠ row) : Row w' b off xs := fun i hi => hg.cell (h i hi) hne
theorem Row.below {w w' : World} {b off : Nat} {xs : List UInt8} (h : Row w b off xs) (hb : Below w.heap.size w w') : Row w' b off xs := fun i hi => by
  have hc := h i hi
  rw [hb.cell (World.block_lt_of_cell? w _ hc)]; exact hc

/-- What an argument that is a slice of strings is, as the call begins: its cells lie below every block to come. -/
def Strs (w : World) (v : Value) (ss : List ByteArray) : Prop :=
  ∃ A c, v = .slice A ss.length c ∧ ss.length ≤ c ∧ c ≤ maxLen ∧ (∀ s ∈ ss, s.size ≤ maxLen) ∧
    (ss = [] ∨ ∃ b off, A = some ⟨b, off, none⟩ ∧ ∀ i, (h : i < ss.length) → w.cell? ⟨b, off + i, none⟩ = some (.string ss[i]))

theorem Strs.RS {w w' : World} {B g : Nat} {v : Value} {ss : List ByteArray} (h : Strs w v ss) (hB : w.heap.size = B) (hb : Below B w w') (hg : B ≤ g) : RS w' g v ss := by
  subst hB
  obtain ⟨A, c, hv, h1, h2, h3, h⟩ := h
  refine ⟨A, c, hv, h1, h2, h3, ?_⟩
  by_cases hn : ss = []
  · exact .inl hn
  · rcases h with h | ⟨b, off, hA, hc⟩
    · exact .inl h
    · have hlt : ∀ i, (hi : i < ss.length) → b < w.heap.size := fun i hi => World.block_lt_of_cell? w _ (hc i hi)
      have hb0 := hlt 0 (List.length_pos_iff.2 hn)
      exact .inr ⟨b, off, hA, by omega, fun i hi => by rw [hb.cell (p := ⟨b, off + i, none⟩) (hlt i hi)]; exact hc i hi⟩

theorem Und.below {B : Nat} {w0 w w' : World} {g : Nat} {n : Int} (h : Und B w0 w g n) (hb : Below w.heap.size w w') : Und B w0 w' g n :=
  ⟨h.1.below hb h.1.lt, h.2.1.trans (hb.mono h.2.2.2), h.2.2.1, Nat.le_trans h.2.2.2 hb.size⟩
theorem Und.back {B : Nat} {w0 w : World} {g : Nat} {n : Int} (h : Und B w0 w g n) {b i : Nat} {v : Value} (hb : b < B) (hc : w0.cell? ⟨b, i, none⟩ = some v) : w.cell? ⟨b, i, none⟩ = some v := by
  rw [h.2.1.cell (p := ⟨b, i, none⟩) hb]; exact hc
theorem Below.box {w w' : World} {o : Obj} (h : Below (w.heap.size + 1) (w.alloc o) w') : Below w.heap.size w w' :=
  ((Below.refl _ _).alloc (Nat.le_refl _) o).trans (h.mono (by omega))

/-- Where a slice that is cut begins. -/
def cutAt (a : Option Addr) (l m : Nat) : Option Addr := if m = l then a else a.map (·.add l)

theorem size5 : (Try.prog.info? 5).map (·.size) = some 1 := by kernel_rfl
theorem run_size5 (w : World) : (sizeOf (Try.prog.elem 28)).run Try.prog w = .ok 1 w := by kernel_rfl

theorem ht28 : Try.prog.underlying 28 = some (.slice (Try.prog.elem 28)) := by kernel_rfl
theorem slice28_lh (a : Option Addr) (n c l h : Nat) (h1 : l ≤ h) (h2 : h ≤ c) (w : World) :
    (Instr.slice 28 (.slice a n c) (some (.int .i64 (l : Int))) (some (.int .i64 (h : Int))) none).run Try.prog w = .ok (.slice (cutAt a l c) (h - l) (c - l)) w := by
  rw [run_slice_lh w 28 a n c ht28 .i64 .i64 l h (by omega) (by omega) (by omega), run_size5]
  simp [sliced, cutAt]
theorem slice28_h (a : Option Addr) (n c h : Nat) (h2 : h ≤ c) (w : World) :
    (Instr.slice 28 (.slice a n c) none (some (.int .i64 (h : Int))) none).run Try.prog w = .ok (.slice a h c) w := by
  rw [run_slice_h w 28 a n c ht28 .i64 h (by omega) (by omega), run_size5]
  have e : a.map (fun x => x.add 0) = a := by cases a <;> simp [Addr.add]
  simp [sliced, e]
theorem slice28_l (a : Option Addr) (n c l : Nat) (h2 : l ≤ n) (w : World) :
    (Instr.slice 28 (.slice a n c) (some (.int .i64 (l : Int))) none none).run Try.prog w = .ok (.slice (cutAt a l c) (n - l) (c - l)) w := by
  rw [run_slice_l w 28 a n c ht28 .i64 l (by omega) (by omega), run_size5]
  simp [sliced, cutAt]

theorem Row.cut {w : World} {g b off l h c m : Nat} {xs : List UInt8} (hr : Row w b off xs) (hb : b ≠ g) (h1 : l ≤ h) (h2 : h ≤ xs.length) (h3 : h ≤ c) :
    _root_.Go.Proofs.Ytljfomgcoodjkaa.RB w g (.slice (cutAt (some ⟨b, off, none⟩) l c) (h - l) m) ((xs.drop l).take (h - l)) := by
  have e : ((xs.drop l).take (h - l)).length = h - l := by rw [List.length_take, List.length_drop]; omega
  refine ⟨cutAt (some ⟨b, off, none⟩) l c, m, by rw [e], ?_⟩
  by_cases hc : c = l
  · refine .inl (List.eq_nil_of_length_eq_zero (by omega))
  · refine .inr ⟨b, off + l, ?_, hb, ?_⟩
    · unfold cutAt
      rw [if_neg hc]
      by_cases h0 : l = 0
      · subst h0; rfl
      · simp [Addr.add, h0]
    · exact (hr.drop l).take (h - l)

theorem RL.three {w : World} {g bb c : Nat} {v0 v1 v2 : Value} {x0 x1 x2 : List UInt8} (hb : bb ≠ g) (h0 : w.cell? ⟨bb, 0, none⟩ = some v0) (h1 : w.cell? ⟨bb, 1, none⟩ = some v1) (h2 : w.cell? ⟨bb, 2, none⟩ = some v2)
    (r0 : RB w g v0 x0) (r1 : RB w g v1 x1) (r2 : RB w g v2 x2) : RL w g (.slice (some ⟨bb, 0, none⟩) 3 c) [x0, x1, x2] :=
  ⟨_, _, rfl, .inr ⟨bb, 0, rfl, hb, fun i hi => by
    match i, hi with
    | 0, _ => exact ⟨_, h0, r0⟩
    | 1, _ => exact ⟨_, h1, r1⟩
    | 2, _ => exact ⟨_, h2, r2⟩⟩⟩


/-- Bytes as a text. -/
def strOf (l : List UInt8) : ByteArray := ⟨l.toArray⟩
theorem strOf_add (l : List UInt8) (s : ByteArray) : strOf l ++ s = strOf (l ++ s.data.toList) := by
  have h : (strOf l ++ s).data = (strOf (l ++ s.data.toList)).data := by
    rw [ByteArray.data_append]; simp [strOf]
  cases h1 : (strOf l ++ s); cases h2 : strOf (l ++ s.data.toList)
  rw [h1, h2] at h
  simpa using h
theorem strOf_size (l : List UInt8) : (strOf l).size = l.length := by simp [strOf, ByteArray.size]
theorem strOf_data (l : List UInt8) : (strOf l).data.toList = l := by simp [strOf]
end Go.Proofs.Ytljfomgcoodjkaa
