/- The walks of the table's filling and of sync.Once's Do over it: behind Do the table stands, and only the summer's own block has turned. -/
import Derived.Test.YtljfomgcoodjkaaOnce
import Derived.Test.YtljfomgcoodjkaaCrc
namespace Go.Proofs.Ytljfomgcoodjkaa
open Go.RowKit

/-- The world behind k entries of the table. -/
def fillW (w : World) (g : Nat) : Nat → World
  | 0 => w
  | k + 1 => (fillW w g k).setCell ⟨g, 3 + k, none⟩ (.int .u32 (Crc.tab k : Nat))

def fillTo (cs : Array Value) : Nat → Array Value
  | 0 => cs
  | k + 1 => (fillTo cs k).setIfInBounds (3 + k) (.int .u32 (Crc.tab k : Nat))

/-- A block that is known whole. -/
def Blk (w : World) (g : Nat) (t : TypeId) (cs : Array Value) : Prop := w.heap[g]? = some (.cells cs t (0, 0))

section
variable {w w' : World} {g : Nat} {t : TypeId} {cs : Array Value}
theorem Blk.lt (h : Blk w g t cs) : g < w.heap.size := by
  rcases Nat.lt_or_ge g w.heap.size with hlt | hge
  · exact hlt
  · unfold Blk at h; rw [Array.getElem?_eq_none hge] at h; cases h
theorem Blk.cell (h : Blk w g t cs) (i : Nat) : w.cell? ⟨g, i, none⟩ = cs[i]? := cell_of_row w g i cs t (0, 0) h
theorem Blk.frozen (h : Blk w g t cs) (i : Nat) : w.frozen? ⟨g, i, none⟩ = false := by
  unfold Blk at h
  simp [World.frozen?, h]
theorem Blk.new (w : World) (t : TypeId) (cs : Array Value) : Blk (w.alloc (.cells cs t)) w.heap.size t cs := heap_alloc_new w _
theorem Blk.drew (h : Blk w g t cs) : Blk w.drew g t cs := h
theorem Blk.drewN (h : Blk w g t cs) (n : Nat) : Blk (w.drewN n) g t cs := h
theorem Blk.alloc (h : Blk w g t cs) (o : Obj) : Blk (w.alloc o) g t cs := (Below.heap_alloc w o g h.lt).trans h
theorem Blk.set_ (h : Blk w g t cs) (i : Nat) (u : Value) : Blk (w.setCell ⟨g, i, none⟩ u) g t (cs.setIfInBounds i u) := by
  unfold Blk at h ⊢
  simp [World.setCell, Array.getElem?_modify, h]
theorem Blk.far (h : Blk w g t cs) {p : Addr} (hp : g ≠ p.block) (u : Value) : Blk (w.setCell p u) g t cs := (Below.heap_setCell w p u g hp).trans h
theorem Blk.below {B : Nat} (h : Blk w g t cs) (hb : Below B w w') (hg : g < B) : Blk w' g t cs := (hb.block g hg).trans h
theorem Blk.grown {row : Option Nat} (h : Blk w g t cs) (hb : w.grownBy w' row) (hg : some g ≠ row) : Blk w' g t cs := (hb.block g h.lt hg).trans h
end

theorem fillTo_size (cs : Array Value) : ∀ k, (fillTo cs k).size = cs.size
  | 0 => rfl
  | k + 1 => by rw [fillTo, Array.size_setIfInBounds, fillTo_size cs k]

theorem fillTo_far (cs : Array Value) (i : Nat) : ∀ k, (i < 3 ∨ 3 + k ≤ i) → (fillTo cs k)[i]? = cs[i]?
  | 0, _ => rfl
  | k + 1, h => by rw [fillTo, Array.getElem?_setIfInBounds_ne (by omega), fillTo_far cs i k (by omega)]

theorem fillTo_near (cs : Array Value) (hs : cs.size = 260) (i : Nat) : ∀ k, k ≤ 256 → i < k → (fillTo cs k)[3 + i]? = some (.int .u32 (Crc.tab i : Nat))
  | 0, _, h => by omega
  | k + 1, hk, h => by
    rw [fillTo]
    by_cases e : i = k
    · subst e
      exact Array.getElem?_setIfInBounds_self_of_lt (by rw [fillTo_size]; omega)
    · rw [Array.getElem?_setIfInBounds_ne (by omega)]
      exact fillTo_near cs hs i k (by omega) (by omega)

theorem fillW_blk {w : World} {g : Nat} {t : TypeId} {cs : Array Value} (h : Blk w g t cs) : ∀ k, Blk (fillW w g k) g t (fillTo cs k)
  | 0 => h
  | k + 1 => (fillW_blk h k).set_ _ _

theorem grown_refl (w : World) (row : Option Nat) : w.grownBy w row := ⟨rfl, rfl, rfl, Nat.le_refl _, fun _ _ _ => rfl⟩
theorem grown_trans {a b c : World} {row : Option Nat} (h : a.grownBy b row) (k : b.grownBy c row) : a.grownBy c row :=
  ⟨k.os.trans h.os, k.tape.trans h.tape, k.output.trans h.output, Nat.le_trans h.size k.size, fun i hi hne => (k.block i (Nat.lt_of_lt_of_le hi h.size) hne).trans (h.block i hi hne)⟩
theorem grown_drew {a w : World} {row : Option Nat} (h : a.grownBy w row) : a.grownBy w.drew row := ⟨h.os, h.tape, h.output, h.size, h.block⟩
theorem grown_drewN {a w : World} {row : Option Nat} (h : a.grownBy w row) (n : Nat) : a.grownBy (w.drewN n) row := ⟨h.os, h.tape, h.output, h.size, h.block⟩
theorem grown_alloc {a w : World} {row : Option Nat} (h : a.grownBy w row) (o : Obj) : a.grownBy (w.alloc o) row :=
  ⟨h.os, h.tape, h.output, Nat.le_trans h.size (by simp), fun i hi hne => (Below.heap_alloc w o i (Nat.lt_of_lt_of_le hi h.size)).trans (h.block i hi hne)⟩
theorem grown_setCell {a w : World} {g : Nat} (h : a.grownBy w (some g)) {p : Addr} (hp : p.block = g ∨ a.heap.size ≤ p.block) (u : Value) : a.grownBy (w.setCell p u) (some g) :=
  ⟨h.os, h.tape, h.output, by simpa [World.setCell] using h.size, fun i hi hne => (Below.heap_setCell w p u i (by
    rintro rfl
    rcases hp with hp | hp
    · exact hne (by rw [hp])
    · omega)).trans (h.block i hi hne)⟩
theorem grown_of_below {a w : World} (h : Below a.heap.size a w) (row : Option Nat) : a.grownBy w row := ⟨h.os, h.tape, h.output, h.size, fun i hi _ => h.block i hi⟩

theorem fillW_grown (w : World) (g : Nat) : ∀ k, w.grownBy (fillW w g k) (some g)
  | 0 => grown_refl _ _
  | k + 1 => grown_setCell (fillW_grown w g k) (.inl rfl) _

theorem odd_yes (x : Nat) (hx : x < 2 ^ 32) (h : x % 2 = 1) : (bits BinOp.and IntKind.u32 (x : Int) 1 == 1) = true := by
  rw [show (1 : Int) = ((1 : Nat) : Int) from rfl, u32_and_nat x 1 hx (by decide), nat_mask1, h]; rfl
theorem odd_no (x : Nat) (hx : x < 2 ^ 32) (h : ¬ x % 2 = 1) : (bits BinOp.and IntKind.u32 (x : Int) 1 == 1) = false := by
  rw [show (1 : Int) = ((1 : Nat) : Int) from rfl, u32_and_nat x 1 hx (by decide), nat_mask1, show x % 2 = 0 by omega]; rfl
theorem st_odd (x : Nat) (hx : x < 2 ^ 32) (h : x % 2 = 1) : bits BinOp.xor IntKind.u32 ((x : Int) / 2) 3988292384 = (Crc.st x : Nat) := by
  rw [show (x : Int) / 2 = ((x / 2 : Nat) : Int) by omega, show (3988292384 : Int) = ((3988292384 : Nat) : Int) from rfl, u32_xor_nat _ _ (by omega) (by decide), Crc.st, if_pos h]; rfl
theorem st_even (x : Nat) (h : ¬ x % 2 = 1) : (x : Int) / 2 = (Crc.st x : Nat) := by
  rw [Crc.st, if_neg h]; omega

theorem u32_eq {a b : Int} (h : a = b) : Value.int .u32 a = Value.int .u32 b := by rw [h]

set_option maxRecDepth 100000 in
set_option maxHeartbeats 400000 in
/-- '(*Summer).fill'. -/
theorem fill_any (g : Nat) (w : World) (cs : Array Value) (hb : Blk w g 90 cs) (hs : cs.size = 260) :
    Calls Try.prog 48 #[.pointer (some ⟨g, 0, none⟩)] w fun e w' => e = .returned (.tuple #[]) ∧ fillW w g 256 = w' := by
  go_enter Try.func48, Try.ntmps48
  go_wp2
  go_loopw [4] (fun i wr => ∃ k : Nat, k ≤ 256 ∧ i = .int .i64 k ∧ wr = fillW w g k) (fun i _ => 256 - (intOf i).toNat)
  case atStart => exact ⟨0, by omega, rfl, rfl⟩
  case round =>
    obtain ⟨k, hk, rfl, rfl⟩ := hrel
    by_cases hlt : k < 256
    · obtain ⟨v, hv⟩ : ∃ v, (fillTo cs k)[3 + k]? = some v := ⟨_, Array.getElem?_eq_getElem (by rw [fillTo_size]; omega)⟩
      have hc : (fillW w g k).cell? ⟨g, 3 + k, none⟩ = some v := by rw [(fillW_blk hb k).cell]; exact hv
      have hf : (fillW w g k).frozen? ⟨g, 3 + k, none⟩ = false := (fillW_blk hb k).frozen _
      clear hv
      go_wp2
      go_loop [3, 9] (fun v j => ∃ (m : Nat), m ≤ 8 ∧ j = .int .i64 m ∧ v = .int .u32 (Crc.sts m k : Nat)) (fun _ j => 8 - (intOf j).toNat)
      case atStart => exact ⟨0, by omega, rfl, rfl⟩
      case round =>
        obtain ⟨m, hm, rfl, rfl⟩ := hrel
        have hx : Crc.sts m k < 2 ^ 32 := Crc.sts_lt m (by omega)
        by_cases hlm : m < 8
        · by_cases ho : Crc.sts m k % 2 = 1
          · have h1 := odd_yes _ hx ho
            go_wp2
            go_round
            case rel => exact ⟨m + 1, by omega, by go_num, u32_eq (by rw [Crc.sts_succ]; exact st_odd _ hx ho)⟩
            case measure => simp [intOf]; omega
          · have h1 := odd_no _ hx ho
            go_wp2
            go_round
            case rel => exact ⟨m + 1, by omega, by go_num, u32_eq (by rw [Crc.sts_succ]; exact st_even _ ho)⟩
            case measure => simp [intOf]; omega
        · obtain rfl : m = 8 := by omega
          go_wp2
          go_roundw
          case rel => exact ⟨k + 1, by omega, by go_num, rfl⟩
          case measure => simp [intOf]; omega
    · obtain rfl : k = 256 := by omega
      go_wp2
      go_end0
      exact ⟨rfl, rfl⟩
end Go.Proofs.Ytljfomgcoodjkaa
