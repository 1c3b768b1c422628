/- The walks of page.put, page.get, bytes.Equal, slices.Max and slices.Min: a number of four bytes laid and read, buffers of the call's own. -/
import Derived.Test.YtljfomgcoodjkaaSame
import Derived.Test.YtljfomgcoodjkaaRef2
namespace Go.Proofs.Ytljfomgcoodjkaa
open Go.RowKit

def four (n : Nat) : List UInt8 := [UInt8.ofNat (n / 16777216), UInt8.ofNat (n / 65536), UInt8.ofNat (n / 256), UInt8.ofNat n]
theorem four_length (n : Nat) : (four n).length = 4 := rfl

/-- A buffer of the call's own: its bytes, all of which may be written. -/
structure Buf (w : World) (b : Nat) (xs : List UInt8) : Prop where
  row : Row w b 0 xs
  loose : ∀ i, i < xs.length → w.frozen? ⟨b, i, none⟩ = false
theorem Buf.set {w : World} {b k : Nat} {xs : List UInt8} (h : Buf w b xs) (hk : k < xs.length) (c : UInt8) : Buf (w.setCell ⟨b, k, none⟩ (.int .u8 (c.toNat : Int))) b (xs.set k c) :=
  ⟨h.row.set hk c, fun i hi => by rw [List.length_set] at hi; simp [h.loose i hi]⟩
theorem Buf.drew {w : World} {b : Nat} {xs : List UInt8} (h : Buf w b xs) : Buf w.drew b xs := ⟨h.row, h.loose⟩
theorem Buf.cell {w : World} {b k : Nat} {xs : List UInt8} (h : Buf w b xs) (hk : k < xs.length) : w.cell? ⟨b, k, none⟩ = some (.int .u8 (xs[k].toNat : Int)) := by
  have := h.row k hk
  rwa [Nat.zero_add] at this
theorem Buf.below {w w' : World} {b : Nat} {xs : List UInt8} (h : Buf w b xs) (hb : Below w.heap.size w w') : Buf w' b xs := by
  by_cases hn : xs = []
  · subst hn; exact ⟨fun i hi => by simp at hi, fun i hi => by simp at hi⟩
  · have hlt := World.block_lt_of_cell? w _ (h.cell (k := 0) (List.length_pos_iff.2 hn))
    exact ⟨h.row.below hb, loose_below h.loose hb hlt⟩
theorem Buf.grown {w w' : World} {g b : Nat} {xs : List UInt8} (h : Buf w b xs) (hg : w.grownBy w' (some g)) (hne : b ≠ g) : Buf w' b xs := by
  by_cases hn : xs = []
  · subst hn; exact ⟨fun i hi => by simp at hi, fun i hi => by simp at hi⟩
  · have hlt := World.block_lt_of_cell? w _ (h.cell (k := 0) (List.length_pos_iff.2 hn))
    refine ⟨h.row.grown hg hne, fun i hi => ?_⟩
    rw [World.frozen?_of_block (w := w) (hg.block b hlt (fun e => hne (Option.some.inj e)))]
    exact h.loose i hi

/-- The first k bytes of a number of four, laid at a place. -/
def putTo (xs : List UInt8) (o n : Nat) : Nat → List UInt8
  | 0 => xs
  | k + 1 => (putTo xs o n k).set (o + k) (UInt8.ofNat (n / 2 ^ (24 - 8 * k)))
theorem putTo_length (xs : List UInt8) (o n : Nat) : ∀ k, (putTo xs o n k).length = xs.length
  | 0 => rfl
  | k + 1 => by rw [putTo, List.length_set, putTo_length xs o n k]

theorem byte_of (n k : Nat) : (n : Int) / 2 ^ k % 256 = ((UInt8.ofNat (n / 2 ^ k)).toNat : Int) := by
  rw [UInt8.toNat_ofNat', show (n : Int) / 2 ^ k = ((n / 2 ^ k : Nat) : Int) by simp]
  omega

set_option maxRecDepth 100000 in
set_option maxHeartbeats 400000 in
/-- 'page.put'. -/
theorem put_any (b o n c v : Nat) (xs : List UInt8) (w : World) (h : Buf w b xs) (ho : o + 4 ≤ xs.length) (hn : 4 ≤ n) (_hv : v ≤ 4294967295) :
    Calls Try.prog 55 #[.slice (some ⟨b, o, none⟩) n c, .int .i64 v] w fun e w' => e = .returned (.tuple #[]) ∧ Buf w' b (putTo xs o v 4) ∧ w.grownBy w' (some b) := by
  have H := hide h
  clear h
  go_enter Try.func55, Try.ntmps55
  go_wp2_with fail
  go_loopw [5] (fun i wr => ∃ k : Nat, k ≤ 4 ∧ i = .int .i64 k ∧ Buf wr b (putTo xs o v k) ∧ w.grownBy wr (some b)) (fun i _ => 4 - (intOf i).toNat)
  case atStart => exact ⟨0, by omega, rfl, H.out, grown_refl _ _⟩
  case round =>
    obtain ⟨k, hk, rfl, hb, hg⟩ := hrel
    have HB := hide hb
    have HG := hide hg
    clear hb hg
    by_cases hlt : k < 4
    · have hlen : o + k < (putTo xs o v k).length := by rw [putTo_length]; omega
      have hc := HB.out.cell hlen
      have hf := HB.out.loose _ hlen
      obtain ⟨x, hx⟩ : ∃ x, x = (putTo xs o v k)[o + k] := ⟨_, rfl⟩
      rw [← hx] at hc
      clear hx
      go_wp2_with fail
      go_roundw
      case rel => exact ⟨k + 1, by omega, by go_num, by rw [byte_of]; exact HB.out.set hlen _, grown_setCell HG.out (.inl rfl) _⟩
      case measure => simp [intOf]; omega
    · obtain rfl : k = 4 := by omega
      go_wp2_with fail
      go_end0
      exact ⟨rfl, HB.out, HG.out⟩

/-- A number of four bytes, the highest first. -/
def getTo (xs : List UInt8) (o : Nat) : Nat → Nat
  | 0 => 0
  | k + 1 => getTo xs o k * 256 + (xs.getD (o + k) 0).toNat
theorem getTo_lt (xs : List UInt8) (o : Nat) : ∀ k, getTo xs o k < 256 ^ k
  | 0 => by simp [getTo]
  | k + 1 => by
    have h1 := getTo_lt xs o k
    have h2 := (xs.getD (o + k) 0).toNat_lt
    rw [getTo, Nat.pow_succ]
    omega
theorem i64_or_add (a b : Nat) (ha : a < 4294967296) (hb : b < 256) : bits .or .i64 ((a : Int) * 256) (b : Int) = ((a * 256 + b : Nat) : Int) := by
  have hx : a * 256 ||| b < 2 ^ 63 := Nat.or_lt_two_pow (by omega) (by omega)
  rw [show (a : Int) * 256 = ((a * 256 : Nat) : Int) by omega]
  show IntKind.i64.wrap ((BitVec.ofInt 64 ((a * 256 : Nat) : Int) ||| BitVec.ofInt 64 (b : Int)).toNat : Int) = _
  rw [BitVec.toNat_or, ofInt_i64 _ (by omega), ofInt_i64 _ (by omega), IntKind.wrap_i64, nat_join 8 (a * 256) b (by omega) hb]
  omega

set_option maxRecDepth 100000 in
set_option maxHeartbeats 400000 in
/-- 'page.get'. -/
theorem get_any (b o n c : Nat) (xs : List UInt8) (w : World) (h : Row w b 0 xs) (ho : o + 4 ≤ xs.length) (hn : 4 ≤ n) :
    Calls Try.prog 59 #[.slice (some ⟨b, o, none⟩) n c] w fun e w' => e = .returned (.int .i64 (getTo xs o 4 : Nat)) ∧ w = w' := by
  have H := hide h
  clear h
  go_enter Try.func59, Try.ntmps59
  go_wp2_with fail
  go_loop [3, 5] (fun m i => ∃ k : Nat, k ≤ 4 ∧ i = .int .i64 k ∧ m = .int .i64 (getTo xs o k : Nat)) (fun _ i => 4 - (intOf i).toNat)
  case atStart => exact ⟨0, by omega, rfl, rfl⟩
  case round =>
    obtain ⟨k, hk, rfl, rfl⟩ := hrel
    by_cases hlt : k < 4
    · have hlen : o + k < xs.length := by omega
      have hc := H.out (o + k) hlen
      rw [Nat.zero_add] at hc
      have hd : xs.getD (o + k) 0 = xs[o + k] := by rw [List.getD_eq_getElem?_getD, List.getElem?_eq_getElem hlen]; rfl
      have hx := xs[o + k].toNat_lt
      have hl : getTo xs o k < 4294967296 := Nat.lt_of_lt_of_le (getTo_lt xs o k) (by have := Nat.pow_le_pow_right (show 0 < 256 by omega) hk; omega)
      obtain ⟨x, hxe⟩ : ∃ x, x = xs[o + k].toNat := ⟨_, rfl⟩
      rw [← hxe] at hc hx
      have hor := i64_or_add (getTo xs o k) x hl hx
      obtain ⟨t, ht⟩ : ∃ t, t = getTo xs o k := ⟨_, rfl⟩
      rw [← ht] at hor hl ⊢
      have E := hide (show getTo xs o (k + 1) = t * 256 + x by rw [getTo, hd, ht, hxe])
      clear ht hxe hd
      go_wp2_with fail
      go_round
      case rel => exact ⟨k + 1, by omega, by go_num, int_eq (by rw [E.out]; omega)⟩
      case measure => simp [intOf]; omega
    · obtain rfl : k = 4 := by omega
      go_wp2_with fail
      go_ret
      exact ⟨rfl, rfl⟩

/-- 'string(b)' of a row of bytes. -/
theorem conv_back {w : World} {b off n c : Nat} {xs : List UInt8} (h : Row w b off xs) (hn : xs.length = n) : (convert 28 9 (.slice (some ⟨b, off, none⟩) n c)).run Try.prog w = .ok (.string (strOf xs)) w := by
  subst hn
  refine run_convert_bytes_back w 28 9 5 ⟨b, off, none⟩ c xs Try.underlying28 Try.underlying5 Try.underlying9 fun j hj => ?_
  have := h j hj
  unfold Addr.add
  by_cases h0 : j = 0
  · subst h0; simpa using this
  · simpa [h0] using this

set_option maxRecDepth 100000 in
set_option maxHeartbeats 400000 in
/-- 'bytes.Equal'. -/
theorem bytes_equal (b1 o1 c1 b2 o2 c2 n m : Nat) (xs ys : List UInt8) (w : World) (hx : Row w b1 o1 xs) (hy : Row w b2 o2 ys) (hn : xs.length = n) (hm : ys.length = m) :
    Calls Try.prog 60 #[.slice (some ⟨b1, o1, none⟩) n c1, .slice (some ⟨b2, o2, none⟩) m c2] w fun e w' => e = .returned (.bool (decide (xs = ys))) ∧ w = w' := by
  have k1 := conv_back (c := c1) hx hn
  have k2 := conv_back (c := c2) hy hm
  clear hx hy hn hm
  have e : ((strOf xs).toList == (strOf ys).toList) = decide (xs = ys) := by
    rw [ByteArray.toList_eq, ByteArray.toList_eq, strOf_data, strOf_data, Bool.eq_iff_iff]; simp
  go_enter Try.func60, Try.ntmps60
  go_wp2_with fail
  go_ret
  exact ⟨rfl, rfl⟩

/-- The greater, and the lesser, of two; of the first k of three. -/
def mx (a b : Int) : Int := if a < b then b else a
def mn (a b : Int) : Int := if b < a then b else a
def mx3 (x y z : Int) : Nat → Int
  | 0 => x
  | 1 => x
  | 2 => mx x y
  | _ => mx (mx x y) z
def mn3 (x y z : Int) : Nat → Int
  | 0 => x
  | 1 => x
  | 2 => mn x y
  | _ => mn (mn x y) z

set_option maxRecDepth 100000 in
set_option maxHeartbeats 400000 in
/-- 'slices.Max' of three numbers. -/
theorem max_any (b c : Nat) (x y z : Int) (w : World) (h0 : w.cell? ⟨b, 0, none⟩ = some (.int .i64 x)) (h1 : w.cell? ⟨b, 1, none⟩ = some (.int .i64 y)) (h2 : w.cell? ⟨b, 2, none⟩ = some (.int .i64 z)) :
    Calls Try.prog 53 #[.slice (some ⟨b, 0, none⟩) 3 c] w fun e w' => e = .returned (.int .i64 (mx3 x y z 3)) ∧ w = w' := by
  go_enter Try.func53, Try.ntmps53
  go_wp2_with fail
  go_loop [3, 4] (fun m i => ∃ k : Nat, 1 ≤ k ∧ k ≤ 3 ∧ i = .int .i64 k ∧ m = .int .i64 (mx3 x y z k)) (fun _ i => 3 - (intOf i).toNat)
  case atStart => exact ⟨1, by omega, by omega, rfl, rfl⟩
  case round =>
    obtain ⟨k, hk1, hk, rfl, rfl⟩ := hrel
    rcases (show k = 1 ∨ k = 2 ∨ k = 3 by omega) with rfl | rfl | rfl
    · go_wp2_with fail
      go_round
      case rel => exact ⟨2, by omega, by omega, rfl, rfl⟩
      case measure => simp [intOf]
    · go_wp2_with fail
      go_round
      case rel => exact ⟨3, by omega, by omega, rfl, rfl⟩
      case measure => simp [intOf]
    · go_wp2_with fail
      go_ret
      exact ⟨rfl, rfl⟩

set_option maxRecDepth 100000 in
set_option maxHeartbeats 400000 in
/-- 'slices.Min' of three numbers. -/
theorem min_any (b c : Nat) (x y z : Int) (w : World) (h0 : w.cell? ⟨b, 0, none⟩ = some (.int .i64 x)) (h1 : w.cell? ⟨b, 1, none⟩ = some (.int .i64 y)) (h2 : w.cell? ⟨b, 2, none⟩ = some (.int .i64 z)) :
    Calls Try.prog 54 #[.slice (some ⟨b, 0, none⟩) 3 c] w fun e w' => e = .returned (.int .i64 (mn3 x y z 3)) ∧ w = w' := by
  go_enter Try.func54, Try.ntmps54
  go_wp2_with fail
  go_loop [3, 4] (fun m i => ∃ k : Nat, 1 ≤ k ∧ k ≤ 3 ∧ i = .int .i64 k ∧ m = .int .i64 (mn3 x y z k)) (fun _ i => 3 - (intOf i).toNat)
  case atStart => exact ⟨1, by omega, by omega, rfl, rfl⟩
  case round =>
    obtain ⟨k, hk1, hk, rfl, rfl⟩ := hrel
    rcases (show k = 1 ∨ k = 2 ∨ k = 3 by omega) with rfl | rfl | rfl
    · go_wp2_with fail
      go_round
      case rel => exact ⟨2, by omega, by omega, rfl, rfl⟩
      case measure => simp [intOf]
    · go_wp2_with fail
      go_round
      case rel => exact ⟨3, by omega, by omega, rfl, rfl⟩
      case measure => simp [intOf]
    · go_wp2_with fail
      go_ret
      exact ⟨rfl, rfl⟩

theorem mx3_le (x y z m : Int) : mx3 x y z 3 ≤ m ↔ x ≤ m ∧ y ≤ m ∧ z ≤ m := by
  show mx (mx x y) z ≤ m ↔ _
  unfold mx
  split <;> split <;> omega
theorem mn3_ge (x y z m : Int) : m ≤ mn3 x y z 3 ↔ m ≤ x ∧ m ≤ y ∧ m ≤ z := by
  show m ≤ mn (mn x y) z ↔ _
  unfold mn
  split <;> split <;> omega
end Go.Proofs.Ytljfomgcoodjkaa
