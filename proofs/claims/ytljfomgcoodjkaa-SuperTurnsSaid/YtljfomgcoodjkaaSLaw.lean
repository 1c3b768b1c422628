/- Supers' bytes, in lists alone: they tell one super; one byte turned, they tell none. -/
import Derived.Test.YtljfomgcoodjkaaSPick
import Derived.Test.YtljfomgcoodjkaaDiffers
namespace Go.Proofs.Ytljfomgcoodjkaa
open Go.RowKit

theorem su_inj {x y : Su} (hx : checkB x = true) (hy : checkB y = true) (h : bytesSu x = bytesSu y) : x = y := by
  have e : pgSu x = pgSu y := (bytes_inj (ok_su hx) (ok_su hy)).1 h
  obtain ⟨e1, a1, b1, c1, rfl, l1, l2, l3, l4, l5⟩ := check_nat hx
  obtain ⟨e2, a2, b2, c2, rfl, k1, k2, k3, k4, k5⟩ := check_nat hy
  injection e with _ _ h3 _ h5
  injection h5 with h5 _
  have h6 : strOf (cellTo a1 b1 c1 3) = strOf (cellTo a2 b2 c2 3) := h5
  have n1 := cell_nums a1 b1 c1 (by omega) (by omega) (by omega)
  have n2 := cell_nums a2 b2 c2 (by omega) (by omega) (by omega)
  rw [h6] at n1
  obtain ⟨p1, p2, p3⟩ := n1
  obtain ⟨r1, r2, r3⟩ := n2
  have h7 : (e1 : Int) = (e2 : Int) := h3
  rw [h7, ← p1, ← p2, ← p3, r1, r2, r3]
theorem is_su {x : Su} (hx : checkB x = true) {slot : Int} (hs : slot = x.ep % 2) : IsSu (bytesSu x) slot x := ⟨hx, rfl, hs⟩
theorem is_one {x y : Su} {slot : Int} (hx : checkB x = true) (h : IsSu (bytesSu x) slot y) : y = x := (su_inj hx h.1 h.2.1).symm
theorem no_not {xs : List UInt8} {slot : Int} {x : Su} (h : IsSu xs slot x) (hn : NoSu xs slot) : False := hn x h.1 h.2.1 h.2.2
theorem no_sum {xs : List UInt8} {slot : Int} (h : Crc.crc (xs.take 252) ≠ getTo xs 252 4) : NoSu xs slot := fun _ hc hx _ => h (su_page hc hx).2.2
theorem su_len {x : Su} (h : checkB x = true) : (bytesSu x).length = 256 := bytes_len (ok_su h)
theorem su_sum {x : Su} (h : checkB x = true) : Crc.crc ((bytesSu x).take 252) = getTo (bytesSu x) 252 4 := (su_page h rfl).2.2

theorem num_byte : ∀ (xs : List UInt8) (j : Nat) (c : UInt8), j < xs.length → Crc.num (xs.set j c) ^^^ Crc.num xs = 2 ^ (8 * j) * (c.toNat ^^^ (xs.getD j 0).toNat)
  | [], _, _, h => by simp at h
  | d :: xs, 0, c, _ => by
    have e : ∀ (u m : Nat), u < 2 ^ 8 → u + 256 * m = u ^^^ 2 ^ 8 * m := fun u m hu => by
      have := Crc.add_eq_xor 8 u m hu
      omega
    show (c.toNat + 256 * Crc.num xs) ^^^ (d.toNat + 256 * Crc.num xs) = 2 ^ 0 * (c.toNat ^^^ d.toNat)
    rw [e _ _ c.toNat_lt, e _ _ d.toNat_lt, Nat.xor_comm d.toNat, ← Nat.xor_assoc, Nat.xor_assoc c.toNat, Nat.xor_self, Nat.xor_zero, Nat.pow_zero, Nat.one_mul]
  | d :: xs, j + 1, c, h => by
    have ih := num_byte xs j c (by simpa using h)
    have e : ∀ (u m : Nat), u < 2 ^ 8 → u + 256 * m = u ^^^ 2 ^ 8 * m := fun u m hu => by
      have := Crc.add_eq_xor 8 u m hu
      omega
    show (d.toNat + 256 * Crc.num (xs.set j c)) ^^^ (d.toNat + 256 * Crc.num xs) = 2 ^ (8 * (j + 1)) * (c.toNat ^^^ (xs.getD j 0).toNat)
    rw [e _ _ d.toNat_lt, e _ _ d.toNat_lt, Nat.xor_comm d.toNat, Nat.xor_assoc, ← Nat.xor_assoc d.toNat, Nat.xor_self, Nat.zero_xor, ← mul_xor, ih, ← Nat.mul_assoc, ← Nat.pow_add, show 8 + 8 * j = 8 * (j + 1) by omega]

theorem getD_set (xs : List UInt8) (p i : Nat) (c : UInt8) (hp : p < xs.length) : (xs.set p c).getD i 0 = if i = p then c else xs.getD i 0 := by
  rw [List.getD_eq_getElem?_getD, List.getD_eq_getElem?_getD]
  by_cases h : i = p
  · subst h
    rw [if_pos rfl, List.getElem?_set_self hp]; rfl
  · rw [if_neg h, List.getElem?_set_ne (Ne.symm h)]
/-- One byte that is another: the sum is wrong. -/
theorem one_byte {xs : List UInt8} {p : Nat} {c : UInt8} (hl : xs.length = 256) (hs : Crc.crc (xs.take 252) = getTo xs 252 4) (hp : p < 256) (hc : c ≠ xs.getD p 0) : Crc.crc ((xs.set p c).take 252) ≠ getTo (xs.set p c) 252 4 := by
  have g := fun i => getD_set xs p i c (by omega)
  have hcn : c.toNat ≠ (xs.getD p 0).toNat := fun h => hc (UInt8.toNat_inj.1 h)
  by_cases h : p < 252
  · have e1 : (xs.set p c).take 252 = (xs.take 252).set p c := by rw [List.take_set]
    have e2 : getTo (xs.set p c) 252 4 = getTo xs 252 4 := by
      simp only [getTo, g]
      rw [if_neg (by omega), if_neg (by omega), if_neg (by omega), if_neg (by omega)]
    have ht : (xs.take 252).length = 252 := by rw [List.length_take]; omega
    have e3 : (xs.take 252).getD p 0 = xs.getD p 0 := by
      rw [List.getD_eq_getElem?_getD, List.getD_eq_getElem?_getD, List.getElem?_take, if_pos h]
    rw [e1, e2, ← hs]
    intro hh
    have hb := Crc.crc_burst ((xs.take 252).set p c) (xs.take 252) (by rw [List.length_set]) (8 * p) (c.toNat ^^^ (xs.getD p 0).toNat)
      (Nat.lt_of_lt_of_le (Nat.xor_lt_two_pow (n := 8) c.toNat_lt (UInt8.toNat_lt _)) (by decide)) (by rw [List.length_set]; omega) (by rw [num_byte _ _ _ (by omega), e3])
    exact hcn (Crc.xor_eq_zero (hb.1 hh))
  · have e1 : (xs.set p c).take 252 = xs.take 252 := by
      rw [List.take_set_of_le (by omega)]
    rw [e1, hs]
    have b := fun i => (xs.getD i 0).toNat_lt
    have hcl := c.toNat_lt
    rcases (show p = 252 ∨ p = 253 ∨ p = 254 ∨ p = 255 by omega) with rfl | rfl | rfl | rfl
    · have := b 253; have := b 254; have := b 255
      simp only [getTo, g, Nat.reduceAdd, Nat.add_zero, Nat.reduceEqDiff, ↓reduceIte]
      omega
    · have := b 252; have := b 254; have := b 255
      simp only [getTo, g, Nat.reduceAdd, Nat.add_zero, Nat.reduceEqDiff, ↓reduceIte]
      omega
    · have := b 252; have := b 253; have := b 255
      simp only [getTo, g, Nat.reduceAdd, Nat.add_zero, Nat.reduceEqDiff, ↓reduceIte]
      omega
    · have := b 252; have := b 253; have := b 254
      simp only [getTo, g, Nat.reduceAdd, Nat.add_zero, Nat.reduceEqDiff, ↓reduceIte]
      omega
/-- A super's bytes with one byte turned are none's. -/
theorem no_turned {x : Su} {slot : Int} {p : Nat} {c : UInt8} (h : checkB x = true) (hp : p < 256) (hc : c ≠ (bytesSu x).getD p 0) : NoSu ((bytesSu x).set p c) slot :=
  no_sum (one_byte (su_len h) (su_sum h) hp hc)
theorem zeros_crc : Crc.crc (List.replicate 252 0) ≠ 0 := by decide +kernel
theorem no_zeros (slot : Int) : NoSu (List.replicate 256 0) slot := no_sum (by
  rw [List.take_replicate]
  exact zeros_crc)
end Go.Proofs.Ytljfomgcoodjkaa
