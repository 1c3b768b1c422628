/- The long division over numbers alone: a register that is turned bit by bit holds what the steps of the division leave. -/
import Derived.Test.YtljfomgcoodjkaaCrc
namespace Go.Proofs.Ytljfomgcoodjkaa
namespace Crc

/-- A bit of a number. -/
def bit (R j : Nat) : Nat := R / 2 ^ j % 2
theorem bit_test (R j : Nat) : bit R j = (R.testBit j).toNat := by
  unfold bit
  rw [Nat.testBit_eq_decide_div_mod_eq]
  rcases Nat.mod_two_eq_zero_or_one (R / 2 ^ j) with h | h <;> simp [h]
theorem bit_le (R j : Nat) : bit R j ≤ 1 := by unfold bit; omega
theorem bit_flip (R i : Nat) : bit (R ^^^ 2 ^ i) i = 1 - bit R i := by
  rw [bit_test, bit_test, Nat.testBit_xor, Nat.testBit_two_pow_self]
  cases R.testBit i <;> rfl
theorem bit_far (R i j : Nat) (h : i ≠ j) : bit (R ^^^ 2 ^ i) j = bit R j := by
  rw [bit_test, bit_test, Nat.testBit_xor, Nat.testBit_two_pow_of_ne h]
  cases R.testBit j <;> rfl
theorem bit_low (R b n j : Nat) (h : j < n) : bit (R + b * 2 ^ n) j = bit R j := by
  unfold bit
  obtain ⟨m, rfl⟩ : ∃ m, n = j + 1 + m := ⟨n - (j + 1), by omega⟩
  rw [show R + b * 2 ^ (j + 1 + m) = R + 2 ^ j * (2 * (b * 2 ^ m)) by rw [Nat.pow_add, Nat.pow_succ]; simp only [Nat.mul_comm, Nat.mul_left_comm, Nat.mul_assoc]]
  rw [Nat.add_mul_div_left _ _ (Nat.pow_pos (by omega)), Nat.add_mul_mod_self_left]
theorem bit_top (R b n : Nat) (h : R < 2 ^ n) (hb : b ≤ 1) : bit (R + b * 2 ^ n) n = b := by
  unfold bit
  rw [Nat.mul_comm, Nat.add_mul_div_left _ _ (Nat.pow_pos (by omega)), Nat.div_eq_of_lt h]
  omega

theorem num_snoc : ∀ (l : List UInt8) (c : UInt8), num (l ++ [c]) = num l + c.toNat * 2 ^ (8 * l.length)
  | [], c => by simp [num]
  | d :: l, c => by
    rw [List.cons_append, num, num_snoc l c, num, List.length_cons, Nat.mul_add, Nat.mul_add, Nat.pow_add]
    have : 256 * (c.toNat * 2 ^ (8 * l.length)) = c.toNat * (2 ^ (8 * l.length) * 2 ^ (8 * 1)) := by
      rw [show 2 ^ (8 * 1) = 256 by decide, Nat.mul_left_comm, Nat.mul_comm 256]
    omega
theorem num_lt : ∀ (l : List UInt8), num l < 2 ^ (8 * l.length)
  | [] => by simp [num]
  | c :: l => by
    have := num_lt l
    have h := c.toNat_lt
    rw [num, List.length_cons, Nat.mul_add, Nat.pow_add, show 2 ^ (8 * 1) = 256 by decide]
    omega

/-- The divisor, as it is laid over the bits: the lowest bit is the highest power. -/
def P : Nat := 2 * poly + 1
theorem P_half : P / 2 = poly := by decide
theorem st_eq (r : Nat) : st r = if r % 2 = 1 then (r ^^^ P) / 2 else r / 2 := by
  unfold st
  rw [Nat.xor_div_two, P_half]

/-- The register behind i rounds of the long division. -/
def reg (F : Nat) : Nat → Nat
  | 0 => F
  | i + 1 => if bit (reg F i) i = 1 then reg F i ^^^ P * 2 ^ i else reg F i

theorem reg_eq (F : Nat) : ∀ i, reg F i = 2 ^ i * sts i F
  | 0 => by simp [reg, sts]
  | i + 1 => by
    have ih := reg_eq F i
    have hb : bit (reg F i) i = sts i F % 2 := by
      unfold bit
      rw [ih, Nat.mul_div_cancel_left _ (Nat.pow_pos (by omega))]
    unfold reg
    rw [hb, sts_succ, st_eq, Nat.pow_succ]
    have hx : ∀ a b : Nat, 2 ^ i * a ^^^ b * 2 ^ i = 2 ^ i * (a ^^^ b) := fun a b => by
      apply Nat.eq_of_testBit_eq
      intro j
      rw [Nat.mul_comm b]
      simp only [Nat.testBit_xor, Nat.testBit_two_pow_mul]
      cases decide (j ≥ i) <;> simp
    by_cases h : sts i F % 2 = 1
    · rw [if_pos h, if_pos h, ih, hx, Nat.mul_assoc]
      congr 1
      have : (sts i F ^^^ P) % 2 = 0 := by rw [xor_mod_two, Nat.add_mod, h]; rfl
      omega
    · rw [if_neg h, if_neg h, ih, Nat.mul_assoc]
      congr 1
      omega

/-- The powers of the divisor, in the document's order. -/
def pws : List Nat := [32, 26, 23, 22, 16, 12, 11, 10, 8, 7, 5, 4, 2, 1, 0]
def pw (k : Nat) : Nat := pws.getD k 0
theorem pw_le (k : Nat) (h : k < 15) : pw k ≤ 32 := by
  have : ∀ k, k < 15 → pw k ≤ 32 := by decide
  exact this k h
/-- The divisor, power by power. -/
def part : Nat → Nat
  | 0 => 0
  | k + 1 => part k ^^^ 2 ^ (32 - pw k)
theorem part_all : part 15 = P := by decide +kernel
theorem part_step (R i k : Nat) : (R ^^^ part k * 2 ^ i) ^^^ 2 ^ (i + (32 - pw k)) = R ^^^ part (k + 1) * 2 ^ i := by
  have hx : ∀ a b : Nat, (a ^^^ b) * 2 ^ i = a * 2 ^ i ^^^ b * 2 ^ i := fun a b => by
    apply Nat.eq_of_testBit_eq
    intro j
    rw [Nat.mul_comm, Nat.mul_comm a, Nat.mul_comm b]
    simp only [Nat.testBit_xor, Nat.testBit_two_pow_mul]
    cases decide (j ≥ i) <;> simp
  rw [part, hx, Nat.xor_assoc, ← Nat.pow_add, Nat.add_comm i]

/-- The first i bits turned. -/
theorem ones_step (R i : Nat) : (R ^^^ (2 ^ i - 1)) ^^^ 2 ^ i = R ^^^ (2 ^ (i + 1) - 1) := by
  rw [Nat.xor_assoc]
  congr 1
  apply Nat.eq_of_testBit_eq
  intro j
  rw [Nat.testBit_xor, Nat.testBit_two_pow_sub_one, Nat.testBit_two_pow_sub_one, Nat.testBit_two_pow]
  by_cases h1 : j < i
  · simp [h1, show j < i + 1 by omega, show ¬ i = j by omega]
  · by_cases h2 : j = i
    · subst h2; simp
    · simp [show ¬ i = j by omega, show ¬ j < i + 1 by omega, h1]

/-- What is told at the end: the bits of the rest, each turned. -/
theorem told_step (T m : Nat) : T / 2 ^ m = 2 * (T / 2 ^ (m + 1)) + bit T m := by
  unfold bit
  rw [Nat.pow_succ, ← Nat.div_div_eq_div_mul]
  omega
theorem bit_not (S i : Nat) (h : i < 32) : bit (S ^^^ 4294967295) i = 1 - bit S i := by
  rw [bit_test, bit_test, Nat.testBit_xor, show (4294967295 : Nat) = 2 ^ 32 - 1 by decide, Nat.testBit_two_pow_sub_one]
  simp only [h, decide_true]
  cases S.testBit i <;> rfl
theorem bit_up (n S i : Nat) : bit (2 ^ n * S) (n + i) = bit S i := by
  unfold bit
  rw [Nat.pow_add, ← Nat.div_div_eq_div_mul, Nat.mul_div_cancel_left _ (Nat.pow_pos (by omega))]
end Crc
end Go.Proofs.Ytljfomgcoodjkaa
