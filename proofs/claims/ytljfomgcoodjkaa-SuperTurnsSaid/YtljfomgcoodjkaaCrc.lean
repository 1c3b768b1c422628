/- The sum (CRC-32) over numbers and lists alone: the table's step is eight steps of the division, a sum is the rest of a division, bytes that differ within 32 bits in a row have different sums. -/
namespace Go.Proofs.Ytljfomgcoodjkaa
namespace Crc

def poly : Nat := 3988292384
/-- One step of the division: the lowest bit is the next one. -/
def st (r : Nat) : Nat := if r % 2 = 1 then (r / 2) ^^^ poly else r / 2
def sts : Nat → Nat → Nat
  | 0, r => r
  | n + 1, r => sts n (st r)
def tab (i : Nat) : Nat := sts 8 i
def upd (v c : Nat) : Nat := (v / 256) ^^^ tab ((v % 256) ^^^ c)
def run (v : Nat) (l : List UInt8) : Nat := l.foldl (fun v c => upd v c.toNat) v
/-- Bytes as a number, the first one the lowest. -/
def num : List UInt8 → Nat
  | [] => 0
  | c :: l => c.toNat + 256 * num l
def crc (l : List UInt8) : Nat := run 4294967295 l ^^^ 4294967295

theorem xor_mod_two (a b : Nat) : (a ^^^ b) % 2 = (a + b) % 2 := by
  have h : ∀ n : Nat, n % 2 = (n.testBit 0).toNat := fun n => by rw [Nat.testBit_zero]; rcases Nat.mod_two_eq_zero_or_one n with h | h <;> simp [h]
  rw [h (a ^^^ b), Nat.testBit_xor, Nat.add_mod, h a, h b]
  cases a.testBit 0 <;> cases b.testBit 0 <;> rfl

theorem st_xor (a b : Nat) : st (a ^^^ b) = st a ^^^ st b := by
  unfold st
  rw [xor_mod_two, Nat.xor_div_two]
  rcases Nat.mod_two_eq_zero_or_one a with ha | ha <;> rcases Nat.mod_two_eq_zero_or_one b with hb | hb
  · rw [if_neg (by omega), if_neg (by omega), if_neg (by omega)]
  · rw [if_pos (by omega), if_neg (by omega), if_pos hb, Nat.xor_assoc]
  · rw [if_pos (by omega), if_pos ha, if_neg (by omega), Nat.xor_assoc, Nat.xor_assoc, Nat.xor_comm poly]
  · rw [if_neg (by omega), if_pos ha, if_pos hb]
    rw [Nat.xor_assoc, Nat.xor_comm (b / 2) poly, ← Nat.xor_assoc poly, Nat.xor_self, Nat.zero_xor]

theorem sts_xor : ∀ (n a b : Nat), sts n (a ^^^ b) = sts n a ^^^ sts n b
  | 0, _, _ => rfl
  | n + 1, a, b => by
    show sts n (st (a ^^^ b)) = _
    rw [st_xor, sts_xor n]
    rfl

theorem sts_add : ∀ (m n r : Nat), sts (m + n) r = sts n (sts m r)
  | 0, n, r => by rw [Nat.zero_add]; rfl
  | m + 1, n, r => by
    rw [Nat.add_right_comm]
    exact sts_add m n (st r)

theorem sts_succ (n r : Nat) : sts (n + 1) r = st (sts n r) := sts_add n 1 r

theorem st_double (x : Nat) : st (2 * x) = x := by
  unfold st
  rw [if_neg (by omega)]
  omega

theorem sts_pow : ∀ (n x : Nat), sts n (2 ^ n * x) = x
  | 0, x => by simp [sts]
  | n + 1, x => by
    show sts n (st (2 ^ (n + 1) * x)) = x
    rw [Nat.pow_succ, Nat.mul_comm (2 ^ n) 2, Nat.mul_assoc, st_double, sts_pow n]

theorem poly_lt : poly < 2 ^ 32 := by decide

theorem st_lt {r : Nat} (h : r < 2 ^ 32) : st r < 2 ^ 32 := by
  unfold st
  split
  · exact Nat.xor_lt_two_pow (by omega) poly_lt
  · omega

theorem sts_lt : ∀ (n : Nat) {r : Nat}, r < 2 ^ 32 → sts n r < 2 ^ 32
  | 0, _, h => h
  | n + 1, _, h => sts_lt n (st_lt h)

theorem st_zero {r : Nat} (h : r < 2 ^ 32) (h0 : st r = 0) : r = 0 := by
  unfold st at h0
  split at h0
  · have h1 : r / 2 = poly := by
      have h2 : (r / 2 ^^^ poly) ^^^ poly = 0 ^^^ poly := by rw [h0]
      rwa [Nat.xor_assoc, Nat.xor_self, Nat.xor_zero, Nat.zero_xor] at h2
    unfold poly at h1
    omega
  · omega

theorem sts_zero : ∀ (n : Nat) {r : Nat}, r < 2 ^ 32 → sts n r = 0 → r = 0
  | 0, _, _, h0 => h0
  | n + 1, _, h, h0 => st_zero h (sts_zero n (st_lt h) h0)

theorem sts_of_zero : ∀ (n : Nat), sts n 0 = 0
  | 0 => rfl
  | n + 1 => sts_of_zero n

/-- A sum of parts that share no bit is their xor. -/
theorem add_eq_xor (i c m : Nat) (h : c < 2 ^ i) : 2 ^ i * m + c = c ^^^ 2 ^ i * m := by
  apply Nat.eq_of_testBit_eq
  intro j
  rw [Nat.testBit_two_pow_mul_add _ h, Nat.testBit_xor, Nat.testBit_two_pow_mul]
  split
  · rename_i hj
    simp [show ¬ i ≤ j by omega]
  · rename_i hj
    have : c.testBit j = false := Nat.testBit_lt_two_pow (Nat.lt_of_lt_of_le h (Nat.pow_le_pow_right (by omega) (by omega)))
    simp [this, show i ≤ j by omega]

theorem xor_split (v c : Nat) : v ^^^ c = (v % 256 ^^^ c) ^^^ 2 ^ 8 * (v / 256) := by
  have h : v = v % 256 ^^^ 2 ^ 8 * (v / 256) := by
    rw [← add_eq_xor 8 (v % 256) (v / 256) (by omega)]
    omega
  conv => lhs; rw [h]
  rw [Nat.xor_assoc, Nat.xor_assoc, Nat.xor_comm c]

theorem upd_eq (v c : Nat) : upd v c = sts 8 (v ^^^ c) := by
  rw [xor_split, sts_xor, sts_pow, Nat.xor_comm]
  rfl

theorem run_nil (v : Nat) : run v [] = v := rfl
theorem run_cons (v : Nat) (c : UInt8) (l : List UInt8) : run v (c :: l) = run (upd v c.toNat) l := rfl
theorem run_append (v : Nat) (a b : List UInt8) : run v (a ++ b) = run (run v a) b := List.foldl_append
theorem run_snoc (v : Nat) (a : List UInt8) (c : UInt8) : run v (a ++ [c]) = upd (run v a) c.toNat := by rw [run_append]; rfl

theorem run_eq : ∀ (l : List UInt8) (v : Nat), run v l = sts (8 * l.length) (v ^^^ num l)
  | [], v => by simp [run, num, sts]
  | c :: l, v => by
    rw [run_cons, run_eq l, upd_eq, List.length_cons, Nat.mul_add, Nat.add_comm, show num (c :: l) = 2 ^ 8 * num l + c.toNat by simp [num]; omega,
      add_eq_xor 8 _ _ c.toNat_lt, ← Nat.xor_assoc, sts_add, sts_xor 8 (v ^^^ c.toNat), sts_pow]

theorem upd_lt {v c : Nat} (hv : v < 2 ^ 32) (hc : c < 256) : upd v c < 2 ^ 32 := by
  rw [upd_eq]
  exact sts_lt 8 (Nat.xor_lt_two_pow hv (by omega))

theorem run_lt : ∀ (l : List UInt8) {v : Nat}, v < 2 ^ 32 → run v l < 2 ^ 32
  | [], _, h => h
  | c :: l, _, h => run_lt l (upd_lt h c.toNat_lt)

theorem crc_lt (l : List UInt8) : crc l < 2 ^ 32 := Nat.xor_lt_two_pow (run_lt l (by decide)) (by decide)

theorem tab_lt {i : Nat} (h : i < 256) : tab i < 2 ^ 32 := sts_lt 8 (by omega)

theorem crc_eq (l : List UInt8) : crc l = sts (8 * l.length) (4294967295 ^^^ num l) ^^^ 4294967295 := by rw [crc, run_eq]

/-- Two sums of equally many bytes differ by what their difference sums to. -/
theorem crc_xor (a b : List UInt8) (h : a.length = b.length) : crc a ^^^ crc b = sts (8 * a.length) (num a ^^^ num b) := by
  have cancel : ∀ x y z : Nat, (x ^^^ z) ^^^ (y ^^^ z) = x ^^^ y := fun x y z => by
    rw [Nat.xor_assoc, Nat.xor_comm z, Nat.xor_assoc, Nat.xor_self, Nat.xor_zero]
  rw [crc_eq, crc_eq, ← h, cancel, ← sts_xor, Nat.xor_comm 4294967295, Nat.xor_comm 4294967295, cancel]

theorem xor_eq_zero {a b : Nat} (h : a ^^^ b = 0) : a = b := by
  have h2 : (a ^^^ b) ^^^ b = 0 ^^^ b := by rw [h]
  rwa [Nat.xor_assoc, Nat.xor_self, Nat.xor_zero, Nat.zero_xor] at h2

/-- BYTES THAT DIFFER WITHIN 32 BITS IN A ROW HAVE DIFFERENT SUMS. -/
theorem crc_burst (a b : List UInt8) (h : a.length = b.length) (at_ D : Nat) (hD : D < 2 ^ 32) (hat : at_ ≤ 8 * a.length) (hn : num a ^^^ num b = 2 ^ at_ * D) : crc a = crc b ↔ D = 0 := by
  have hx := crc_xor a b h
  obtain ⟨m, hm⟩ : ∃ m, 8 * a.length = at_ + m := ⟨8 * a.length - at_, by omega⟩
  rw [hn, hm, sts_add, sts_pow] at hx
  constructor
  · intro he
    rw [he, Nat.xor_self] at hx
    exact sts_zero m hD hx.symm
  · intro h0
    rw [h0, sts_of_zero] at hx
    exact xor_eq_zero hx
end Crc
end Go.Proofs.Ytljfomgcoodjkaa
