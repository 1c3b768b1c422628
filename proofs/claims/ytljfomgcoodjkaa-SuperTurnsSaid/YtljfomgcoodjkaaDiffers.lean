/- The walk of SumDiffers: bytes that differ within 32 bits in a row alone have different sums; the law returns true and nothing that was there has turned. -/
import Derived.Test.YtljfomgcoodjkaaXor
namespace Go.Proofs.Ytljfomgcoodjkaa
open Go.RowKit

/-- A bit of bytes turned, byte by byte, the lowest first. -/
def flipBit (xs : List UInt8) (i : Nat) : List UInt8 := xs.set (i / 8) (xs.getD (i / 8) 0 ^^^ UInt8.ofNat (2 ^ (i % 8)))
/-- The bits, from p on, that a word tells, turned: the first k of them. -/
def turnTo (A : List UInt8) (p word : Nat) : Nat → List UInt8
  | 0 => A
  | k + 1 => if word / 2 ^ k % 2 = 1 ∧ p + k < 8 * A.length then flipBit (turnTo A p word k) (p + k) else turnTo A p word k
/-- The same bits as a number. -/
def turnD (n p word : Nat) : Nat → Nat
  | 0 => 0
  | k + 1 => if word / 2 ^ k % 2 = 1 ∧ p + k < 8 * n then turnD n p word k + 2 ^ k else turnD n p word k

theorem flip_length (xs : List UInt8) (i : Nat) : (flipBit xs i).length = xs.length := by simp [flipBit]
theorem turn_length (A : List UInt8) (p word : Nat) : ∀ k, (turnTo A p word k).length = A.length
  | 0 => rfl
  | k + 1 => by
    unfold turnTo
    split
    · rw [flip_length, turn_length A p word k]
    · exact turn_length A p word k
theorem turnD_lt (n p word : Nat) : ∀ k, turnD n p word k < 2 ^ k
  | 0 => by simp [turnD]
  | k + 1 => by
    have := turnD_lt n p word k
    unfold turnD
    rw [Nat.pow_succ]
    split <;> omega
theorem pow8_toNat (r : Nat) (h : r < 8) : (UInt8.ofNat (2 ^ r)).toNat = 2 ^ r := by
  rw [UInt8.toNat_ofNat']
  exact Nat.mod_eq_of_lt (Nat.pow_lt_pow_right (by omega) h)
theorem num_set : ∀ (xs : List UInt8) (j r : Nat), j < xs.length → r < 8 → Crc.num (xs.set j (xs.getD j 0 ^^^ UInt8.ofNat (2 ^ r))) = Crc.num xs ^^^ 2 ^ (8 * j + r)
  | [], _, _, h, _ => by simp at h
  | c :: xs, 0, r, _, hr => by
    have e : ∀ (u m : Nat), u < 2 ^ 8 → u + 256 * m = u ^^^ 2 ^ 8 * m := fun u m hu => by
      rw [← Crc.add_eq_xor 8 u m hu]; omega
    have hp : 2 ^ r < 2 ^ 8 := Nat.pow_lt_pow_right (by omega) hr
    simp only [List.set_cons_zero, List.getD_cons_zero, Crc.num, UInt8.toNat_xor, pow8_toNat r hr, Nat.mul_zero, Nat.zero_add]
    rw [e _ _ (Nat.xor_lt_two_pow c.toNat_lt hp), e _ _ c.toNat_lt, Nat.xor_assoc, Nat.xor_assoc, Nat.xor_comm (2 ^ r)]
  | c :: xs, j + 1, r, h, hr => by
    have ih := num_set xs j r (by simpa using h) hr
    have e : ∀ (u m : Nat), u < 2 ^ 8 → u + 256 * m = u ^^^ 2 ^ 8 * m := fun u m hu => by
      rw [← Crc.add_eq_xor 8 u m hu]; omega
    simp only [List.set_cons_succ, List.getD_cons_succ, Crc.num]
    rw [ih, e _ _ c.toNat_lt, e _ _ c.toNat_lt, mul_xor, ← Nat.pow_add, Nat.xor_assoc, show 8 + (8 * j + r) = 8 * (j + 1) + r by omega]
theorem num_turn (A : List UInt8) (p word : Nat) : ∀ k, Crc.num (turnTo A p word k) = Crc.num A ^^^ 2 ^ p * turnD A.length p word k
  | 0 => by simp [turnTo, turnD]
  | k + 1 => by
    have ih := num_turn A p word k
    unfold turnTo turnD
    split
    · rename_i h
      rw [flipBit, num_set _ _ _ (by rw [turn_length]; omega) (by omega), ih, show 8 * ((p + k) / 8) + (p + k) % 8 = p + k by omega, Nat.add_comm (turnD _ _ _ _),
        show 2 ^ k + turnD A.length p word k = 2 ^ k * 1 + turnD A.length p word k by omega, Crc.add_eq_xor k _ 1 (turnD_lt _ _ _ k), mul_xor, Nat.mul_one, ← Nat.pow_add, Nat.xor_assoc]
    · exact ih
theorem crc_turn (A : List UInt8) (p word : Nat) (hp : p ≤ 8 * A.length) : Crc.crc (turnTo A p word 32) = Crc.crc A ↔ turnD A.length p word 32 = 0 := by
  refine Crc.crc_burst _ _ (turn_length A p word 32) p _ (turnD_lt _ _ _ 32) (by rw [turn_length]; exact hp) ?_
  rw [num_turn, Nat.xor_comm (Crc.num A), Nat.xor_assoc, Nat.xor_self, Nat.xor_zero]

theorem word_yes (x k : Nat) (hx : x ≤ 4294967295) (h : x / 2 ^ k % 2 = 1) : (bits BinOp.and IntKind.u32 ((x : Int) / 2 ^ k) 1 == 1) = true := by
  have hl : x / 2 ^ k < 2 ^ 32 := Nat.lt_of_le_of_lt (Nat.div_le_self _ _) (by omega)
  rw [show (x : Int) / 2 ^ k = ((x / 2 ^ k : Nat) : Int) by simp]
  exact odd_yes _ hl h
theorem word_no (x k : Nat) (hx : x ≤ 4294967295) (h : ¬ x / 2 ^ k % 2 = 1) : (bits BinOp.and IntKind.u32 ((x : Int) / 2 ^ k) 1 == 1) = false := by
  have hl : x / 2 ^ k < 2 ^ 32 := Nat.lt_of_le_of_lt (Nat.div_le_self _ _) (by omega)
  rw [show (x : Int) / 2 ^ k = ((x / 2 ^ k : Nat) : Int) by simp]
  exact odd_no _ hl h
theorem flip_byte (c : UInt8) (r : Nat) (h : r < 8) : bits BinOp.xor IntKind.u8 (c.toNat : Int) (2 ^ r % 256) = ((c ^^^ UInt8.ofNat (2 ^ r)).toNat : Int) := by
  have hp : 2 ^ r < 2 ^ 8 := Nat.pow_lt_pow_right (by omega) h
  have e : (2 : Int) ^ r % 256 = ((2 ^ r : Nat) : Int) := by
    rw [show (2 : Int) ^ r = ((2 ^ r : Nat) : Int) by simp, show (256 : Int) = ((256 : Nat) : Int) from rfl, ← Int.natCast_emod, Nat.mod_eq_of_lt hp]
  rw [e, u8_xor_nat _ _ c.toNat_lt hp, UInt8.toNat_xor, pow8_toNat r h]

theorem differs_end {A L : List UInt8} {n p word : Nat} (hL : A = L) (hA : A.length = n) (hp : p ≤ 8 * n) :
    ((((Crc.crc (turnTo A p word 32) : Nat) : Int) != ((Crc.crc L : Nat) : Int)) == (turnD n p word 32 != 0)) = true := by
  subst hL
  have h := crc_turn A p word (by omega)
  rw [hA] at h
  by_cases e : turnD n p word 32 = 0
  · rw [h.2 e, e]; simp
  · have hne : Crc.crc (turnTo A p word 32) ≠ Crc.crc A := fun he => e (h.1 he)
    have h1 : (((Crc.crc (turnTo A p word 32) : Nat) : Int) != ((Crc.crc A : Nat) : Int)) = true := by simpa using fun he => hne (by omega)
    have h2 : (turnD n p word 32 != 0) = true := by simpa using e
    rw [h1, h2]; rfl

/-- Behind k rounds. -/
structure TurnRel (w wr : World) (g b : Nat) (A : List UInt8) (p word n k : Nat) : Prop where
  und : Und w.heap.size w wr g 0
  row : Row wr b 0 (turnTo A p word k)
  loose : ∀ i, i < n → wr.frozen? ⟨b, i, none⟩ = false
  new : w.heap.size ≤ b
  far : g ≠ b
def turned (n p word k : Nat) : Bool := turnD n p word k != 0

theorem TurnRel.next {w wr : World} {g b n p word k : Nat} {A : List UInt8} {c : UInt8} (h : TurnRel w wr g b A p word n k) (hA : A.length = n) (hb : word / 2 ^ k % 2 = 1) (hi : p + k < 8 * n)
    (hc : (turnTo A p word k)[(p + k) / 8]? = some c) : TurnRel w (wr.setCell ⟨b, (p + k) / 8, none⟩ (.int .u8 ((c ^^^ UInt8.ofNat (2 ^ ((p + k) % 8))).toNat : Int))) g b A p word n (k + 1) := by
  have r := h.row.set (k := (p + k) / 8) (by rw [turn_length]; omega) (c ^^^ UInt8.ofNat (2 ^ ((p + k) % 8)))
  have e : (turnTo A p word k).set ((p + k) / 8) (c ^^^ UInt8.ofNat (2 ^ ((p + k) % 8))) = turnTo A p word (k + 1) := by
    rw [turnTo, if_pos ⟨hb, by omega⟩, flipBit, List.getD_eq_getElem?_getD, hc]; rfl
  rw [e] at r
  exact ⟨h.und.setCell h.new h.far _, r, fun i hi => by simp [h.loose i hi], h.new, h.far⟩
theorem TurnRel.skip {w wr : World} {g b n p word k : Nat} {A : List UInt8} (h : TurnRel w wr g b A p word n k) (hA : A.length = n) (hb : ¬ (word / 2 ^ k % 2 = 1 ∧ p + k < 8 * n)) : TurnRel w wr g b A p word n (k + 1) := by
  have e : turnTo A p word (k + 1) = turnTo A p word k := by rw [turnTo, if_neg (by rw [hA]; exact hb)]
  exact ⟨h.und, by rw [e]; exact h.row, h.loose, h.new, h.far⟩
theorem turned_next {n p word k : Nat} (hb : word / 2 ^ k % 2 = 1) (hi : p + k < 8 * n) : turned n p word (k + 1) = true := by
  unfold turned
  rw [turnD, if_pos ⟨hb, hi⟩]
  have : 0 < 2 ^ k := Nat.pow_pos (by omega)
  simp
theorem turned_skip {n p word k : Nat} (hb : ¬ (word / 2 ^ k % 2 = 1 ∧ p + k < 8 * n)) : turned n p word (k + 1) = turned n p word k := by
  unfold turned
  rw [turnD, if_neg hb]

set_option maxRecDepth 100000 in
set_option maxHeartbeats 400000 in
theorem diff_short (a : ByteArray) (from_ bits_ : Nat) (w : World) (_hf : from_ ≤ 65535) (hbits : bits_ ≤ 4294967295) (h5 : a.size ≤ 500) (h0 : 0 < a.size) :
    Calls Try.prog 5 #[.string a, .int .u16 from_, .int .u32 bits_] w fun e w' => e = .returned (.bool true) ∧ Below w.heap.size w w' := by
  have hne : ((a.size : Int) == 0) = false := by simp; intro h; rw [h] at h0; simp at h0
  obtain ⟨p, hp⟩ : ∃ p, p = from_ % (8 * a.size) := ⟨_, rfl⟩
  have hpl : p < 8 * a.size := by rw [hp]; exact Nat.mod_lt _ (by omega)
  have hp' : (from_ : Int) % (8 * (a.size : Int)) = (p : Int) := by rw [hp, Int.natCast_emod, Int.natCast_mul]; rfl
  clear hp
  go_enter Try.func5, Try.ntmps5
  go_wp2_with fail
  refine (new_any _).mono ?_
  rintro e w1 ⟨g, rfl, hu⟩
  have U1 := hide hu
  clear hu
  go_wp2_with fail
  refine (awake2 _).mono ?_
  rintro e w2 ⟨rfl, hb⟩
  have U2 := hide (U1.out.below hb)
  clear hb
  go_wp2_with (with_reducible refine wpList_to_bytes rfl _ rfl _ rfl ?_; intro b c w3 hby)
  have hlA : a.data.toList.length = a.size := by simp
  have R0 := hide (show TurnRel w w3 g b a.data.toList p bits_ a.size 0 from ⟨U2.out.below hby.below, hby.row, by rw [← hlA]; exact hby.loose, Nat.le_trans U2.out.2.2.2 hby.new, by have := U2.out.1.lt; have := hby.new; omega⟩)
  obtain ⟨A, hA⟩ : ∃ A, A = a.data.toList := ⟨_, rfl⟩
  rw [← hA] at R0 hlA
  have HA := hide hA
  have LA := hide hlA
  clear hby hA hlA
  go_loopw [10, 11] (fun t i wr => ∃ k : Nat, k ≤ 32 ∧ i = .int .i64 k ∧ t = .bool (turned a.size p bits_ k) ∧ TurnRel w wr g b A p bits_ a.size k) (fun _ i _ => 32 - (intOf i).toNat)
  case atStart => exact ⟨0, by omega, rfl, rfl, R0.out⟩
  case round =>
    obtain ⟨k, hk, rfl, rfl, hr⟩ := hrel
    have X := hide hr
    clear hr
    by_cases hlt : k < 32
    · obtain ⟨i, hi⟩ : ∃ i, i = p + k := ⟨_, rfl⟩
      have hi' : (p : Int) + (k : Int) = (i : Int) := by omega
      have il : i ≤ 5000 := by omega
      obtain ⟨j, hj⟩ : ∃ j, j = i / 8 := ⟨_, rfl⟩
      have hj' : (i : Int) / 8 = (j : Int) := by omega
      obtain ⟨r, hr⟩ : ∃ r, r = i % 8 := ⟨_, rfl⟩
      have hr' : (i : Int) % 8 = (r : Int) := by omega
      have r8 : r < 8 := by omega
      by_cases hbit : bits_ / 2 ^ k % 2 = 1
      · have hb1 := word_yes bits_ k hbits hbit
        have HB := hide hbit
        by_cases hin : i < 8 * a.size
        · have hjl : j < a.size := by omega
          obtain ⟨c, hc⟩ : ∃ c, (turnTo A p bits_ k)[j]? = some c := ⟨_, List.getElem?_eq_getElem (by rw [turn_length, LA.out]; exact hjl)⟩
          have hcell := X.out.row.at? hc
          rw [Nat.zero_add] at hcell
          have hfr := X.out.loose j hjl
          have hx := flip_byte c r r8
          have NX := X.out.next LA.out hbit (by omega) (c := c) (by rw [← hi, ← hj]; exact hc)
          rw [← hi, ← hj, ← hr] at NX
          have TN := hide (turned_next (n := a.size) hbit (show p + k < 8 * a.size by omega))
          have NX' := hide NX
          obtain ⟨d, hd⟩ : ∃ d, d = c ^^^ UInt8.ofNat (2 ^ r) := ⟨_, rfl⟩
          rw [← hd] at hx NX'
          clear hi hj hr NX hc hbit hd
          go_wp2_with fail
          go_roundw
          case rel => exact ⟨k + 1, by omega, by go_num, by rw [TN.out], NX'.out⟩
          case measure => simp [intOf]; omega
        · have NX' := hide (X.out.skip LA.out (show ¬ (bits_ / 2 ^ k % 2 = 1 ∧ p + k < 8 * a.size) by omega))
          have TN := hide (turned_skip (show ¬ (bits_ / 2 ^ k % 2 = 1 ∧ p + k < 8 * a.size) by omega))
          clear hi hj hr hbit
          go_wp2_with fail
          go_roundw
          case rel => exact ⟨k + 1, by omega, by go_num, by rw [TN.out], NX'.out⟩
          case measure => simp [intOf]; omega
      · have hb1 := word_no bits_ k hbits hbit
        have NX' := hide (X.out.skip LA.out (show ¬ (bits_ / 2 ^ k % 2 = 1 ∧ p + k < 8 * a.size) by omega))
        have TN := hide (turned_skip (show ¬ (bits_ / 2 ^ k % 2 = 1 ∧ p + k < 8 * a.size) by omega))
        clear hi hj hr hbit
        go_wp2_with fail
        go_roundw
        case rel => exact ⟨k + 1, by omega, by go_num, by rw [TN.out], NX'.out⟩
        case measure => simp [intOf]; omega
    · obtain rfl : k = 32 := by omega
      have O1 := hide (of_row (n := a.size) (c := c) X.out.und.1 X.out.row (by rw [turn_length, LA.out]) X.out.far.symm (by omega))
      have PL := hide hpl
      clear hpl
      go_wp2_with fail
      refine O1.out.mono ?_
      rintro e w4 ⟨rfl, hup, hgr⟩
      have U4 := hide (X.out.und.grown hup.at_ hgr)
      clear hup hgr
      go_wp2_with (with_reducible refine wpList_to_bytes rfl _ rfl _ rfl ?_; intro b5 c5 w5 hby)
      have U5 := hide (U4.out.below hby.below)
      have O2 := hide (of_bytes (s := a) (c := c5) U5.out.1 hby.row (by have := U4.out.1.lt; have := hby.new; omega) (by omega))
      clear hby
      go_wp2_with fail
      refine O2.out.mono ?_
      rintro e w6 ⟨rfl, hup, hgr⟩
      have U6 := hide (U5.out.grown hup.at_ hgr)
      clear hup hgr
      go_wp2_with fail
      go_ret
      exact ⟨ret_bool (differs_end HA.out LA.out (by have := PL.out; omega)), U6.out.2.1⟩

set_option maxRecDepth 100000 in
set_option maxHeartbeats 400000 in
theorem diff_other (a : ByteArray) (x y : Nat) (w : World) (ha : a.size ≤ 9223372036854775807) (h : 500 < a.size ∨ a.size = 0) :
    Calls Try.prog 5 #[.string a, .int .u16 x, .int .u32 y] w fun e w' => e = .returned (.bool true) ∧ Below w.heap.size w w' := by
  rcases h with h | h
  all_goals
    go_enter Try.func5, Try.ntmps5
    go_wp2_with fail
    refine (new_any _).mono ?_
    rintro e w1 ⟨g, rfl, hu⟩
    have U1 := hide hu
    clear hu
    go_wp2_with fail
    refine (awake2 _).mono ?_
    rintro e w2 ⟨rfl, hb⟩
    have U2 := hide (U1.out.below hb)
    clear hb
    go_wp2_with fail
    refine (awake2 _).mono ?_
    rintro e w3 ⟨rfl, hb⟩
    have U3 := hide (U2.out.below hb)
    clear hb
    go_wp2_with fail
    go_ret
    exact ⟨rfl, U3.out.2.1⟩

theorem sumDiffers_walk {w : World} (a : ByteArray) (ha : a.size ≤ maxLen) (x : Nat) (hx : x ≤ 65535) (y : Nat) (hy : y ≤ 4294967295) :
    Calls Try.prog 5 #[.string a, .int .u16 x, .int .u32 y] w fun e w' => e = .returned (.bool true) ∧ Below w.heap.size w w' := by
  unfold maxLen at ha
  by_cases h : a.size ≤ 500 ∧ 0 < a.size
  · exact diff_short a x y w hx hy h.1 h.2
  · exact diff_other a x y w ha (by omega)
end Go.Proofs.Ytljfomgcoodjkaa
