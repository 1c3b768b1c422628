/- The walk of SumXor: the sum of bytes that others turn is turned by what that turns the sum of as many noughts; the law returns true and nothing that was there has turned. -/
import Derived.Test.YtljfomgcoodjkaaParts
import Derived.Deep.DeepCutAuto
namespace Go.Proofs.Ytljfomgcoodjkaa
open Go.RowKit

/-- The world that '[]byte(s)' leaves, under one name. -/
def strW (w : World) (s : ByteArray) : World :=
  w.drew.alloc (.cells (bytesRow s (grownCap w s.size 0 5)) 5 ((bytesRow s (grownCap w s.size 0 5)).size, (bytesRow s (grownCap w s.size 0 5)).size + 1))
def strC (w : World) (s : ByteArray) : Nat := grownCap w s.size 0 5
theorem conv28 (s : ByteArray) (w : World) : (convert 9 28 (.string s)).run Try.prog w = .ok (.slice (some ⟨w.heap.size, 0, none⟩) s.size (strC w s)) (strW w s) :=
  run_bytes_of_string w 9 28 5 s Try.underlying9 Try.underlying28 Try.underlying5
theorem strW_bytes (w : World) (s : ByteArray) : Bytes w (strW w s) w.heap.size (strC w s) s.data.toList := bytes_made w s

theorem info5 : (Try.prog.info? 5).map (fun i => (i.zero, i.size, i.bytes)) = some (some (.int .u8 0), 1, 1) := by kernel_rfl
def zeroW (w : World) (n : Nat) : World := w.alloc (.cells (madeCells #[.int .u8 0] n) 5)
theorem make28 (n : Nat) (hn : n ≤ 65536) (w : World) : (Instr.makeSlice 28 (.int .i64 (n : Int)) (.int .i64 (n : Int))).run Try.prog w = .ok (.slice (some ⟨w.heap.size, 0, none⟩) n n) (zeroW w n) := by
  obtain ⟨i0, hi0, hz0, hz1, hz2⟩ := info_parts info5
  rw [run_make (P := Try.prog) (w := w) 28 5 i0 _ Try.underlying28 hi0 hz0 .i64 .i64 n n (by omega) (by omega) (by rw [hz2]; omega) (by omega)]
  simp only [Int.toNat_natCast, hz1, Nat.mul_one, zeroW, Value.cells]
theorem zeroW_bytes (w : World) (n : Nat) : Bytes w (zeroW w n) w.heap.size n (List.replicate n 0) := by
  have hb : (zeroW w n).heap[w.heap.size]? = some (.cells (madeCells #[.int .u8 0] n) 5 (0, 0)) := heap_alloc_new w _
  refine ⟨row_of_block hb _ ?_, fun i _ => ?_, Nat.le_refl _, by simp [zeroW], by simp, (Below.refl _ _).alloc (Nat.le_refl _) _, ⟨_, _, hb⟩⟩
  · rw [toList_madeCells_one, List.length_replicate, List.take_of_length_le (by simp), List.map_replicate]; rfl
  · simp [World.frozen?, hb]

attribute [irreducible] strW strC zeroW

/-- Three rows, each in a block of its own, none below B. -/
structure Three (w w' : World) (b1 b2 b3 : Nat) (x1 x2 x3 : List UInt8) : Prop where
  r1 : Row w' b1 0 x1
  r2 : Row w' b2 0 x2
  r3 : Row w' b3 0 x3
  l1 : ∀ i, i < x1.length → w'.frozen? ⟨b1, i, none⟩ = false
  n1 : w.heap.size ≤ b1
  n2 : w.heap.size ≤ b2
  n3 : w.heap.size ≤ b3
  d2 : b2 ≠ b1
  d3 : b3 ≠ b1
  below : Below w.heap.size w w'

theorem loose_below {w w' : World} {b n : Nat} (h : ∀ i, i < n → w.frozen? ⟨b, i, none⟩ = false) (hb : Below w.heap.size w w') (hlt : b < w.heap.size) : ∀ i, i < n → w'.frozen? ⟨b, i, none⟩ = false := fun i hi => by
  rw [hb.frozen (p := ⟨b, i, none⟩) hlt]; exact h i hi

theorem three_made {w0 w1 w2 w3 : World} {b1 b2 b3 c1 c2 c3 : Nat} {x1 x2 x3 : List UInt8} (h1 : Bytes w0 w1 b1 c1 x1) (h2 : Bytes w1 w2 b2 c2 x2) (h3 : Bytes w2 w3 b3 c3 x3) :
    Three w0 w3 b1 b2 b3 x1 x2 x3 ∧ Three w0 w3 b2 b1 b3 x2 x1 x3 ∧ Three w0 w3 b3 b1 b2 x3 x1 x2 := by
  have hb : Below w0.heap.size w0 w3 := h1.below.trans ((h2.below.mono h1.below.size).trans (h3.below.mono (Nat.le_trans h1.below.size h2.below.size)))
  have r1 : Row w3 b1 0 x1 := (h1.row.below h2.below).below h3.below
  have r2 : Row w3 b2 0 x2 := h2.row.below h3.below
  have g1 := h1.new; have g2 := h2.new; have g3 := h3.new; have l1 := h1.lt; have l2 := h2.lt; have s1 := h1.below.size; have s2 := h2.below.size; have s3 := h3.below.size
  have f1 := loose_below (loose_below h1.loose h2.below l1) h3.below (by omega)
  have f2 := loose_below h2.loose h3.below l2
  exact ⟨⟨r1, r2, h3.row, f1, g1, by omega, by omega, by omega, by omega, hb⟩, ⟨r2, r1, h3.row, f2, by omega, g1, by omega, by omega, by omega, hb⟩, ⟨h3.row, r1, r2, h3.loose, by omega, g1, by omega, by omega, by omega, hb⟩⟩
theorem Three.swap {w w' : World} {b1 b2 b3 : Nat} {x1 x2 x3 : List UInt8} (h : Three w w' b1 b2 b3 x1 x2 x3) : Three w w' b1 b3 b2 x1 x3 x2 :=
  ⟨h.r1, h.r3, h.r2, h.l1, h.n1, h.n3, h.n2, h.d3, h.d2, h.below⟩

/-- The first k bytes turned by others. -/
def mixTo (a y : List UInt8) (k : Nat) : List UInt8 := List.zipWith (· ^^^ ·) (a.take k) (y.take k) ++ a.drop k

theorem mix_length (a y : List UInt8) (h : a.length = y.length) (k : Nat) (hk : k ≤ a.length) : (mixTo a y k).length = a.length := by
  simp [mixTo]; omega
theorem mix_at (a y : List UInt8) (h : a.length = y.length) (k : Nat) (hk : k < a.length) : (mixTo a y k)[k]? = some a[k] := by
  unfold mixTo
  have hl : (List.zipWith (· ^^^ ·) (a.take k) (y.take k)).length = k := by simp; omega
  rw [List.getElem?_append_right (by omega), hl, Nat.sub_self, List.getElem?_drop, Nat.add_zero, List.getElem?_eq_getElem hk]
theorem Row.at? {w : World} {b off k : Nat} {xs : List UInt8} {c : UInt8} (h : Row w b off xs) (hc : xs[k]? = some c) : w.cell? ⟨b, off + k, none⟩ = some (.int .u8 (c.toNat : Int)) := by
  obtain ⟨hk, rfl⟩ := List.getElem?_eq_some_iff.1 hc
  exact h k hk
theorem Row.set {w : World} {b k : Nat} {xs : List UInt8} (h : Row w b 0 xs) (hk : k < xs.length) (c : UInt8) : Row (w.setCell ⟨b, k, none⟩ (.int .u8 (c.toNat : Int))) b 0 (xs.set k c) := fun i hi => by
  have hi' : i < xs.length := by rw [List.length_set] at hi; exact hi
  rw [Nat.zero_add]
  by_cases e : i = k
  · subst e
    have h0 := h i hi'
    rw [Nat.zero_add] at h0
    rw [World.cell?_setCell_same w _ _ h0]
    simp
  · have h0 := h i hi'
    rw [Nat.zero_add] at h0
    rw [World.cell?_setCell_other w _ _ _ (by simp), h0, List.getElem_set_ne (by omega)]
theorem Row.set_far {w : World} {b b' k off : Nat} {xs : List UInt8} (h : Row w b off xs) (hne : b ≠ b') (v : Value) : Row (w.setCell ⟨b', k, none⟩ v) b off xs := fun i hi => by
  rw [World.cell?_setCell_other w _ _ _ (fun h => hne (congrArg Addr.block h).symm)]; exact h i hi

theorem mul_xor (i a b : Nat) : 2 ^ i * (a ^^^ b) = 2 ^ i * a ^^^ 2 ^ i * b := by
  apply Nat.eq_of_testBit_eq
  intro j
  simp only [Nat.testBit_xor, Nat.testBit_two_pow_mul]
  cases decide (j ≥ i) <;> simp
theorem num_mix : ∀ (a y : List UInt8), a.length = y.length → Crc.num (List.zipWith (· ^^^ ·) a y) = Crc.num a ^^^ Crc.num y
  | [], [], _ => rfl
  | c :: a, d :: y, h => by
    have ih := num_mix a y (by simpa using h)
    simp only [List.zipWith_cons_cons, Crc.num, ih, UInt8.toNat_xor]
    have e : ∀ (u : UInt8) (m : Nat), u.toNat + 256 * m = u.toNat ^^^ 2 ^ 8 * m := fun u m => by
      rw [← Crc.add_eq_xor 8 u.toNat m u.toNat_lt]; omega
    have e2 : c.toNat ^^^ d.toNat < 2 ^ 8 := Nat.xor_lt_two_pow c.toNat_lt d.toNat_lt
    rw [e, e, Nat.add_comm, show 256 = 2 ^ 8 from rfl, Crc.add_eq_xor 8 _ _ e2, mul_xor]
    rw [Nat.xor_assoc, Nat.xor_assoc, ← Nat.xor_assoc d.toNat, Nat.xor_comm d.toNat (2 ^ 8 * Crc.num a), Nat.xor_assoc]
theorem num_zero (n : Nat) : Crc.num (List.replicate n 0) = 0 := by
  induction n with
  | zero => rfl
  | succ n ih => rw [List.replicate_succ, Crc.num, ih]; rfl
theorem xor_law (a y : List UInt8) (h : a.length = y.length) : Crc.crc (List.zipWith (· ^^^ ·) a y) ^^^ Crc.crc a = Crc.crc y ^^^ Crc.crc (List.replicate a.length 0) := by
  rw [Crc.crc_xor _ _ (by simp; omega), Crc.crc_xor _ _ (by simp; omega), num_mix a y h, num_zero, Nat.xor_zero, Nat.xor_comm (Crc.num a), Nat.xor_assoc, Nat.xor_self, Nat.xor_zero]
  congr 2
  simp; omega
theorem mix_step (a y : List UInt8) (h : a.length = y.length) (k : Nat) (hk : k < a.length) : (mixTo a y k).set k (a[k] ^^^ y[k]) = mixTo a y (k + 1) := by
  unfold mixTo
  have hl : (List.zipWith (· ^^^ ·) (a.take k) (y.take k)).length = k := by simp; omega
  rw [List.set_append_right _ _ (by omega), hl, Nat.sub_self, List.drop_eq_getElem_cons hk, List.set_cons_zero, take_snoc a k hk, take_snoc y k (by omega), List.zipWith_append (by simp; omega)]
  simp

theorem Und.drew {B : Nat} {w0 w : World} {g : Nat} {n : Int} (h : Und B w0 w g n) : Und B w0 w.drew g n := ⟨h.1, h.2.1.drew, h.2.2⟩
theorem Und.setCell {B : Nat} {w0 w : World} {g b i : Nat} {n : Int} (h : Und B w0 w g n) (hb : B ≤ b) (hne : g ≠ b) (v : Value) : Und B w0 (w.setCell ⟨b, i, none⟩ v) g n := by
  obtain ⟨⟨cs, hk, r⟩, h2, h3, h4⟩ := h
  exact ⟨⟨cs, hk.far hne v, r⟩, h2.setCell hb v, h3, by simpa [World.setCell] using h4⟩
theorem Und.alloc {B : Nat} {w0 w : World} {g : Nat} {n : Int} (h : Und B w0 w g n) (o : Obj) : Und B w0 (w.alloc o) g n := h.below ((Below.refl _ _).alloc (Nat.le_refl _) o)
theorem frozen_setCell (w : World) (p q : Addr) (v : Value) : (w.setCell p v).frozen? q = w.frozen? q := by simp

/-- Behind k rounds. -/
structure XorRel (w wr : World) (g b1 b2 b3 : Nat) (A Y : List UInt8) (n k : Nat) : Prop where
  und : Und w.heap.size w wr g 0
  r1 : Row wr b1 0 (mixTo A Y k)
  r2 : Row wr b2 0 Y
  r3 : Row wr b3 0 (List.replicate n 0)
  l1 : ∀ i, i < n → wr.frozen? ⟨b1, i, none⟩ = false
  n1 : w.heap.size ≤ b1
  g1 : g ≠ b1
  g2 : g ≠ b2
  g3 : g ≠ b3
  d2 : b2 ≠ b1
  d3 : b3 ≠ b1

theorem XorRel.start {w w2 wc : World} {g b1 b2 b3 n : Nat} {A Y : List UInt8} (hu : Und w.heap.size w w2 g 0) (h : Three w2.drew wc b1 b2 b3 A Y (List.replicate n 0)) (hA : A.length = n) (_hY : Y.length = n) : XorRel w wc g b1 b2 b3 A Y n 0 := by
  have lt := hu.1.lt
  have n1 := h.n1; have n2 := h.n2; have n3 := h.n3
  have sz : w2.drew.heap.size = w2.heap.size := rfl
  have sw := hu.2.2.2
  exact ⟨hu.drew.below h.below, by simpa [mixTo] using h.r1, h.r2, h.r3, fun i hi => h.l1 i (by omega), by omega, by omega, by omega, by omega, h.d2, h.d3⟩

theorem XorRel.next {w wr : World} {g b1 b2 b3 n k : Nat} {A Y : List UInt8} (h : XorRel w wr g b1 b2 b3 A Y n k) (hA : A.length = n) (hY : Y.length = n) (hk : k < A.length) (hk' : k < Y.length) :
    XorRel w (wr.setCell ⟨b1, k, none⟩ (.int .u8 ((A[k] ^^^ Y[k]).toNat : Int))).drew g b1 b2 b3 A Y n (k + 1) := by
  have r := h.r1.set (k := k) (by rw [mix_length A Y (by omega) k (by omega)]; exact hk) (A[k] ^^^ Y[k])
  rw [mix_step A Y (by omega) k hk] at r
  exact ⟨(h.und.setCell h.n1 h.g1 _).drew, r, h.r2.set_far h.d2 _, h.r3.set_far h.d3 _, fun i hi => by simp [h.l1 i hi], h.n1, h.g1, h.g2, h.g3, h.d2, h.d3⟩

theorem of_row {w : World} {g b c n : Nat} {m : Int} {xs : List UInt8} (hs : SumAt w g m) (hr : Row w b 0 xs) (hl : xs.length = n) (hb : b ≠ g) (hlen : n ≤ 9223372036854775807) :
    Calls Try.prog 24 #[.pointer (some ⟨g, 0, none⟩), .slice (some ⟨b, 0, none⟩) n c] w fun e w' => e = .returned (.int .u32 (Crc.crc xs : Nat)) ∧ SumUp w' g (wrap64 (m + n)) ∧ w.grownBy w' (some g) := by
  subst hl
  exact of_any g m _ _ w hs (hr.RB (c := c) hb) hlen

theorem ret_bool {a b : Bool} (h : a = b) : Ending.returned (.bool a) = .returned (.bool b) := by rw [h]
theorem mix_all (a y : List UInt8) (n : Nat) (h : a.length = n) (h' : y.length = n) : mixTo a y n = List.zipWith (· ^^^ ·) a y := by
  unfold mixTo
  rw [List.take_of_length_le (by omega), List.take_of_length_le (by omega), List.drop_eq_nil_of_le (by omega), List.append_nil]
theorem xor_end {A Y L : List UInt8} {n : Nat} (hA : A.length = n) (hY : Y.length = n) (hL : A = L) :
    (bits BinOp.xor IntKind.u32 ((Crc.crc (mixTo A Y n) : Nat) : Int) ((Crc.crc L : Nat) : Int) == bits BinOp.xor IntKind.u32 ((Crc.crc Y : Nat) : Int) ((Crc.crc (List.replicate n 0) : Nat) : Int)) = true := by
  subst hL
  rw [u32_xor_nat _ _ (Crc.crc_lt _) (Crc.crc_lt _), u32_xor_nat _ _ (Crc.crc_lt _) (Crc.crc_lt _), mix_all A Y n hA hY, xor_law A Y (by omega), hA]
  simp

set_option maxRecDepth 100000 in
set_option maxHeartbeats 400000 in
theorem xor_short (a b : ByteArray) (w : World) (h5 : a.size ≤ 500) (hab : a.size ≤ b.size) (hb : b.size ≤ 9223372036854775807) :
    Calls Try.prog 6 #[.string a, .string b] w fun e w' => e = .returned (.bool true) ∧ Below w.heap.size w w' := by
  have kc := conv28
  have km := make28 a.size (by omega)
  go_enter Try.func6, Try.ntmps6
  go_wp2_with fail
  refine (new_any _).mono ?_
  rintro e w1 ⟨g, rfl, hu⟩
  have U1 := hide hu
  clear hu
  go_wp2_with fail
  refine (awake2 _).mono ?_
  rintro e w2 ⟨rfl, hb⟩
  have U2 := hide (U1.out.below hb)
  clear hb
  go_upto_region 4 with fail
  go_cut [6, 7, 8] (fun s6 s7 s8 wx => ∃ b1 b2 b3 c1 c2 c3 : Nat, s6 = .slice (some ⟨b1, 0, none⟩) a.size c1 ∧ s7 = .slice (some ⟨b2, 0, none⟩) a.size c2 ∧ s8 = .slice (some ⟨b3, 0, none⟩) a.size c3 ∧
    Three w2.drew wx b1 b2 b3 a.data.toList (b.extract 0 a.size).data.toList (List.replicate a.size 0))
  case first =>
    go_region
    all_goals
      go_wp2_with fail
      go_meet
      first
        | with_reducible exact ⟨_, _, _, _, _, _, rfl, rfl, rfl, (three_made (strW_bytes _ a) (strW_bytes _ (b.extract 0 a.size)) (zeroW_bytes _ a.size)).1⟩
        | with_reducible exact ⟨_, _, _, _, _, _, rfl, rfl, rfl, (three_made (strW_bytes _ a) (zeroW_bytes _ a.size) (strW_bytes _ (b.extract 0 a.size))).1.swap⟩
        | with_reducible exact ⟨_, _, _, _, _, _, rfl, rfl, rfl, (three_made (strW_bytes _ (b.extract 0 a.size)) (strW_bytes _ a) (zeroW_bytes _ a.size)).2.1⟩
        | with_reducible exact ⟨_, _, _, _, _, _, rfl, rfl, rfl, (three_made (strW_bytes _ (b.extract 0 a.size)) (zeroW_bytes _ a.size) (strW_bytes _ a)).2.2⟩
        | with_reducible exact ⟨_, _, _, _, _, _, rfl, rfl, rfl, (three_made (zeroW_bytes _ a.size) (strW_bytes _ a) (strW_bytes _ (b.extract 0 a.size))).2.1.swap⟩
        | with_reducible exact ⟨_, _, _, _, _, _, rfl, rfl, rfl, (three_made (zeroW_bytes _ a.size) (strW_bytes _ (b.extract 0 a.size)) (strW_bytes _ a)).2.2.swap⟩
  case rest =>
    obtain ⟨b1, b2, b3, c1, c2, c3, rfl, rfl, rfl, h3⟩ := hcut
    have hlY : (b.extract 0 a.size).data.toList.length = a.size := by
      have : (b.extract 0 a.size).size = a.size := by rw [ByteArray.size_extract]; omega
      simpa using this
    have hlA : a.data.toList.length = a.size := by simp
    have X0 := hide (XorRel.start U2.out h3 hlA hlY)
    have LA := hide hlA
    have LY := hide hlY
    obtain ⟨A, hA⟩ : ∃ A, A = a.data.toList := ⟨_, rfl⟩
    obtain ⟨Y, hY⟩ : ∃ Y, Y = (b.extract 0 a.size).data.toList := ⟨_, rfl⟩
    rw [← hA] at X0 LA
    rw [← hY] at X0 LY
    have HA := hide hA
    have HY := hide hY
    clear h3 kc km hlA hlY hA hY
    go_wp2_with fail
    go_loopw [9] (fun i wr => ∃ k : Nat, k ≤ a.size ∧ i = .int .i64 k ∧ XorRel w wr g b1 b2 b3 A Y a.size k) (fun i _ => a.size - (intOf i).toNat)
    case atStart => exact ⟨0, by omega, rfl, X0.out⟩
    case round =>
      obtain ⟨k, hk, rfl, hx⟩ := hrel
      have X := hide hx
      clear hx
      by_cases hlt : k < a.size
      · have hkA : k < A.length := by rw [LA.out]; exact hlt
        have hkY : k < Y.length := by rw [LY.out]; exact hlt
        have e1 := X.out.r1.at? (mix_at A Y (by rw [LA.out, LY.out]) k hkA)
        have e2 := X.out.r2 k hkY
        have e3 := X.out.l1 k hlt
        rw [Nat.zero_add] at e1 e2
        have ex : bits BinOp.xor IntKind.u8 (A[k].toNat : Int) (Y[k].toNat : Int) = ((A[k] ^^^ Y[k]).toNat : Int) := by
          rw [u8_xor_nat _ _ A[k].toNat_lt Y[k].toNat_lt, UInt8.toNat_xor]
        have NX := X.out.next LA.out LY.out hkA hkY
        obtain ⟨c, hc⟩ : ∃ c, c = A[k] ^^^ Y[k] := ⟨_, rfl⟩
        rw [← hc] at ex NX
        have NX' := hide NX
        clear NX hc
        go_wp2_with fail
        go_region
        go_wp2
        go_roundw
        case rel => exact ⟨k + 1, by omega, by go_num, NX'.out⟩
        case measure => simp [intOf]; omega
      · obtain rfl : k = a.size := by omega
        have lA : (mixTo A Y a.size).length = a.size := by rw [mix_length A Y (by rw [LA.out, LY.out]) _ (by rw [LA.out]; exact Nat.le_refl _), LA.out]
        have O1 := hide (of_row (n := a.size) (c := c1) X.out.und.1 X.out.r1 lA X.out.g1.symm (by omega))
        clear lA
        go_wp2_with fail
        refine O1.out.mono ?_
        rintro e w4 ⟨rfl, hup, hgr⟩
        have U4 := hide (X.out.und.grown hup.at_ hgr)
        have R2 := hide (X.out.r2.grown hgr X.out.g2.symm)
        have R3 := hide (X.out.r3.grown hgr X.out.g3.symm)
        clear hup hgr
        go_wp2_with (with_reducible refine wpList_to_bytes rfl _ rfl _ rfl ?_; intro b5 c5 w5 hby)
        have U5 := hide (U4.out.below hby.below)
        have R2' := hide (R2.out.below hby.below)
        have R3' := hide (R3.out.below hby.below)
        have O2 := hide (of_bytes (s := a) (c := c5) U5.out.1 hby.row (by have := U4.out.1.lt; have := hby.new; omega) (by omega))
        clear hby
        go_wp2_with fail
        refine O2.out.mono ?_
        rintro e w6 ⟨rfl, hup, hgr⟩
        have U6 := hide (U5.out.grown hup.at_ hgr)
        have O3 := hide (of_row (n := a.size) (c := c2) hup.at_ (R2'.out.grown hgr X.out.g2.symm) LY.out X.out.g2.symm (by omega))
        have R3'' := hide (R3'.out.grown hgr X.out.g3.symm)
        clear hup hgr
        go_wp2_with fail
        refine O3.out.mono ?_
        rintro e w7 ⟨rfl, hup, hgr⟩
        have U7 := hide (U6.out.grown hup.at_ hgr)
        have O4 := hide (of_row (n := a.size) (c := c3) hup.at_ (R3''.out.grown hgr X.out.g3.symm) (by simp) X.out.g3.symm (by omega))
        clear hup hgr
        go_wp2_with fail
        refine O4.out.mono ?_
        rintro e w8 ⟨rfl, hup, hgr⟩
        have U8 := hide (U7.out.grown hup.at_ hgr)
        clear hup hgr
        go_wp2_with fail
        go_ret
        exact ⟨ret_bool (xor_end LA.out LY.out HA.out), U8.out.2.1⟩

set_option maxRecDepth 100000 in
set_option maxHeartbeats 400000 in
theorem xor_other (a b : ByteArray) (w : World) (ha : a.size ≤ 9223372036854775807) (_hb : b.size ≤ 9223372036854775807) (h : 500 < a.size ∨ a.size ≤ 500 ∧ b.size < a.size) :
    Calls Try.prog 6 #[.string a, .string b] w fun e w' => e = .returned (.bool true) ∧ Below w.heap.size w w' := by
  rcases h with h | ⟨h, h'⟩
  all_goals
    go_enter Try.func6, Try.ntmps6
    go_wp2_with fail
    refine (new_any _).mono ?_
    rintro e w1 ⟨g, rfl, hu⟩
    have U1 := hide hu
    clear hu
    go_wp2_with fail
    refine (awake2 _).mono ?_
    rintro e w2 ⟨rfl, hb⟩
    have U2 := hide (U1.out.below hb)
    clear hb
    go_wp2_with fail
    refine (awake2 _).mono ?_
    rintro e w3 ⟨rfl, hb⟩
    have U3 := hide (U2.out.below hb)
    clear hb
    go_wp2_with fail
    go_ret
    exact ⟨rfl, U3.out.2.1⟩

theorem sumXor_walk {w : World} (a : ByteArray) (ha : a.size ≤ maxLen) (b : ByteArray) (hb : b.size ≤ maxLen) :
    Calls Try.prog 6 #[.string a, .string b] w fun e w' => e = .returned (.bool true) ∧ Below w.heap.size w w' := by
  unfold maxLen at ha hb
  by_cases h : a.size ≤ 500
  · by_cases h' : a.size ≤ b.size
    · exact xor_short a b w h h' hb
    · exact xor_other a b w ha hb (.inr ⟨h, by omega⟩)
  · exact xor_other a b w ha hb (.inl (by omega))
end Go.Proofs.Ytljfomgcoodjkaa
