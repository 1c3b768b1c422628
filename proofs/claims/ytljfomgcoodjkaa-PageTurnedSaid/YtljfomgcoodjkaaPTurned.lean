/- A page of which some bits ahead of the sum are turned, within 32 in a row, is none: the law's walk. -/
import Derived.Test.YtljfomgcoodjkaaPutAll
import Derived.Test.YtljfomgcoodjkaaDiffers
namespace Go.Proofs.Ytljfomgcoodjkaa
open Go.RowKit

/-- Behind k rounds: the page's bytes, some bits turned; the sum's bytes as they are. -/
structure Turn2 (wb wr : World) (g b : Nat) (m : Int) (A T : List UInt8) (p word k : Nat) : Prop where
  und : Und wb.heap.size wb wr g m
  buf : Buf wr b (turnTo A p word k ++ T)
  new : wb.heap.size ≤ b
  far : g ≠ b
theorem Turn2.next {wb wr : World} {g b p word k n : Nat} {m : Int} {A T : List UInt8} {c : UInt8} (h : Turn2 wb wr g b m A T p word k) (hA : A.length = n) (hb : word / 2 ^ k % 2 = 1) (hi : p + k < 8 * n)
    (hc : (turnTo A p word k)[(p + k) / 8]? = some c) : Turn2 wb (wr.setCell ⟨b, (p + k) / 8, none⟩ (.int .u8 ((c ^^^ UInt8.ofNat (2 ^ ((p + k) % 8))).toNat : Int))) g b m A T p word (k + 1) := by
  have hl := turn_length A p word k
  have r := h.buf.set (k := (p + k) / 8) (by rw [List.length_append]; omega) (c ^^^ UInt8.ofNat (2 ^ ((p + k) % 8)))
  have e : (turnTo A p word k ++ T).set ((p + k) / 8) (c ^^^ UInt8.ofNat (2 ^ ((p + k) % 8))) = turnTo A p word (k + 1) ++ T := by
    rw [List.set_append_left _ _ (by omega), turnTo, if_pos ⟨hb, by omega⟩, flipBit, List.getD_eq_getElem?_getD, hc]; rfl
  rw [e] at r
  exact ⟨h.und.setCell h.new h.far _, r, h.new, h.far⟩
theorem Turn2.skip {wb wr : World} {g b p word k n : Nat} {m : Int} {A T : List UInt8} (h : Turn2 wb wr g b m A T p word k) (hA : A.length = n) (hb : ¬ (word / 2 ^ k % 2 = 1 ∧ p + k < 8 * n)) : Turn2 wb wr g b m A T p word (k + 1) := by
  have e : turnTo A p word (k + 1) = turnTo A p word k := by rw [turnTo, if_neg (by rw [hA]; exact hb)]
  exact ⟨h.und, by rw [e]; exact h.buf, h.new, h.far⟩
theorem turn_none (A : List UInt8) (p word : Nat) : ∀ k, turnD A.length p word k = 0 → turnTo A p word k = A
  | 0, _ => rfl
  | k + 1, h => by
    rw [turnD] at h
    by_cases e : word / 2 ^ k % 2 = 1 ∧ p + k < 8 * A.length
    · rw [if_pos e] at h
      have : 0 < 2 ^ k := Nat.pow_pos (by omega)
      omega
    · rw [if_neg e] at h
      rw [turnTo, if_neg e]
      exact turn_none A p word k (by omega)

set_option maxRecDepth 100000 in
set_option maxHeartbeats 1600000 in
theorem pageTurned_walk {w : World} (v0 : Value) (x0 : Pg) (f0 : Page w v0 x0) (x1 : Nat) (f1 : x1 ≤ 65535) (x2 : Nat) (f2 : x2 ≤ 4294967295) :
    Calls Try.prog 13 #[v0, .int .u16 x1, .int .u32 x2] w fun e w' => e = .returned (.bool true) ∧ Below w.heap.size w w' := by
  obtain ⟨A0, c0, rfl⟩ := f0.open_
  have BF0 := fun (w' : World) (g : Nat) (m : Int) V => box_facts (w' := w') (g := g) (m := m) f0 V
  obtain ⟨wb, hwb⟩ : ∃ wb, wb = w.alloc (.cells #[.int .i64 x0.kd, .int .i64 x0.no, .int .i64 x0.ep, .int .i64 x0.lk, .slice A0 x0.cells.length c0] 58) := ⟨_, rfl⟩
  rw [← hwb] at BF0
  have BF := hide BF0
  obtain ⟨p, hp⟩ : ∃ p, p = x1 % 2016 := ⟨_, rfl⟩
  have hpl : p < 2016 := by omega
  have hp' : (x1 : Int) % 2016 = (p : Int) := by omega
  clear f0 BF0 hp
  go_enter Try.func13, Try.ntmps13
  go_upto_region 1 with fail
  rw [← hwb]
  clear hwb
  go_wp2_with fail
  refine (new_any _).mono ?_
  rintro e w1 ⟨g, rfl, hu⟩
  have V1 := hide hu
  clear hu
  go_wp2_with fail
  refine (awake4 _).mono ?_
  rintro e w2 ⟨rfl, hb⟩
  have V2 := hide (V1.out.below hb)
  clear hb V1
  obtain ⟨PV2, RS2, BK2, _⟩ := BF.out _ _ _ V2.out
  obtain ⟨⟨a0, a1, a2, a3, a4⟩, _⟩ := page_cells BK2
  have FW := few_page g _ x0 w2 PV2
  by_cases hf : fewB x0.cells = true
  case neg =>
    rw [show fewB x0.cells = false by simpa using hf] at FW
    have FW' := hide FW
    clear FW hf PV2 RS2 BK2
    go_wp2_with fail
    refine FW'.out.mono ?_
    rintro e w3 ⟨rfl, hb⟩
    have V3 := hide (V2.out.below hb)
    clear hb
    go_wp2_with fail
    refine (awake4 _).mono ?_
    rintro e w4 ⟨rfl, hb⟩
    have V4 := hide (V3.out.below hb)
    clear hb
    go_wp2_with fail
    go_ret
    exact ⟨rfl, (BF.out _ _ _ V4.out).2.2.2⟩
  rw [hf] at FW
  have FW' := hide FW
  clear FW PV2 RS2 BK2
  go_wp2_with fail
  refine FW'.out.mono ?_
  rintro e w3 ⟨rfl, hb⟩
  have V3 := hide (V2.out.below hb)
  clear hb V2 FW' a0 a1 a2 a3 a4
  obtain ⟨PV3, RS3, BK3, _⟩ := BF.out _ _ _ V3.out
  obtain ⟨⟨a0, a1, a2, a3, a4⟩, _⟩ := page_cells BK3
  have PT := hide (put_page g 0 _ x0 w3 V3.out.1 PV3 hf)
  clear PV3 RS3 BK3 hf
  go_wp2_with fail
  refine PT.out.mono ?_
  rintro e w4 ⟨bv, er, rfl, hend, ⟨m4, hs4⟩, hg4⟩
  have V4 := hide (V3.out.grown hs4 hg4)
  have Z3 := hide V3.out.2.2.2
  have L3 := hide V3.out.1.lt
  clear hs4 hg4 PT a0 a1 a2 a3 a4 V3
  rcases hend with ⟨_, _, hn, _⟩ | ⟨ok, rfl, b, rfl, hbn, hbuf⟩
  · have hn1 : er = 40 ∨ er = 41 := by rw [hn]; split <;> omega
    clear hn
    rcases hn1 with rfl | rfl
    all_goals (
      go_wp2_with fail
      go_ret
      exact ⟨rfl, (BF.out _ _ _ V4.out).2.2.2⟩)
  obtain ⟨A, T, hAT, hA, hT⟩ : ∃ A T, bytesPg x0 = A ++ T ∧ A.length = 252 ∧ T = four (Crc.crc A) := by
    obtain ⟨kd, no, ep, lk, _, hb, _⟩ := ok.nat
    exact ⟨_, _, hb, body_len _ _ _ _ _ ((fits_iff _).1 ok.1).1, rfl⟩
  have hAT2 := hide hAT
  rw [hAT] at hbuf
  have R0 := hide (show Turn2 wb w4 g b m4 A T p x2 0 from ⟨V4.out, hbuf, Nat.le_trans Z3.out hbn, by have := L3.out; omega⟩)
  have OK := hide ok
  have LA := hide hA
  have HT := hide hT
  clear hAT hbuf hbn hA hT ok Z3 L3 V4
  go_wp2_with fail
  go_loopw [10, 11] (fun t i wr => ∃ k : Nat, k ≤ 32 ∧ i = .int .i64 k ∧ t = .bool (turned 252 p x2 k) ∧ Turn2 wb wr g b m4 A T p x2 k) (fun _ i _ => 32 - (intOf i).toNat)
  case atStart => exact ⟨0, by omega, rfl, rfl, R0.out⟩
  case round =>
    obtain ⟨k, hk, rfl, rfl, hr⟩ := hrel
    have X := hide hr
    clear hr
    by_cases hlt : k < 32
    · obtain ⟨i, hi⟩ : ∃ i, i = p + k := ⟨_, rfl⟩
      have hi' : (p : Int) + (k : Int) = (i : Int) := by omega
      have il : i ≤ 5000 := by omega
      obtain ⟨j, hj⟩ : ∃ j, j = i / 8 := ⟨_, rfl⟩
      have hj' : (i : Int) / 8 = (j : Int) := by omega
      obtain ⟨r, hr⟩ : ∃ r, r = i % 8 := ⟨_, rfl⟩
      have hr' : (i : Int) % 8 = (r : Int) := by omega
      have r8 : r < 8 := by omega
      by_cases hbit : x2 / 2 ^ k % 2 = 1
      · have hb1 := word_yes x2 k f2 hbit
        have HB := hide hbit
        by_cases hin : i < 2016
        · have hjl : j < 252 := by omega
          obtain ⟨c, hc⟩ : ∃ c, (turnTo A p x2 k)[j]? = some c := ⟨_, List.getElem?_eq_getElem (by rw [turn_length, LA.out]; exact hjl)⟩
          have hcell := X.out.buf.row.at? (k := j) (c := c) (by rw [List.getElem?_append_left (by rw [turn_length, LA.out]; exact hjl)]; exact hc)
          rw [Nat.zero_add] at hcell
          have hfr := X.out.buf.loose j (by rw [List.length_append, turn_length, LA.out]; omega)
          have hx := flip_byte c r r8
          have NX := X.out.next LA.out hbit (by omega) (c := c) (by rw [← hi, ← hj]; exact hc)
          rw [← hi, ← hj, ← hr] at NX
          have TN := hide (turned_next (n := 252) hbit (show p + k < 8 * 252 by omega))
          have NX' := hide NX
          obtain ⟨d, hd⟩ : ∃ d, d = c ^^^ UInt8.ofNat (2 ^ r) := ⟨_, rfl⟩
          rw [← hd] at hx NX'
          clear hi hj hr NX hc hbit hd
          go_wp2_with fail
          go_roundw
          case rel => exact ⟨k + 1, by omega, by go_num, by rw [TN.out], NX'.out⟩
          case measure => simp [intOf]; omega
        · have NX' := hide (X.out.skip LA.out (show ¬ (x2 / 2 ^ k % 2 = 1 ∧ p + k < 8 * 252) by omega))
          have TN := hide (turned_skip (show ¬ (x2 / 2 ^ k % 2 = 1 ∧ p + k < 8 * 252) by omega))
          clear hi hj hr hbit
          go_wp2_with fail
          go_roundw
          case rel => exact ⟨k + 1, by omega, by go_num, by rw [TN.out], NX'.out⟩
          case measure => simp [intOf]; omega
      · have hb1 := word_no x2 k f2 hbit
        have NX' := hide (X.out.skip LA.out (show ¬ (x2 / 2 ^ k % 2 = 1 ∧ p + k < 8 * 252) by omega))
        have TN := hide (turned_skip (show ¬ (x2 / 2 ^ k % 2 = 1 ∧ p + k < 8 * 252) by omega))
        clear hi hj hr hbit
        go_wp2_with fail
        go_roundw
        case rel => exact ⟨k + 1, by omega, by go_num, by rw [TN.out], NX'.out⟩
        case measure => simp [intOf]; omega
    · obtain rfl : k = 32 := by omega
      have hrow := X.out.buf.row
      have hbg : b ≠ g := X.out.far.symm
      have hS := X.out.und.1
      by_cases hz : turnD 252 p x2 32 = 0
      · have ht : turned 252 p x2 32 = false := by unfold turned; rw [hz]; rfl
        rw [turn_none A p x2 32 (by rw [LA.out]; exact hz), ← hAT2.out] at hrow
        have GT := hide (get_bytes g b 256 m4 x0 wr hS hrow hbg (by omega) OK.out)
        rw [ht]
        clear ht hz hrow hS
        go_wp2_with fail
        refine GT.out.mono ?_
        rintro e w7 ⟨pv, rfl, hpv, ⟨m7, hs7⟩, hg7⟩
        obtain ⟨kd, no, ep, lk, cs⟩ := x0
        obtain ⟨A', cc, rfl, hcv⟩ := PV.form hpv
        have V7 := hide (X.out.und.grown hs7 hg7)
        have C7 := hide hcv
        clear hs7 hg7 hpv hcv GT
        go_upto_region 16 with fail
        obtain ⟨w8, hw8⟩ : ∃ w8, w8 = w7.alloc (.cells #[.int .i64 kd, .int .i64 no, .int .i64 ep, .int .i64 lk, .slice A' cs.length cc] 58) := ⟨_, rfl⟩
        have N8 : Below w7.heap.size w7 w8 := by rw [hw8]; exact (Below.refl _ _).alloc (Nat.le_refl _) _
        have Q8 : Blk w8 w7.heap.size 58 #[.int .i64 kd, .int .i64 no, .int .i64 ep, .int .i64 lk, .slice A' cs.length cc] := by rw [hw8]; exact Blk.new _ _ _
        have V8 := hide (V7.out.below N8)
        obtain ⟨PV8, RS8, BK8, _⟩ := BF.out _ _ _ V8.out
        obtain ⟨⟨a0, a1, a2, a3, a4⟩, _⟩ := page_cells BK8
        obtain ⟨⟨q0, q1, q2, q3, q4⟩, _⟩ := page_cells Q8
        have SM0 := ref_same g g _ _ _ _ w8 PV8 (show PV w8 g (.agg #[.int .i64 kd, .int .i64 no, .int .i64 ep, .int .i64 lk, .slice A' cs.length cc]) ⟨kd, no, ep, lk, cs⟩ from ⟨_, rfl, C7.out.below N8⟩)
        rw [sameB_refl] at SM0
        have SM := hide SM0
        rw [← hw8]
        clear PV8 RS8 BK8 N8 Q8 SM0 hw8 V7 C7
        go_wp2_with fail
        refine SM.out.mono ?_
        rintro e w9 ⟨rfl, hb⟩
        have V9 := hide (V8.out.below hb)
        clear hb
        go_wp2_with fail
        go_ret
        exact ⟨rfl, (BF.out _ _ _ V9.out).2.2.2⟩
      · have ht : turned 252 p x2 32 = true := by unfold turned; simpa using hz
        have hl := turn_length A p x2 32
        have hlT : T.length = 4 := by rw [HT.out]; rfl
        have hXl : (turnTo A p x2 32 ++ T).length = 256 := by rw [List.length_append, hl, LA.out, hlT]
        have hne : Crc.crc ((turnTo A p x2 32 ++ T).take 252) ≠ getTo (turnTo A p x2 32 ++ T) 252 4 := by
          have e1 : (turnTo A p x2 32 ++ T).take 252 = turnTo A p x2 32 := by
            rw [show (252 : Nat) = (turnTo A p x2 32).length by rw [hl, LA.out]]; exact List.take_left
          have e2 := getTo_right (A := turnTo A p x2 32) (B := T) (n := 252) (o := 0) (by rw [hl, LA.out]) 4
          have e3 : getTo (turnTo A p x2 32 ++ T) 252 4 = getTo T 0 4 := e2
          rw [e1, e3, HT.out, four_back _ (by have := Crc.crc_lt A; omega)]
          intro h
          have := (crc_turn A p x2 (by rw [LA.out]; omega)).1 h
          rw [LA.out] at this
          exact hz this
        have GT := hide (get_sum g b 256 m4 _ wr hS hrow hXl hbg (by omega) hne)
        rw [ht]
        clear ht hz hrow hS hne hXl hl
        go_wp2_with fail
        refine GT.out.mono ?_
        rintro e w7 ⟨rfl, ⟨m7, hs7⟩, hg7⟩
        unfold zpg
        have V7 := hide (X.out.und.grown hs7 hg7)
        clear hs7 hg7 GT
        go_upto_region 16 with fail
        obtain ⟨w8, hw8⟩ : ∃ w8, w8 = w7.alloc (.cells #[.int .i64 0, .int .i64 0, .int .i64 0, .int .i64 0, .slice none 0 0] 58) := ⟨_, rfl⟩
        have N8 : Below w7.heap.size w7 w8 := by rw [hw8]; exact (Below.refl _ _).alloc (Nat.le_refl _) _
        have Q8 : Blk w8 w7.heap.size 58 #[.int .i64 0, .int .i64 0, .int .i64 0, .int .i64 0, .slice none 0 0] := by rw [hw8]; exact Blk.new _ _ _
        have V8 := hide (V7.out.below N8)
        obtain ⟨⟨q0, q1, q2, q3, q4⟩, _⟩ := page_cells Q8
        have SM0 := ref_same g g _ _ _ _ w8 (zpg_pv w8 g) (zpg_pv w8 g)
        rw [sameB_refl] at SM0
        unfold zpg at SM0
        have SM := hide SM0
        rw [show w7.alloc (.cells #[.int .i64 0, .int .i64 0, .int .i64 0, .int .i64 0, .slice none 0 0] 58) = w8 from hw8.symm]
        clear N8 Q8 SM0 hw8 V7
        go_wp2_with fail
        refine SM.out.mono ?_
        rintro e w9 ⟨rfl, hb⟩
        have V9 := hide (V8.out.below hb)
        clear hb
        go_wp2_with fail
        go_ret
        exact ⟨rfl, (BF.out _ _ _ V9.out).2.2.2⟩
end Go.Proofs.Ytljfomgcoodjkaa
