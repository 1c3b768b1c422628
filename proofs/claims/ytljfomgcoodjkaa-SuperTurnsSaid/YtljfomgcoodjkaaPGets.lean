/- A page that is got of any bytes has these bytes; else it is told why there is none: the law's walk. -/
import Derived.Test.YtljfomgcoodjkaaPApart
import Derived.BigRegion
namespace Go.Proofs.Ytljfomgcoodjkaa
open Go.RowKit

/-- What has been got, as data. -/
def GotData (xs : List UInt8) (er : Int) (p : Pg) : Prop :=
  (er = 0 ∧ Crc.crc (xs.take 252) = getTo xs 252 4 ∧ goodB xs ∧ p = pgOf xs) ∨ (er = 42 ∧ Crc.crc (xs.take 252) ≠ getTo xs 252 4 ∧ p = ⟨0, 0, 0, 0, []⟩) ∨ (er = 41 ∧ Crc.crc (xs.take 252) = getTo xs 252 4 ∧ p = ⟨0, 0, 0, 0, []⟩)
theorem got_pv {w : World} {g : Nat} {xs : List UInt8} {pv : Value} {er : Int} (h : GotPage w g xs pv er) : ∃ kd no ep lk cs, PV w g pv ⟨kd, no, ep, lk, cs⟩ ∧ GotData xs er ⟨kd, no, ep, lk, cs⟩ := by
  rcases h with ⟨h1, h2, h3, h4⟩ | ⟨h1, h2, rfl⟩ | ⟨h1, h2, _, rfl⟩
  · exact ⟨_, _, _, _, _, h4, .inl ⟨h1, h2, h3, rfl⟩⟩
  · exact ⟨0, 0, 0, 0, [], zpg_pv w g, .inr (.inl ⟨h1, h2, rfl⟩)⟩
  · exact ⟨0, 0, 0, 0, [], zpg_pv w g, .inr (.inr ⟨h1, h2, rfl⟩)⟩
set_option maxRecDepth 100000 in
theorem four_get (l : List UInt8) (hl : l.length = 4) (v : Nat) (hv : v < 4294967296) : l = four v ↔ v = getTo l 0 4 := by
  constructor
  · intro h; rw [h]; exact (four_back v (by omega)).symm
  · intro h
    match l, hl with
    | [a, b, c, d], _ =>
      have ha := a.toNat_lt
      have hb := b.toNat_lt
      have hc := c.toNat_lt
      have hd := d.toNat_lt
      simp [getTo] at h
      have e : ∀ (x : UInt8) (n : Nat), n % 256 = x.toNat → UInt8.ofNat n = x := fun x n h => by
        rw [← UInt8.toNat_inj, UInt8.toNat_ofNat']; omega
      unfold four
      rw [e a _ (by omega), e b _ (by omega), e c _ (by omega), e d _ (by omega)]
set_option maxRecDepth 100000 in
theorem tail_cmp (B : ByteArray) (hB : B.size = 256) (v : Nat) (hv : v < 4294967296) : ((B.extract 252 256).toList == (strOf (four v)).toList) = decide (v = getTo B.data.toList 252 4) := by
  have hX : B.data.toList.length = 256 := by simpa using hB
  have hd : (B.extract 252 256).data.toList = B.data.toList.drop 252 := by
    simp
    rw [List.take_of_length_le]
    rw [List.length_drop]; omega
  have e1 : B.extract 252 256 = strOf (B.data.toList.drop 252) := by
    rw [← hd]; exact (str_id _).symm
  have e2 := getTo_right (A := B.data.toList.take 252) (B := B.data.toList.drop 252) (n := 252) (o := 0) (by rw [List.length_take]; omega) 4
  rw [List.take_append_drop] at e2
  have e3 : getTo B.data.toList 252 4 = getTo (B.data.toList.drop 252) 0 4 := e2
  have e4 := four_get (B.data.toList.drop 252) (by rw [List.length_drop]; omega) v hv
  rw [e1, toList_str, e3]
  exact decide_eq_decide.2 e4
theorem four_row (v : Nat) (hv : v < 4294967296) (w : World) : Row (w.alloc (.cells #[.int .u8 ((v : Int) / 16777216), .int .u8 ((v : Int) / 65536 % 256), .int .u8 ((v : Int) / 256 % 256), .int .u8 ((v : Int) % 256)] 5)) w.heap.size 0 (four v) := by
  refine row_of_block (heap_alloc_new w _) (four v) ?_
  show [_, _, _, _] = [bv _, bv _, bv _, bv _]
  simp only [bv, UInt8.toNat_ofNat']
  have e1 : (v : Int) / 16777216 = ((v / 16777216 % 2 ^ 8 : Nat) : Int) := by omega
  have e2 : (v : Int) / 65536 % 256 = ((v / 65536 % 2 ^ 8 : Nat) : Int) := by omega
  have e3 : (v : Int) / 256 % 256 = ((v / 256 % 2 ^ 8 : Nat) : Int) := by omega
  have e4 : (v : Int) % 256 = ((v % 2 ^ 8 : Nat) : Int) := by omega
  rw [e1, e2, e3, e4]
theorem four_conv (v : Nat) (hv : v < 4294967296) (w : World) : (convert 28 9 (.slice (some ⟨w.heap.size, 0, none⟩) 4 4)).run Try.prog (w.alloc (.cells #[.int .u8 ((v : Int) / 16777216), .int .u8 ((v : Int) / 65536 % 256), .int .u8 ((v : Int) / 256 % 256), .int .u8 ((v : Int) % 256)] 5)).drew =
    .ok (.string (strOf (four v))) (w.alloc (.cells #[.int .u8 ((v : Int) / 16777216), .int .u8 ((v : Int) / 65536 % 256), .int .u8 ((v : Int) / 256 % 256), .int .u8 ((v : Int) % 256)] 5)).drew :=
  conv_back (four_row v hv w).drew (four_length v)

set_option maxRecDepth 100000 in
set_option maxHeartbeats 1600000 in
theorem gets_sealed {w : World} (b : ByteArray) (hb600 : b.size ≤ 600) (hb252 : 252 ≤ b.size) :
    Calls Try.prog 12 #[.string b, .bool true] w fun e w' => e = .returned (.bool true) ∧ Below w.heap.size w w' := by
  have hi1 : (b.size : Int) ≤ 600 := by omega
  have hi2 : (252 : Int) ≤ (b.size : Int) := by omega
  go_enter Try.func12, Try.ntmps12
  go_wp2_with fail
  refine (new_any _).mono ?_
  rintro e w1 ⟨g, rfl, hu⟩
  have V1 := hide hu
  clear hu
  go_wp2_with fail
  refine (awake4 _).mono ?_
  rintro e w2 ⟨rfl, hb⟩
  have V2 := hide (V1.out.below hb)
  clear hb V1
  obtain ⟨s, hs⟩ : ∃ s, s = b.extract 0 252 := ⟨_, rfl⟩
  have hs1 : s.size ≤ 1000 := by rw [hs]; simp; omega
  have hsd : s.data.toList = b.data.toList.take 252 := by rw [hs]; simp
  have RO := hide (ref_of s w2 hs1)
  have hcl := Crc.crc_lt s.data.toList
  obtain ⟨v, hv⟩ : ∃ v, v = Crc.crc s.data.toList := ⟨_, rfl⟩
  rw [← hv] at RO hcl
  have EV := hide hv
  have ES := hide hs
  have ED := hide hsd
  rw [hs] at RO
  clear hv hs hsd
  go_wp2_with fail
  refine RO.out.mono ?_
  rintro e w3 ⟨rfl, hb⟩
  have V3 := hide (V2.out.below hb)
  clear hb V2 RO
  have hvi : (v : Int) < 4294967296 := by omega
  have cv := four_conv v hcl w3
  go_upto_region 6 with fail
  have hz1 : (b.extract 0 252).size = 252 := by simp; omega
  have hz2 : (strOf (four v)).size = 4 := strOf_size _
  go_region
  have ecat : b.extract 0 252 ++ strOf (four v) = strOf (b.data.toList.take 252 ++ four v) := by rw [str_cat]; congr 2; simp
  rw [ecat]
  have V4 := hide (V3.out.below (show Below w3.heap.size w3 (w3.alloc (Obj.cells #[.int .u8 ((v : Int) / 16777216), .int .u8 ((v : Int) / 65536 % 256), .int .u8 ((v : Int) / 256 % 256), .int .u8 ((v : Int) % 256)] 5)).drew from ((Below.refl _ _).alloc (Nat.le_refl _) _).drew))
  obtain ⟨B, hBe⟩ : ∃ B, B = strOf (b.data.toList.take 252 ++ four v) := ⟨_, rfl⟩
  have hB : B.size = 256 := by rw [hBe, strOf_size, List.length_append, List.length_take, four_length]; simp; omega
  rw [← hBe]
  obtain ⟨w4, hw4⟩ : ∃ w4, w4 = (w3.alloc (Obj.cells #[.int .u8 ((v : Int) / 16777216), .int .u8 ((v : Int) / 65536 % 256), .int .u8 ((v : Int) / 256 % 256), .int .u8 ((v : Int) % 256)] 5)).drew := ⟨_, rfl⟩
  rw [← hw4] at V4 ⊢
  have VR := V4
  clear hw4 hBe ecat V3 V4 cv hvi hz1 hz2 hcl EV ES ED hs1
  have hB2 : (B.size : Int) = 256 := by omega
  have hX : B.data.toList.length = 256 := by simpa using hB
  go_wp2_with (with_reducible refine wpList_to_bytes rfl _ rfl _ rfl ?_; intro bb c w5 hby)
  have hc : 256 ≤ c := by have := hby.room; omega
  have hbg : bb ≠ g := by have := VR.out.1.lt; have := hby.new; omega
  have V5 := hide (VR.out.below hby.below)
  have R5 := hide hby.row
  clear hby VR
  refine (get_page g bb c _ B.data.toList w5 V5.out.1 R5.out hX hbg hc).mono ?_
  rintro e w6 ⟨pv, er, rfl, hgot, ⟨m6, hs6⟩, hg6⟩
  have V6 := hide (V5.out.grown hs6 hg6)
  obtain ⟨kd, no, ep, lk, cs, hPV, hgx⟩ := got_pv hgot
  obtain ⟨A, cc, rfl, hcv⟩ := PV.form hPV
  have C6 := hide hcv
  have HG := hide hgx
  clear hs6 hg6 hgot hcv hPV hgx V5 R5 hbg hc
  go_upto_region 8 with fail
  obtain ⟨w8, hw8⟩ : ∃ w8, w8 = w6.alloc (.cells #[.int .i64 kd, .int .i64 no, .int .i64 ep, .int .i64 lk, .slice A cs.length cc] 58) := ⟨_, rfl⟩
  have N8 : Below w6.heap.size w6 w8 := by rw [hw8]; exact (Below.refl _ _).alloc (Nat.le_refl _) _
  have Q8' : Blk w8 w6.heap.size 58 #[.int .i64 kd, .int .i64 no, .int .i64 ep, .int .i64 lk, .slice A cs.length cc] := by rw [hw8]; exact Blk.new _ _ _
  have V8 := hide (V6.out.below N8)
  have C8 := hide (C6.out.below N8)
  obtain ⟨q, hq⟩ : ∃ q, q = w6.heap.size := ⟨_, rfl⟩
  rw [← hq] at Q8'
  have Q8 := hide Q8'
  rw [← hw8, ← hq]
  clear N8 Q8' hw8 hq V6 C6
  have hs1 : (B.extract 0 252).size ≤ 1000 := by simp; omega
  have RO := hide (ref_of (B.extract 0 252) w8 hs1)
  have hcl := Crc.crc_lt (B.extract 0 252).data.toList
  have hsd : (B.extract 0 252).data.toList = B.data.toList.take 252 := by simp
  rw [hsd] at RO hcl
  obtain ⟨u, hv⟩ : ∃ u, u = Crc.crc (B.data.toList.take 252) := ⟨_, rfl⟩
  rw [← hv] at RO hcl
  have EV := hide hv
  clear hv hsd hs1
  go_wp2_with fail
  refine RO.out.mono ?_
  rintro e w9 ⟨rfl, hb⟩
  have V9 := hide (V8.out.below hb)
  have C9 := hide (C8.out.below hb)
  have Q9 := hide (Q8.out.below hb Q8.out.lt)
  clear hb V8 C8 Q8 RO
  have hvi : (u : Int) < 4294967296 := by omega
  have cv := four_conv u hcl w9
  have ecmp : ((B.extract 252 256).toList == (strOf (four u)).toList) = decide (u = getTo B.data.toList 252 4) := tail_cmp B hB u hcl
  go_upto_region 11 with fail
  by_cases hu : u = getTo B.data.toList 252 4
  case neg =>
    rw [decide_eq_false hu] at ecmp
    have HC : ¬ Crc.crc (B.data.toList.take 252) = getTo B.data.toList 252 4 := by rw [← EV.out]; exact hu
    rcases HG.out with ⟨_, h, _⟩ | ⟨rfl, _, hp⟩ | ⟨_, h, _⟩
    · exact (HC h).elim
    rotate_left
    · exact (HC h).elim
    injection hp with e1 e2 e3 e4 e5
    subst e1 e2 e3 e4 e5
    clear HC hu HG EV
    go_region
    obtain ⟨w10, hw10⟩ : ∃ w10, w10 = (w9.alloc (Obj.cells #[.int .u8 ((u : Int) / 16777216), .int .u8 ((u : Int) / 65536 % 256), .int .u8 ((u : Int) / 256 % 256), .int .u8 ((u : Int) % 256)] 5)).drew := ⟨_, rfl⟩
    have N10 : Below w9.heap.size w9 w10 := by rw [hw10]; exact ((Below.refl _ _).alloc (Nat.le_refl _) _).drew
    rw [← hw10]
    have V10 := hide (V9.out.below N10)
    have C10 := C9.out.below N10
    obtain ⟨⟨q0, q1, q2, q3, q4⟩, _⟩ := page_cells (Q9.out.below N10 Q9.out.lt)
    have SM0 := ref_same g g _ _ _ _ w10 (show PV w10 g (.agg #[.int .i64 0, .int .i64 0, .int .i64 0, .int .i64 0, .slice A 0 cc]) ⟨0, 0, 0, 0, []⟩ from ⟨_, rfl, C10⟩) (zpg_pv w10 g)
    rw [sameB_refl] at SM0
    have SM := hide SM0
    clear SM0 C10 N10 hw10 cv ecmp C9 Q9 V9
    go_wp2_with fail
    refine SM.out.mono ?_
    rintro e w11 ⟨rfl, hb⟩
    have V11 := hide (V10.out.below hb)
    clear hb
    go_wp2_with fail
    go_ret
    exact ⟨rfl, V11.out.2.1⟩
  rw [decide_eq_true hu] at ecmp
  have HC : Crc.crc (B.data.toList.take 252) = getTo B.data.toList 252 4 := by rw [← EV.out]; exact hu
  rcases HG.out with ⟨rfl, _, hgd, hp⟩ | ⟨_, h, _⟩ | ⟨rfl, _, hp⟩
  · obtain ⟨hok, hbt⟩ := good_ok hgd
    rw [← hp] at hok hbt
    clear HC hu HG EV hp hgd
    go_region
    obtain ⟨w10, hw10⟩ : ∃ w10, w10 = (w9.alloc (Obj.cells #[.int .u8 ((u : Int) / 16777216), .int .u8 ((u : Int) / 65536 % 256), .int .u8 ((u : Int) / 256 % 256), .int .u8 ((u : Int) % 256)] 5)).drew := ⟨_, rfl⟩
    have N10 : Below w9.heap.size w9 w10 := by rw [hw10]; exact ((Below.refl _ _).alloc (Nat.le_refl _) _).drew
    rw [← hw10]
    have V10 := hide (V9.out.below N10)
    have C10 := C9.out.below N10
    obtain ⟨⟨q0, q1, q2, q3, q4⟩, _⟩ := page_cells (Q9.out.below N10 Q9.out.lt)
    have hl118 : cs.length ≤ 300 := by
      have h := ((fits_iff _).1 hok.1).1
      unfold room at h
      dsimp only at h
      omega
    have RP0 := ref_put_page g _ ⟨kd, no, ep, lk, cs⟩ w10 (show PV w10 g (.agg #[.int .i64 kd, .int .i64 no, .int .i64 ep, .int .i64 lk, .slice A cs.length cc]) ⟨kd, no, ep, lk, cs⟩ from ⟨_, rfl, C10⟩) hl118
    rw [hbt, str_id] at RP0
    have RP := hide RP0
    have HOK := hide hok
    clear RP0 C10 N10 hw10 cv ecmp C9 Q9 V9 hok hbt
    go_wp2_with fail
    refine RP.out.mono ?_
    rintro e w11 ⟨⟨s, er, rfl, hse⟩, hb⟩
    have V11 := hide (V10.out.below hb)
    rcases hse with ⟨_, rfl, rfl⟩ | ⟨h, _⟩
    · clear hb
      go_wp2_with fail
      go_ret
      exact ⟨rfl, V11.out.2.1⟩
    · exact (h HOK.out).elim
  · exact (h HC).elim
  · injection hp with e1 e2 e3 e4 e5
    subst e1 e2 e3 e4 e5
    clear HC hu HG EV
    go_region
    obtain ⟨w10, hw10⟩ : ∃ w10, w10 = (w9.alloc (Obj.cells #[.int .u8 ((u : Int) / 16777216), .int .u8 ((u : Int) / 65536 % 256), .int .u8 ((u : Int) / 256 % 256), .int .u8 ((u : Int) % 256)] 5)).drew := ⟨_, rfl⟩
    have N10 : Below w9.heap.size w9 w10 := by rw [hw10]; exact ((Below.refl _ _).alloc (Nat.le_refl _) _).drew
    rw [← hw10]
    have V10 := hide (V9.out.below N10)
    have C10 := C9.out.below N10
    obtain ⟨⟨q0, q1, q2, q3, q4⟩, _⟩ := page_cells (Q9.out.below N10 Q9.out.lt)
    have SM0 := ref_same g g _ _ _ _ w10 (show PV w10 g (.agg #[.int .i64 0, .int .i64 0, .int .i64 0, .int .i64 0, .slice A 0 cc]) ⟨0, 0, 0, 0, []⟩ from ⟨_, rfl, C10⟩) (zpg_pv w10 g)
    rw [sameB_refl] at SM0
    have SM := hide SM0
    clear SM0 C10 N10 hw10 cv ecmp C9 Q9 V9
    go_wp2_with fail
    refine SM.out.mono ?_
    rintro e w11 ⟨rfl, hb⟩
    have V11 := hide (V10.out.below hb)
    clear hb
    go_wp2_with fail
    go_ret
    exact ⟨rfl, V11.out.2.1⟩

set_option maxRecDepth 100000 in
set_option maxHeartbeats 1600000 in
theorem gets_plain {w : World} (B : ByteArray) (hB : B.size = 256) :
    Calls Try.prog 12 #[.string B, .bool false] w fun e w' => e = .returned (.bool true) ∧ Below w.heap.size w w' := by
  have hB1 : (B.size : Int) = 256 := by omega
  go_enter Try.func12, Try.ntmps12
  go_wp2_with fail
  refine (new_any _).mono ?_
  rintro e w1 ⟨g, rfl, hu⟩
  have V1 := hide hu
  clear hu
  go_wp2_with fail
  refine (awake4 _).mono ?_
  rintro e w2 ⟨rfl, hb⟩
  have VR := hide (V1.out.below hb)
  clear hb V1
  have hX : B.data.toList.length = 256 := by simpa using hB
  go_wp2_with (with_reducible refine wpList_to_bytes rfl _ rfl _ rfl ?_; intro bb c w5 hby)
  have hc : 256 ≤ c := by have := hby.room; omega
  have hbg : bb ≠ g := by have := VR.out.1.lt; have := hby.new; omega
  have V5 := hide (VR.out.below hby.below)
  have R5 := hide hby.row
  clear hby VR
  refine (get_page g bb c _ B.data.toList w5 V5.out.1 R5.out hX hbg hc).mono ?_
  rintro e w6 ⟨pv, er, rfl, hgot, ⟨m6, hs6⟩, hg6⟩
  have V6 := hide (V5.out.grown hs6 hg6)
  obtain ⟨kd, no, ep, lk, cs, hPV, hgx⟩ := got_pv hgot
  obtain ⟨A, cc, rfl, hcv⟩ := PV.form hPV
  have C6 := hide hcv
  have HG := hide hgx
  clear hs6 hg6 hgot hcv hPV hgx V5 R5 hbg hc
  go_upto_region 8 with fail
  obtain ⟨w8, hw8⟩ : ∃ w8, w8 = w6.alloc (.cells #[.int .i64 kd, .int .i64 no, .int .i64 ep, .int .i64 lk, .slice A cs.length cc] 58) := ⟨_, rfl⟩
  have N8 : Below w6.heap.size w6 w8 := by rw [hw8]; exact (Below.refl _ _).alloc (Nat.le_refl _) _
  have Q8' : Blk w8 w6.heap.size 58 #[.int .i64 kd, .int .i64 no, .int .i64 ep, .int .i64 lk, .slice A cs.length cc] := by rw [hw8]; exact Blk.new _ _ _
  have V8 := hide (V6.out.below N8)
  have C8 := hide (C6.out.below N8)
  obtain ⟨q, hq⟩ : ∃ q, q = w6.heap.size := ⟨_, rfl⟩
  rw [← hq] at Q8'
  have Q8 := hide Q8'
  rw [← hw8, ← hq]
  clear N8 Q8' hw8 hq V6 C6
  have hs1 : (B.extract 0 252).size ≤ 1000 := by simp; omega
  have RO := hide (ref_of (B.extract 0 252) w8 hs1)
  have hcl := Crc.crc_lt (B.extract 0 252).data.toList
  have hsd : (B.extract 0 252).data.toList = B.data.toList.take 252 := by simp
  rw [hsd] at RO hcl
  obtain ⟨u, hv⟩ : ∃ u, u = Crc.crc (B.data.toList.take 252) := ⟨_, rfl⟩
  rw [← hv] at RO hcl
  have EV := hide hv
  clear hv hsd hs1
  go_wp2_with fail
  refine RO.out.mono ?_
  rintro e w9 ⟨rfl, hb⟩
  have V9 := hide (V8.out.below hb)
  have C9 := hide (C8.out.below hb)
  have Q9 := hide (Q8.out.below hb Q8.out.lt)
  clear hb V8 C8 Q8 RO
  have hvi : (u : Int) < 4294967296 := by omega
  have cv := four_conv u hcl w9
  have ecmp : ((B.extract 252 256).toList == (strOf (four u)).toList) = decide (u = getTo B.data.toList 252 4) := tail_cmp B hB u hcl
  go_upto_region 11 with fail
  by_cases hu : u = getTo B.data.toList 252 4
  case neg =>
    rw [decide_eq_false hu] at ecmp
    have HC : ¬ Crc.crc (B.data.toList.take 252) = getTo B.data.toList 252 4 := by rw [← EV.out]; exact hu
    rcases HG.out with ⟨_, h, _⟩ | ⟨rfl, _, hp⟩ | ⟨_, h, _⟩
    · exact (HC h).elim
    rotate_left
    · exact (HC h).elim
    injection hp with e1 e2 e3 e4 e5
    subst e1 e2 e3 e4 e5
    clear HC hu HG EV
    go_region
    obtain ⟨w10, hw10⟩ : ∃ w10, w10 = (w9.alloc (Obj.cells #[.int .u8 ((u : Int) / 16777216), .int .u8 ((u : Int) / 65536 % 256), .int .u8 ((u : Int) / 256 % 256), .int .u8 ((u : Int) % 256)] 5)).drew := ⟨_, rfl⟩
    have N10 : Below w9.heap.size w9 w10 := by rw [hw10]; exact ((Below.refl _ _).alloc (Nat.le_refl _) _).drew
    rw [← hw10]
    have V10 := hide (V9.out.below N10)
    have C10 := C9.out.below N10
    obtain ⟨⟨q0, q1, q2, q3, q4⟩, _⟩ := page_cells (Q9.out.below N10 Q9.out.lt)
    have SM0 := ref_same g g _ _ _ _ w10 (show PV w10 g (.agg #[.int .i64 0, .int .i64 0, .int .i64 0, .int .i64 0, .slice A 0 cc]) ⟨0, 0, 0, 0, []⟩ from ⟨_, rfl, C10⟩) (zpg_pv w10 g)
    rw [sameB_refl] at SM0
    have SM := hide SM0
    clear SM0 C10 N10 hw10 cv ecmp C9 Q9 V9
    go_wp2_with fail
    refine SM.out.mono ?_
    rintro e w11 ⟨rfl, hb⟩
    have V11 := hide (V10.out.below hb)
    clear hb
    go_wp2_with fail
    go_ret
    exact ⟨rfl, V11.out.2.1⟩
  rw [decide_eq_true hu] at ecmp
  have HC : Crc.crc (B.data.toList.take 252) = getTo B.data.toList 252 4 := by rw [← EV.out]; exact hu
  rcases HG.out with ⟨rfl, _, hgd, hp⟩ | ⟨_, h, _⟩ | ⟨rfl, _, hp⟩
  · obtain ⟨hok, hbt⟩ := good_ok hgd
    rw [← hp] at hok hbt
    clear HC hu HG EV hp hgd
    go_region
    obtain ⟨w10, hw10⟩ : ∃ w10, w10 = (w9.alloc (Obj.cells #[.int .u8 ((u : Int) / 16777216), .int .u8 ((u : Int) / 65536 % 256), .int .u8 ((u : Int) / 256 % 256), .int .u8 ((u : Int) % 256)] 5)).drew := ⟨_, rfl⟩
    have N10 : Below w9.heap.size w9 w10 := by rw [hw10]; exact ((Below.refl _ _).alloc (Nat.le_refl _) _).drew
    rw [← hw10]
    have V10 := hide (V9.out.below N10)
    have C10 := C9.out.below N10
    obtain ⟨⟨q0, q1, q2, q3, q4⟩, _⟩ := page_cells (Q9.out.below N10 Q9.out.lt)
    have hl118 : cs.length ≤ 300 := by
      have h := ((fits_iff _).1 hok.1).1
      unfold room at h
      dsimp only at h
      omega
    have RP0 := ref_put_page g _ ⟨kd, no, ep, lk, cs⟩ w10 (show PV w10 g (.agg #[.int .i64 kd, .int .i64 no, .int .i64 ep, .int .i64 lk, .slice A cs.length cc]) ⟨kd, no, ep, lk, cs⟩ from ⟨_, rfl, C10⟩) hl118
    rw [hbt, str_id] at RP0
    have RP := hide RP0
    have HOK := hide hok
    clear RP0 C10 N10 hw10 cv ecmp C9 Q9 V9 hok hbt
    go_wp2_with fail
    refine RP.out.mono ?_
    rintro e w11 ⟨⟨s, er, rfl, hse⟩, hb⟩
    have V11 := hide (V10.out.below hb)
    rcases hse with ⟨_, rfl, rfl⟩ | ⟨h, _⟩
    · clear hb
      go_wp2_with fail
      go_ret
      exact ⟨rfl, V11.out.2.1⟩
    · exact (h HOK.out).elim
  · exact (h HC).elim
  · injection hp with e1 e2 e3 e4 e5
    subst e1 e2 e3 e4 e5
    clear HC hu HG EV
    go_region
    obtain ⟨w10, hw10⟩ : ∃ w10, w10 = (w9.alloc (Obj.cells #[.int .u8 ((u : Int) / 16777216), .int .u8 ((u : Int) / 65536 % 256), .int .u8 ((u : Int) / 256 % 256), .int .u8 ((u : Int) % 256)] 5)).drew := ⟨_, rfl⟩
    have N10 : Below w9.heap.size w9 w10 := by rw [hw10]; exact ((Below.refl _ _).alloc (Nat.le_refl _) _).drew
    rw [← hw10]
    have V10 := hide (V9.out.below N10)
    have C10 := C9.out.below N10
    obtain ⟨⟨q0, q1, q2, q3, q4⟩, _⟩ := page_cells (Q9.out.below N10 Q9.out.lt)
    have SM0 := ref_same g g _ _ _ _ w10 (show PV w10 g (.agg #[.int .i64 0, .int .i64 0, .int .i64 0, .int .i64 0, .slice A 0 cc]) ⟨0, 0, 0, 0, []⟩ from ⟨_, rfl, C10⟩) (zpg_pv w10 g)
    rw [sameB_refl] at SM0
    have SM := hide SM0
    clear SM0 C10 N10 hw10 cv ecmp C9 Q9 V9
    go_wp2_with fail
    refine SM.out.mono ?_
    rintro e w11 ⟨rfl, hb⟩
    have V11 := hide (V10.out.below hb)
    clear hb
    go_wp2_with fail
    go_ret
    exact ⟨rfl, V11.out.2.1⟩

set_option maxRecDepth 100000 in
set_option maxHeartbeats 1600000 in
theorem gets_short {w : World} (B : ByteArray) (hB : B.size ≤ 600) (hn : B.size ≠ 256) :
    Calls Try.prog 12 #[.string B, .bool false] w fun e w' => e = .returned (.bool true) ∧ Below w.heap.size w w' := by
  have hB1 : (B.size : Int) ≤ 600 := by omega
  have hB2 : ((B.size : Int) != 256) = true := bne_yes (by omega)
  go_enter Try.func12, Try.ntmps12
  go_wp2_with fail
  refine (new_any _).mono ?_
  rintro e w1 ⟨g, rfl, hu⟩
  have V1 := hide hu
  clear hu
  go_wp2_with fail
  refine (awake4 _).mono ?_
  rintro e w2 ⟨rfl, hb⟩
  have V2 := hide (V1.out.below hb)
  clear hb V1
  go_wp2_with (with_reducible refine wpList_to_bytes rfl _ rfl _ rfl ?_; intro bb c w5 hby)
  have V5 := hide (V2.out.below hby.below)
  clear hby V2
  refine (get_short g B.size c _ w5 hn).mono ?_
  rintro e w6 ⟨rfl, hb⟩
  unfold zpg
  have V6 := hide (V5.out.below hb)
  clear hb V5
  go_upto_region 8 with fail
  obtain ⟨w8, hw8⟩ : ∃ w8, w8 = w6.alloc (.cells #[.int .i64 0, .int .i64 0, .int .i64 0, .int .i64 0, .slice none 0 0] 58) := ⟨_, rfl⟩
  have N8 : Below w6.heap.size w6 w8 := by rw [hw8]; exact (Below.refl _ _).alloc (Nat.le_refl _) _
  have Q8 : Blk w8 w6.heap.size 58 #[.int .i64 0, .int .i64 0, .int .i64 0, .int .i64 0, .slice none 0 0] := by rw [hw8]; exact Blk.new _ _ _
  have V8 := hide (V6.out.below N8)
  obtain ⟨q, hq⟩ : ∃ q, q = w6.heap.size := ⟨_, rfl⟩
  rw [← hq] at Q8
  rw [show w6.alloc (.cells #[.int .i64 0, .int .i64 0, .int .i64 0, .int .i64 0, .slice none 0 0] 58) = w8 from hw8.symm, ← hq]
  obtain ⟨⟨q0, q1, q2, q3, q4⟩, _⟩ := page_cells Q8
  have SM0 := ref_same g g _ _ _ _ w8 (zpg_pv w8 g) (zpg_pv w8 g)
  rw [sameB_refl] at SM0
  unfold zpg at SM0
  have SM := hide SM0
  clear SM0 N8 Q8 hw8 hq V6
  go_wp2_with fail
  refine SM.out.mono ?_
  rintro e w11 ⟨rfl, hb⟩
  have V11 := hide (V8.out.below hb)
  clear hb
  go_wp2_with fail
  go_ret
  exact ⟨rfl, V11.out.2.1⟩

set_option maxRecDepth 100000 in
set_option maxHeartbeats 1600000 in
theorem gets_small {w : World} (B : ByteArray) (hB : B.size ≤ 600) (hn : B.size ≠ 256) (hs : B.size < 252) :
    Calls Try.prog 12 #[.string B, .bool true] w fun e w' => e = .returned (.bool true) ∧ Below w.heap.size w w' := by
  have hB1 : (B.size : Int) ≤ 600 := by omega
  have hB2 : ((B.size : Int) != 256) = true := bne_yes (by omega)
  have hB3 : (B.size : Int) < 252 := by omega
  go_enter Try.func12, Try.ntmps12
  go_wp2_with fail
  refine (new_any _).mono ?_
  rintro e w1 ⟨g, rfl, hu⟩
  have V1 := hide hu
  clear hu
  go_wp2_with fail
  refine (awake4 _).mono ?_
  rintro e w2 ⟨rfl, hb⟩
  have V2 := hide (V1.out.below hb)
  clear hb V1
  go_wp2_with (with_reducible refine wpList_to_bytes rfl _ rfl _ rfl ?_; intro bb c w5 hby)
  have V5 := hide (V2.out.below hby.below)
  clear hby V2
  refine (get_short g B.size c _ w5 hn).mono ?_
  rintro e w6 ⟨rfl, hb⟩
  unfold zpg
  have V6 := hide (V5.out.below hb)
  clear hb V5
  go_upto_region 8 with fail
  obtain ⟨w8, hw8⟩ : ∃ w8, w8 = w6.alloc (.cells #[.int .i64 0, .int .i64 0, .int .i64 0, .int .i64 0, .slice none 0 0] 58) := ⟨_, rfl⟩
  have N8 : Below w6.heap.size w6 w8 := by rw [hw8]; exact (Below.refl _ _).alloc (Nat.le_refl _) _
  have Q8 : Blk w8 w6.heap.size 58 #[.int .i64 0, .int .i64 0, .int .i64 0, .int .i64 0, .slice none 0 0] := by rw [hw8]; exact Blk.new _ _ _
  have V8 := hide (V6.out.below N8)
  obtain ⟨q, hq⟩ : ∃ q, q = w6.heap.size := ⟨_, rfl⟩
  rw [← hq] at Q8
  rw [show w6.alloc (.cells #[.int .i64 0, .int .i64 0, .int .i64 0, .int .i64 0, .slice none 0 0] 58) = w8 from hw8.symm, ← hq]
  obtain ⟨⟨q0, q1, q2, q3, q4⟩, _⟩ := page_cells Q8
  have SM0 := ref_same g g _ _ _ _ w8 (zpg_pv w8 g) (zpg_pv w8 g)
  rw [sameB_refl] at SM0
  unfold zpg at SM0
  have SM := hide SM0
  clear SM0 N8 Q8 hw8 hq V6
  go_wp2_with fail
  refine SM.out.mono ?_
  rintro e w11 ⟨rfl, hb⟩
  have V11 := hide (V8.out.below hb)
  clear hb
  go_wp2_with fail
  go_ret
  exact ⟨rfl, V11.out.2.1⟩

set_option maxRecDepth 100000 in
set_option maxHeartbeats 1600000 in
theorem gets_long {w : World} (B : ByteArray) (x : Bool) (hm : B.size ≤ 9223372036854775807) (hB : 600 < B.size) :
    Calls Try.prog 12 #[.string B, .bool x] w fun e w' => e = .returned (.bool true) ∧ Below w.heap.size w w' := by
  have hB1 : (600 : Int) < (B.size : Int) := by omega
  go_enter Try.func12, Try.ntmps12
  go_wp2_with fail
  refine (new_any _).mono ?_
  rintro e w1 ⟨g, rfl, hu⟩
  have V1 := hide hu
  clear hu
  go_wp2_with fail
  refine (awake4 _).mono ?_
  rintro e w2 ⟨rfl, hb⟩
  have V2 := hide (V1.out.below hb)
  clear hb V1
  go_wp2_with fail
  refine (awake4 _).mono ?_
  rintro e w3 ⟨rfl, hb⟩
  have V3 := hide (V2.out.below hb)
  clear hb V2
  go_wp2_with fail
  go_ret
  exact ⟨rfl, V3.out.2.1⟩

theorem pageGets_walk {w : World} (x0 : ByteArray) (f0 : x0.size ≤ maxLen) (x1 : Bool) :
    Calls Try.prog 12 #[.string x0, .bool x1] w fun e w' => e = .returned (.bool true) ∧ Below w.heap.size w w' := by
  unfold maxLen at f0
  by_cases h : x0.size ≤ 600
  · cases x1 with
    | true =>
      by_cases h2 : 252 ≤ x0.size
      · exact gets_sealed x0 h h2
      · exact gets_small x0 h (by omega) (by omega)
    | false =>
      by_cases h2 : x0.size = 256
      · exact gets_plain x0 h2
      · exact gets_short x0 h h2
  · exact gets_long x0 x1 (by omega) (by omega)
end Go.Proofs.Ytljfomgcoodjkaa
