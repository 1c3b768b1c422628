/- The walk of SumDivides: the sum of any bytes is the rest of the document's division; the law returns true and nothing that was there has turned. -/
import Derived.Test.YtljfomgcoodjkaaRef2
namespace Go.Proofs.Ytljfomgcoodjkaa
open Go.RowKit

theorem right_bytes {w : World} {g b c : Nat} {n s : Int} {x : ByteArray} (hs : SumAt w g n) (hr : Row w b 0 x.data.toList) (hb : b ≠ g) (hlen : x.size ≤ 9223372036854775807) :
    Calls Try.prog 25 #[.pointer (some ⟨g, 0, none⟩), .slice (some ⟨b, 0, none⟩) x.size c, .int .u32 s] w fun e w' => e = .returned (.bool ((Crc.crc x.data.toList : Int) == s)) ∧ SumUp w' g (wrap64 (n + x.size)) ∧ w.grownBy w' (some g) := by
  have e : x.data.toList.length = x.size := by simp
  have H := right_any g n _ _ s w hs (row_RBs (c := c) hr hb) (by rw [e]; exact hlen)
  rw [e] at H
  exact H

set_option maxRecDepth 100000 in
set_option maxHeartbeats 400000 in
theorem divides_short (a : ByteArray) (v : Nat) (w : World) (h5 : a.size ≤ 500) :
    Calls Try.prog 3 #[.string a, .int .u32 v] w fun e w' => e = .returned (.bool true) ∧ Below w.heap.size w w' := by
  have kc := conv28
  go_enter Try.func3, Try.ntmps3
  go_wp2_with fail
  refine (new_any _).mono ?_
  rintro e w1 ⟨g, rfl, hu⟩
  have U1 := hide hu
  clear hu
  go_wp2_with fail
  refine (awake2 _).mono ?_
  rintro e w2 ⟨rfl, hb⟩
  have U2 := hide (U1.out.below hb)
  clear hb
  go_wp2_with fail
  refine (ref_of a _ (by omega)).mono ?_
  rintro e w3 ⟨rfl, hb⟩
  have U3 := hide (U2.out.below hb)
  clear hb
  have B4 := hide (strW_bytes w3 a)
  have U4 := hide (U3.out.below B4.out.below)
  have n4 : w3.heap.size ≠ g := by have := U3.out.1.lt; omega
  go_wp2_with fail
  refine (of_bytes U4.out.1 B4.out.row n4 (by omega)).mono ?_
  rintro e w5 ⟨rfl, hup, hgr⟩
  have U5 := hide (U4.out.grown hup.at_ hgr)
  clear hup hgr
  have B6 := hide (strW_bytes w5 a)
  have U6 := hide (U5.out.below B6.out.below)
  have n6 : w5.heap.size ≠ g := by have := U5.out.1.lt; omega
  go_wp2_with fail
  refine (right_bytes U6.out.1 B6.out.row n6 (by omega)).mono ?_
  rintro e w7 ⟨rfl, hup, hgr⟩
  have U7 := hide (U6.out.grown hup.at_ hgr)
  clear hup hgr
  have B8 := hide (strW_bytes w7 a)
  have U8 := hide (U7.out.below B8.out.below)
  have n8 : w7.heap.size ≠ g := by have := U7.out.1.lt; omega
  have q : (((Crc.crc a.data.toList : Nat) : Int) == (v : Int)) = ((v : Int) == ((Crc.crc a.data.toList : Nat) : Int)) := by
    rw [Bool.eq_iff_iff, beq_iff_eq, beq_iff_eq]; exact eq_comm
  go_wp2_with fail
  refine (right_bytes U8.out.1 B8.out.row n8 (by omega)).mono ?_
  rintro e w9 ⟨rfl, hup, hgr⟩
  have U9 := hide (U8.out.grown hup.at_ hgr)
  clear hup hgr
  go_wp2_with fail
  go_ret
  exact ⟨by simp, U9.out.2.1⟩

set_option maxRecDepth 100000 in
set_option maxHeartbeats 400000 in
theorem divides_long (a : ByteArray) (v : Nat) (w : World) (_ha : a.size ≤ 9223372036854775807) (h : 500 < a.size) :
    Calls Try.prog 3 #[.string a, .int .u32 v] w fun e w' => e = .returned (.bool true) ∧ Below w.heap.size w w' := by
  go_enter Try.func3, Try.ntmps3
  go_wp2_with fail
  refine (new_any _).mono ?_
  rintro e w1 ⟨g, rfl, hu⟩
  have U1 := hide hu
  clear hu
  go_wp2_with fail
  refine (awake2 _).mono ?_
  rintro e w2 ⟨rfl, hb⟩
  have U2 := hide (U1.out.below hb)
  clear hb
  go_wp2_with fail
  refine (awake2 _).mono ?_
  rintro e w3 ⟨rfl, hb⟩
  have U3 := hide (U2.out.below hb)
  clear hb
  go_wp2_with fail
  go_ret
  exact ⟨rfl, U3.out.2.1⟩

theorem sumDivides_walk {w : World} (a : ByteArray) (ha : a.size ≤ maxLen) (v : Nat) (_hv : v ≤ 4294967295) :
    Calls Try.prog 3 #[.string a, .int .u32 v] w fun e w' => e = .returned (.bool true) ∧ Below w.heap.size w w' := by
  unfold maxLen at ha
  by_cases h : a.size ≤ 500
  · exact divides_short a v w h
  · exact divides_long a v w ha (by omega)
end Go.Proofs.Ytljfomgcoodjkaa
