/- page.Put of a page that may be: the page's bytes, in a buffer of the call's own. -/
import Derived.Test.YtljfomgcoodjkaaForm
import Derived.Deep.RegionWith
namespace Go.Proofs.Ytljfomgcoodjkaa
open Go.RowKit

/-- Where the cells' text begins, with k cells laid. -/
def endAt (cs : List ByteArray) (k : Nat) : Nat := 252 - (tl ((bytesOf cs).take k)).length
theorem sizes_of (cs : List ByteArray) : (bytesOf cs).map List.length = cs.map ByteArray.size := by
  unfold bytesOf; rw [List.map_map]; exact List.map_congr_left fun s _ => by simp
theorem roomL_of (cs : List ByteArray) : roomL (bytesOf cs) = room cs := by
  unfold roomL room tot; rw [tl_length, sizes_of, bytesOf_length]
theorem bytes_at (cs : List ByteArray) (k : Nat) (hk : k < cs.length) : (bytesOf cs)[k]'(by rw [bytesOf_length]; exact hk) = cs[k].data.toList := by
  unfold bytesOf; rw [List.getElem_map]
theorem end_step (cs : List ByteArray) (k : Nat) (hk : k < cs.length) (hr : room cs ≤ 236) :
    endAt cs (k + 1) + cs[k].size = endAt cs k ∧ endAt cs k ≤ 252 ∧ 16 + 2 * k ≤ endAt cs (k + 1) := by
  have h1 := tl_take (bytesOf cs) k (by rw [bytesOf_length]; exact hk)
  rw [bytes_at cs k hk] at h1
  have h2 := congrArg List.length h1
  have e : cs[k].data.toList.length = cs[k].size := by simp
  rw [List.length_append, e] at h2
  have h3 := tl_take_le (bytesOf cs) (k + 1)
  rw [← roomL_of] at hr
  unfold roomL at hr
  rw [bytesOf_length] at hr
  unfold endAt
  omega
/-- A page's bytes ahead of its sum; the page's bytes. -/
def bodyOf (kd no ep lk : Nat) (cs : List ByteArray) : List UInt8 := bodyTo (hdr kd no ep lk cs.length) (bytesOf cs) cs.length
def pageOf (kd no ep lk : Nat) (cs : List ByteArray) : List UInt8 := bodyOf kd no ep lk cs ++ four (Crc.crc (bodyOf kd no ep lk cs))

theorem over_step (h : List UInt8) (cs : List ByteArray) (k q e1 : Nat) (x : ByteArray) (hh : h.length = 14) (hk : k < cs.length) (hr : room cs ≤ 236) (hq : q = 14 + 2 * k) (he : e1 = endAt cs (k + 1)) (hx : x = cs[k]) :
    over (((bodyTo h (bytesOf cs) k ++ List.replicate 4 0).set q (UInt8.ofNat e1)).set (q + 1) (UInt8.ofNat x.size)) e1 x.data.toList = bodyTo h (bytesOf cs) (k + 1) ++ List.replicate 4 0 := by
  have H := body_step h (bytesOf cs) k (List.replicate 4 0) hh (by rw [bytesOf_length]; exact hk) (by rw [roomL_of]; exact hr)
  have e : x.data.toList.length = x.size := by simp
  rw [bytes_at cs k hk, ← hx, e] at H
  subst hq he
  unfold over
  rw [e]
  exact H

theorem Row.left {w : World} {b off : Nat} {xs ys : List UInt8} (h : Row w b off (xs ++ ys)) : Row w b off xs := fun i hi => by
  have := h i (by rw [List.length_append]; omega)
  rwa [List.getElem_append_left hi] at this
theorem body_len (kd no ep lk : Nat) (cs : List ByteArray) (hr : room cs ≤ 236) : (bodyOf kd no ep lk cs).length = 252 :=
  body_length _ _ _ (hdr_length _ _ _ _ _) (by rw [bytesOf_length]; omega) (by rw [roomL_of]; exact hr)
theorem page_len (kd no ep lk : Nat) (cs : List ByteArray) (hr : room cs ≤ 236) : (pageOf kd no ep lk cs).length = 256 := by
  unfold pageOf; rw [List.length_append, body_len _ _ _ _ _ hr]; rfl
theorem put_sum (A : List UInt8) (n : Nat) (h : A.length = 252) : putTo (A ++ List.replicate 4 0) 252 n 4 = A ++ four n := by
  have := put_rep A 0 n
  rw [h] at this
  simpa using this
theorem grown_new {a w w' : World} {g b : Nat} (h : a.grownBy w (some g)) (k : w.grownBy w' (some b)) (hb : a.heap.size ≤ b) : a.grownBy w' (some g) :=
  ⟨k.os.trans h.os, k.tape.trans h.tape, k.output.trans h.output, Nat.le_trans h.size k.size, fun i hi hne => (k.block i (Nat.lt_of_lt_of_le hi h.size) (fun e => by injection e; omega)).trans (h.block i hi hne)⟩

set_option maxRecDepth 100000 in
set_option maxHeartbeats 1600000 in
/-- 'page.Put', a page that may be. -/
theorem put_ok (g : Nat) (m : Int) (v : Value) (cs : List ByteArray) (kd no ep lk : Nat) (w : World) (hs : SumAt w g m) (h : PV w g v ⟨kd, no, ep, lk, cs⟩) (hf : fitsB cs = true)
    (h1 : 1 ≤ kd) (h2 : kd ≤ 255) (h3 : no ≤ 4294967295) (h4 : ep ≤ 4294967295) (h5 : lk ≤ 4294967295) :
    Calls Try.prog 36 #[.pointer (some ⟨g, 0, none⟩), v] w fun e w' => ∃ b, e = .returned (.tuple #[.slice (some ⟨b, 0, none⟩) 256 256, .int .i64 0]) ∧ w.heap.size ≤ b ∧ Buf w' b (pageOf kd no ep lk cs) ∧ (∃ m, SumAt w' g m) ∧ w.grownBy w' (some g) := by
  obtain ⟨hroom, hslim⟩ := (fits_iff cs).1 hf
  have hcl : cs.length ≤ 118 := by unfold room at hroom; omega
  obtain ⟨cv, rfl, hr⟩ := h
  obtain ⟨A, c, hv, _⟩ := hr.len
  subst hv
  have F := fun (w' : World) (hb : Below w.heap.size w w') => fits_any g _ cs w' (hr.below hb) (by omega) (fun s hx => Nat.le_trans (hslim s hx) (by omega))
  simp only [hf] at F
  have F' := hide F
  have HR := hide hr
  have HS := hide hs
  have HRM := hide hroom
  have HSL := hide hslim
  have mk := make256
  have hmx : mx3 (no : Int) ep lk 3 ≤ 4294967295 := (mx3_le _ _ _ _).2 (by omega)
  have hmn : 0 ≤ mn3 (no : Int) ep lk 3 := (mn3_ge _ _ _ _).2 (by omega)
  clear F hr hs hf hroom hslim
  go_enter Try.func36, Try.ntmps36
  go_wp2_with fail
  refine (F'.out _ (by exact ((Below.refl _ _).alloc (Nat.le_refl _) _).alloc (by simp) _)).mono ?_
  rintro e w' ⟨rfl, rfl⟩
  go_wp2_with fail
  refine (max_any _ _ (no : Int) ep lk _ (two_boxes_2 _ _ _ rfl) (two_boxes_2 _ _ _ rfl) (two_boxes_2 _ _ _ rfl)).mono ?_
  rintro e w' ⟨rfl, rfl⟩
  go_wp2_with fail
  refine (min_any _ _ (no : Int) ep lk _ (two_boxes_2 _ _ _ rfl) (two_boxes_2 _ _ _ rfl) (two_boxes_2 _ _ _ rfl)).mono ?_
  rintro e w' ⟨rfl, rfl⟩
  go_wp2_with fail
  have FW := put_start w kd no ep lk (.slice A cs.length c)
  obtain ⟨W3, hW3⟩ : ∃ W3, W3 = zeroW ((w.alloc (.cells #[.int .i64 (kd : Int), .int .i64 (no : Int), .int .i64 (ep : Int), .int .i64 (lk : Int), .slice A cs.length c] 58)).alloc (.cells #[.int .i64 (no : Int), .int .i64 (ep : Int), .int .i64 (lk : Int)] 95)) 256 := ⟨_, rfl⟩
  rw [← hW3] at FW ⊢
  clear hW3 mk hmx hmn
  have a0 := FW.k0
  have a4 := FW.k4
  have f0 := FW.f0
  have f1 := FW.f1
  have f2 := FW.f2
  have g0 := FW.buf.cell (k := 0) (by simp)
  have g1 := FW.buf.cell (k := 1) (by simp)
  have l0 := FW.buf.loose 0 (by simp)
  have l1 := FW.buf.loose 1 (by simp)
  have i0 : ∀ w, (Instr.index 95 (.agg #[.int .i64 (no : Int), .int .i64 (ep : Int), .int .i64 (lk : Int)]) (.int .i64 0)).run Try.prog w = .ok (.int .i64 (no : Int)) w := fun _ => by kernel_rfl
  have i1 : ∀ w, (Instr.index 95 (.agg #[.int .i64 (no : Int), .int .i64 (ep : Int), .int .i64 (lk : Int)]) (.int .i64 1)).run Try.prog w = .ok (.int .i64 (ep : Int)) w := fun _ => by kernel_rfl
  have i2 : ∀ w, (Instr.index 95 (.agg #[.int .i64 (no : Int), .int .i64 (ep : Int), .int .i64 (lk : Int)]) (.int .i64 2)).run Try.prog w = .ok (.int .i64 (lk : Int)) w := fun _ => by kernel_rfl
  have B0 : Buf ((W3.setCell ⟨w.heap.size + 1 + 1, 0, none⟩ (.int .u8 (kd : Int))).setCell ⟨w.heap.size + 1 + 1, 1, none⟩ (.int .u8 (cs.length : Int))).drew (w.heap.size + 1 + 1) (fx kd cs.length no ep lk 0) := by
    have h := ((FW.buf.set (k := 0) (by simp) (UInt8.ofNat kd)).set (k := 1) (by simp) (UInt8.ofNat cs.length)).drew
    rw [fx_0, u8_nat kd (by omega), u8_nat cs.length (by omega)] at h
    exact h
  have L0 : Below w.heap.size w ((W3.setCell ⟨w.heap.size + 1 + 1, 0, none⟩ (.int .u8 (kd : Int))).setCell ⟨w.heap.size + 1 + 1, 1, none⟩ (.int .u8 (cs.length : Int))).drew := ((FW.below.setCell (by simp; omega) _).setCell (by simp; omega) _).drew
  have k4' : ((W3.setCell ⟨w.heap.size + 1 + 1, 0, none⟩ (.int .u8 (kd : Int))).setCell ⟨w.heap.size + 1 + 1, 1, none⟩ (.int .u8 (cs.length : Int))).drew.cell? ⟨w.heap.size, 4, none⟩ = some (.slice A cs.length c) := by
    rw [World.cell?_drew, World.cell?_setCell_other _ _ _ _ (by simp), World.cell?_setCell_other _ _ _ _ (by simp)]; exact a4
  have HB0 := hide B0
  have HL0 := hide L0
  have SZ := hide FW.size
  have q0 : ∀ W, (Instr.slice 28 (.slice (some ⟨w.heap.size + 1 + 1, 0, none⟩) 256 256) (some (.int .i64 2)) (some (.int .i64 6)) (some (.int .i64 6))).run Try.prog W = .ok (.slice (some ⟨w.heap.size + 1 + 1, 2, none⟩) 4 4) W := fun W => slice28_lhm (some ⟨w.heap.size + 1 + 1, 0, none⟩) 256 256 2 6 6 (by omega) (by omega) (by omega) W
  have q1 : ∀ W, (Instr.slice 28 (.slice (some ⟨w.heap.size + 1 + 1, 0, none⟩) 256 256) (some (.int .i64 6)) (some (.int .i64 10)) (some (.int .i64 10))).run Try.prog W = .ok (.slice (some ⟨w.heap.size + 1 + 1, 6, none⟩) 4 4) W := fun W => slice28_lhm (some ⟨w.heap.size + 1 + 1, 0, none⟩) 256 256 6 10 10 (by omega) (by omega) (by omega) W
  have q2 : ∀ W, (Instr.slice 28 (.slice (some ⟨w.heap.size + 1 + 1, 0, none⟩) 256 256) (some (.int .i64 10)) (some (.int .i64 14)) (some (.int .i64 14))).run Try.prog W = .ok (.slice (some ⟨w.heap.size + 1 + 1, 10, none⟩) 4 4) W := fun W => slice28_lhm (some ⟨w.heap.size + 1 + 1, 0, none⟩) 256 256 10 14 14 (by omega) (by omega) (by omega) W
  clear FW B0 L0
  go_region
  go_wp2_with fail
  go_loopw [57] (fun i wr => ∃ k : Nat, k ≤ 3 ∧ i = .int .i64 k ∧ Buf wr (w.heap.size + 1 + 1) (fx kd cs.length no ep lk k) ∧ Below w.heap.size w wr ∧ w.heap.size + 1 + 1 < wr.heap.size ∧ wr.cell? ⟨w.heap.size, 4, none⟩ = some (.slice A cs.length c)) (fun i _ => 3 - (intOf i).toNat)
  case atStart => exact ⟨0, by omega, rfl, HB0.out, HL0.out, by have := SZ.out; simpa [World.setCell] using this, k4'⟩
  case round =>
    obtain ⟨k, hk, rfl, hb, hbl, hsz, hc4⟩ := hrel
    have HB := hide hb
    have HL := hide hbl
    clear hb hbl
    clear g0 g1 l0 l1 a0 a4 f0 f1 f2
    have hlen := fx_length kd cs.length no ep lk k hk
    rcases (show k = 0 ∨ k = 1 ∨ k = 2 ∨ k = 3 by omega) with rfl | rfl | rfl | rfl
    · have PT := hide (put_any (w.heap.size + 1 + 1) 2 4 4 no _ wr HB.out (by omega) (by omega) h3)
      clear hlen
      go_wp2_with fail
      refine PT.out.mono ?_
      rintro e w5 ⟨rfl, hb, hg⟩
      rw [fx_1] at hb
      have NB := hide hb
      have NG := hide (HL.out.grown hg (by omega) (by intro q hq; cases hq; omega))
      have N4 := hg.cell hc4 (by simp; omega)
      have NS := Nat.lt_of_lt_of_le hsz hg.size
      clear hb hg
      go_wp2_with fail
      go_roundw
      case rel => exact ⟨1, by omega, rfl, NB.out, NG.out, NS, N4⟩
      case measure => simp [intOf]
    · have PT := hide (put_any (w.heap.size + 1 + 1) 6 4 4 ep _ wr HB.out (by omega) (by omega) h4)
      clear hlen
      go_wp2_with fail
      refine PT.out.mono ?_
      rintro e w5 ⟨rfl, hb, hg⟩
      rw [fx_2] at hb
      have NB := hide hb
      have NG := hide (HL.out.grown hg (by omega) (by intro q hq; cases hq; omega))
      have N4 := hg.cell hc4 (by simp; omega)
      have NS := Nat.lt_of_lt_of_le hsz hg.size
      clear hb hg
      go_wp2_with fail
      go_roundw
      case rel => exact ⟨2, by omega, rfl, NB.out, NG.out, NS, N4⟩
      case measure => simp [intOf]
    · have PT := hide (put_any (w.heap.size + 1 + 1) 10 4 4 lk _ wr HB.out (by omega) (by omega) h5)
      clear hlen
      go_wp2_with fail
      refine PT.out.mono ?_
      rintro e w5 ⟨rfl, hb, hg⟩
      rw [fx_3] at hb
      have NB := hide hb
      have NG := hide (HL.out.grown hg (by omega) (by intro q hq; cases hq; omega))
      have N4 := hg.cell hc4 (by simp; omega)
      have NS := Nat.lt_of_lt_of_le hsz hg.size
      clear hb hg
      go_wp2_with fail
      go_roundw
      case rel => exact ⟨3, by omega, rfl, NB.out, NG.out, NS, N4⟩
      case measure => simp [intOf]
    · clear hlen i0 i1 i2 q0 q1 q2
      rw [show ((3 : Nat) : Int) = 3 from rfl]
      have B1 := HB.out
      rw [fx_body _ _ _ _ _ (bytesOf cs)] at B1
      have HB1 := hide B1
      clear B1 HB
      go_wp2_with fail
      obtain ⟨wo, rfl⟩ : ∃ wo : World, wo = wr := ⟨_, rfl⟩
      go_loopw [10, 78] (fun en i wx => ∃ k : Nat, k ≤ cs.length ∧ i = .int .i64 k ∧ en = .int .i64 (endAt cs k : Nat) ∧ Buf wx (w.heap.size + 1 + 1) (bodyTo (hdr kd no ep lk cs.length) (bytesOf cs) k ++ List.replicate 4 0) ∧ Below w.heap.size w wx ∧ w.heap.size + 1 + 1 < wx.heap.size) (fun _ i _ => cs.length - (intOf i).toNat)
      case atStart => exact ⟨0, by omega, rfl, rfl, HB1.out, HL.out, hsz⟩
      case round =>
        obtain ⟨k, hk, rfl, rfl, hb, hbl, hsz⟩ := hrel
        have HB := hide hb
        have HL := hide hbl
        have HZ := hide hsz
        clear hb hbl hsz
        by_cases hlt : k < cs.length
        · obtain ⟨cb, co, rfl, _, hcell⟩ := (HR.out.below HL.out).at_ hlt
          obtain ⟨he1, he2, he3⟩ := end_step cs k hlt HRM.out
          have hlb := body_length (hdr kd no ep lk cs.length) (bytesOf cs) k (hdr_length _ _ _ _ _) (by rw [bytesOf_length]; omega) (by rw [roomL_of]; exact HRM.out)
          obtain ⟨x, hx⟩ : ∃ x, x = cs[k] := ⟨_, rfl⟩
          rw [← hx] at hcell he1
          have hz2 : x.size ≤ 235 := by rw [hx]; exact HSL.out _ (List.getElem_mem hlt)
          obtain ⟨e0, he0⟩ : ∃ e0, e0 = endAt cs k := ⟨_, rfl⟩
          obtain ⟨e1, he1'⟩ : ∃ e1, e1 = endAt cs (k + 1) := ⟨_, rfl⟩
          obtain ⟨q, hq⟩ : ∃ q, q = 14 + 2 * k := ⟨_, rfl⟩
          have hqi : (14 : Int) + 2 * (k : Int) = (q : Int) := by omega
          rw [← he0, ← he1'] at he1
          rw [← he0] at he2
          rw [← he1'] at he3
          have hei : (e0 : Int) - (x.size : Int) = (e1 : Int) := by omega
          have B1 := (HB.out.set (k := q) (by rw [List.length_append, hlb]; simp; omega) (UInt8.ofNat e1)).set (k := q + 1) (by rw [List.length_set, List.length_append, hlb]; simp; omega) (UInt8.ofNat x.size)
          have hq256 : q + 1 < 256 := by omega
          rw [u8_nat e1 (by omega), u8_nat x.size (by omega)] at B1
          have hB1 := hide B1
          obtain ⟨y0, c0⟩ : ∃ v, wr.cell? ⟨w.heap.size + 1 + 1, q, none⟩ = some v := ⟨_, HB.out.cell (k := q) (by rw [List.length_append, hlb]; simp; omega)⟩
          obtain ⟨y1, c1⟩ : ∃ v, wr.cell? ⟨w.heap.size + 1 + 1, q + 1, none⟩ = some v := ⟨_, HB.out.cell (k := q + 1) (by rw [List.length_append, hlb]; simp; omega)⟩
          have l0 := HB.out.loose q (by rw [List.length_append, hlb]; simp; omega)
          have l1 := HB.out.loose (q + 1) (by rw [List.length_append, hlb]; simp; omega)
          have sl : ∀ W, (Instr.slice 28 (.slice (some ⟨w.heap.size + 1 + 1, 0, none⟩) 256 256) (some (.int .i64 (e1 : Int))) none none).run Try.prog W = .ok (.slice (some ⟨w.heap.size + 1 + 1, e1, none⟩) (256 - e1) (256 - e1)) W := fun W => by
            have h := slice28_l (some ⟨w.heap.size + 1 + 1, 0, none⟩) 256 256 e1 (by omega) W
            rw [cutAt_some _ _ _ _ (by omega)] at h
            simpa using h
          clear B1 hlb
          rw [← he0]
          have E1 := hide he1'
          have HX := hide hx
          have HQ := hide hq
          clear he0 he1' hx hq
          go_wp2_with (with_reducible refine wpList_copy_str rfl _ _ rfl (w.heap.size + 1 + 1) e1 (256 - e1) (256 - e1) x rfl rfl _ hB1.out (by rw [List.length_set, List.length_set, List.length_append, body_length _ _ _ (hdr_length _ _ _ _ _) (by rw [bytesOf_length]; omega) (by rw [roomL_of]; exact HRM.out)]; simp; omega) (by omega) ?_; intro w5 hb5 hg5)
          rw [over_step _ cs k q e1 x (hdr_length _ _ _ _ _) hlt HRM.out HQ.out E1.out HX.out] at hb5
          have NB := hide hb5
          have NG := hide ((((HL.out.setCell (B := w.heap.size) (p := ⟨w.heap.size + 1 + 1, q, none⟩) (by show w.heap.size ≤ w.heap.size + 1 + 1; omega) (.int .u8 (e1 : Int))).setCell (p := ⟨w.heap.size + 1 + 1, q + 1, none⟩) (by show w.heap.size ≤ w.heap.size + 1 + 1; omega) (.int .u8 (x.size : Int))).grown hg5 (by simp; have := HZ.out; omega) (by intro q hq; cases hq; omega)))
          have NS := hide (Nat.lt_of_lt_of_le (by simpa using HZ.out) hg5.size)
          clear hb5 hg5
          go_wp2_with fail
          go_roundw
          case rel => exact ⟨k + 1, by omega, by go_num, by rw [← E1.out], NB.out, NG.out, NS.out⟩
          case measure => simp [intOf]; omega
        · obtain rfl : k = cs.length := by omega
          have hbl := body_len kd no ep lk cs HRM.out
          obtain ⟨X, hX⟩ : ∃ X, X = bodyOf kd no ep lk cs := ⟨_, rfl⟩
          have B1 := HB.out
          rw [show bodyTo (hdr kd no ep lk cs.length) (bytesOf cs) cs.length = X from hX.symm] at B1
          rw [← hX] at hbl
          have hgl := HS.out.lt
          have SA := HS.out.below HL.out.drew hgl
          have hbg : w.heap.size + 1 + 1 ≠ g := by omega
          have OF := of_any g m (.slice (some ⟨w.heap.size + 1 + 1, 0, none⟩) 252 252) X wr.drew SA (by
            have h := Row.RB (g := g) (c := 252) B1.drew.row.left hbg
            rw [hbl] at h
            exact h) (by omega)
          have hq := Crc.crc_lt X
          obtain ⟨q, hqe⟩ : ∃ q, q = Crc.crc X := ⟨_, rfl⟩
          rw [← hqe] at OF hq
          have PT : ∀ w6, wr.drew.grownBy w6 (some g) → Calls Try.prog 55 #[.slice (some ⟨w.heap.size + 1 + 1, 252, none⟩) 4 4, .int .i64 (IntKind.i64.wrap q)] w6 fun e w' => e = .returned (.tuple #[]) ∧ Buf w' (w.heap.size + 1 + 1) (X ++ four q) ∧ w6.grownBy w' (some (w.heap.size + 1 + 1)) := fun w6 h6 => by
            have h := put_any (w.heap.size + 1 + 1) 252 4 4 q _ w6 (B1.drew.grown h6 hbg) (by rw [List.length_append, hbl]; simp) (by omega) (by omega)
            rw [put_sum X q hbl] at h
            rw [IntKind.wrap_i64, show ((q : Int) + 9223372036854775808) % 18446744073709551616 - 9223372036854775808 = (q : Int) by omega]
            exact h
          have s1 := fun W => slice28_l (some ⟨w.heap.size + 1 + 1, 0, none⟩) 256 256 252 (by omega) W
          have s2 := slice28_hm (some ⟨w.heap.size + 1 + 1, 0, none⟩) 256 256 252 252 (by omega) (by omega)
          rw [cutAt_some _ _ _ _ (by omega)] at s2
          simp only [cutAt_some _ _ _ _ (show 256 ≠ 252 by omega), Nat.zero_add, Nat.add_zero] at s1 s2
          have OF' := hide OF
          have PT' := hide PT
          have E1 := hide hX
          have E2 := hide hqe
          have GR := hide (grown_of_below HL.out.drew (some g))
          have HG := hide hgl
          clear OF PT B1 SA hX hqe hbl hcl hsz
          go_wp2_with fail
          go_region_with (first
            | (go_at_call 24; refine OF'.out.mono ?_; rintro e w6 ⟨rfl, hs, hgr⟩; have S6 := hide hs; have G6 := hide hgr; clear hs hgr)
            | (go_at_call 55; refine (PT'.out _ G6.out).mono ?_; rintro e w7 ⟨rfl, hb7, hgr⟩; have B7 := hide hb7; have G7 := hide hgr; clear hb7 hgr))
          go_wp2_with fail
          go_ret2
          refine ⟨_, rfl, by omega, ?_, ⟨_, (S6.out.grown G7.out hbg.symm).at_⟩, grown_new (grown_trans GR.out G6.out) G7.out (by omega)⟩
          have hB := B7.out
          rw [E2.out, E1.out] at hB
          exact hB
end Go.Proofs.Ytljfomgcoodjkaa
