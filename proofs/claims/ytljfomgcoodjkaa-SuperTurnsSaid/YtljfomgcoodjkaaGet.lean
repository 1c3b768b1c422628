/- page.Get of bytes whose sum is theirs: the page whose bytes these are, or none. -/
import Derived.Test.YtljfomgcoodjkaaGet0
import Derived.Test.YtljfomgcoodjkaaTold
import Derived.Deep.RegionHeld3
import Derived.Deep.AppendLies
import Derived.Deep.RegionLaw
import Derived.BigQuiet
namespace Go.Proofs.Ytljfomgcoodjkaa
open Go.RowKit

def GetEnd (w : World) (g : Nat) (xs : List UInt8) (e : Ending) (w' : World) : Prop :=
  ∃ pv er, e = .returned (.tuple #[pv, .int .i64 er]) ∧ ((goodB xs ∧ er = 0 ∧ PV w' g pv (pgOf xs)) ∨ (¬ goodB xs ∧ er = 41 ∧ pv = zpg)) ∧ (∃ m, SumAt w' g m) ∧ w.grownBy w' (some g)

theorem numAt_cell {w : World} {b : Nat} {xs : List UInt8} (h : Row w b 0 xs) {i : Nat} (hi : i < xs.length) : w.cell? ⟨b, i, none⟩ = some (.int .u8 (numAt xs i : Nat)) := by
  have := h i hi
  rw [Nat.zero_add] at this
  rw [this]
  unfold numAt
  rw [List.getD_eq_getElem?_getD, List.getElem?_eq_getElem hi]; rfl
theorem cut_at (bb c d l m : Nat) (hl : l + m = 256) (hd : l + d = c) (hd0 : 0 < d) (w : World) : (Instr.slice 28 (.slice (some ⟨bb, 0, none⟩) 256 c) (some (.int .i64 (l : Int))) none none).run Try.prog w = .ok (.slice (some ⟨bb, l, none⟩) m d) w := by
  have h := cut_from bb c l (by omega) (by omega) w
  rw [show 256 - l = m by omega, show c - l = d by omega] at h
  exact h
def S5 (bb : Nat) (k0 : Int) (xs : List UInt8) (w' : World) : Prop := w'.cell? ⟨bb, 0, none⟩ = some (.int .u8 k0) ∧ Row w' bb 0 xs
theorem s5_of {w7 w' : World} {bb : Nat} {xs : List UInt8} (R : Row w7 bb 0 xs) (hx : xs.length = 256) (h : Below w7.heap.size w7 w') : w'.cell? ⟨bb, 0, none⟩ = some (.int .u8 (numAt xs 0 : Nat)) ∧ Row w' bb 0 xs :=
  ⟨numAt_cell (R.below h) (by omega), R.below h⟩

theorem cell_slice (bb c a l s : Nat) (xs : List UInt8) (hc : 256 ≤ c) (hx : xs.length = 256) (hs : s = a + l) (h : s ≤ 252) :
    ∃ off, (∀ w, (Instr.slice 28 (.slice (some ⟨bb, 0, none⟩) 256 c) (some (.int .i64 (a : Int))) (some (.int .i64 (s : Int))) (some (.int .i64 (s : Int)))).run Try.prog w = .ok (.slice (some ⟨bb, off, none⟩) l l) w) ∧
      ∀ w, Row w bb 0 xs → (convert 28 9 (.slice (some ⟨bb, off, none⟩) l l)).run Try.prog w = .ok (.string (strOf ((xs.drop a).take l))) w := by
  subst hs
  have hlen : ((xs.drop a).take l).length = l := by rw [List.length_take, List.length_drop]; omega
  by_cases h0 : l = 0
  · subst h0
    refine ⟨0, fun w => ?_, fun w hr => ?_⟩
    · rw [slice28_lhm (some ⟨bb, 0, none⟩) 256 c a (a + 0) (a + 0) (by omega) (by omega) (by omega) w]
      simp [cutAt]
    · exact conv_back (fun i hi => by simp at hi) hlen
  · refine ⟨a, fun w => ?_, fun w hr => ?_⟩
    · rw [slice28_lhm (some ⟨bb, 0, none⟩) 256 c a (a + l) (a + l) (by omega) (by omega) (by omega) w, cutAt_some _ _ _ _ (by omega)]
      simp
    · have hd := (hr.drop a).take l
      rw [Nat.zero_add] at hd
      exact conv_back hd hlen
theorem cellAt_size (xs : List UInt8) (k : Nat) : (cellAt xs k).size ≤ 255 := by
  unfold cellAt
  rw [strOf_size, List.length_take]
  have := numAt_le xs (15 + 2 * k)
  omega
theorem cellsTo_size (xs : List UInt8) (k : Nat) : ∀ s ∈ cellsTo xs k, s.size ≤ 255 := fun s hs => by
  unfold cellsTo at hs
  obtain ⟨i, _, rfl⟩ := List.mem_map.1 hs
  exact cellAt_size xs i
theorem rs_of_own {W : World} {g q n : Nat} {v : Value} {ss : List ByteArray} (h : W.ownsRow (q + 1) 9 1 v n (ss.map Value.string)) (hn : ss.length = n) (hg : g ≤ q) (hs : ∀ s ∈ ss, s.size ≤ 255) : RS W g v ss := by
  have hsz : ∀ s ∈ ss, s.size ≤ maxLen := fun s hx => Nat.le_trans (hs s hx) (by unfold maxLen; omega)
  rcases h.2 with ⟨rfl, h0⟩ | ⟨b, cap, cur, rfl, hb, hh, hc, hcm, _, ht⟩
  · have : ss = [] := List.eq_nil_of_length_eq_zero (by omega)
    subst this
    exact ⟨none, 0, by simp, by simp, by unfold maxLen; omega, hsz, .inl rfl⟩
  · refine ⟨_, cap, by rw [hn], by omega, hcm, hsz, .inr ⟨b, 0, rfl, by omega, fun i hi => ?_⟩⟩
    rw [Nat.zero_add, cell_of_row _ _ _ cur 9 (0, 0) hh]
    have h2 : (cur.toList.take (n * 1))[i]? = (ss.map Value.string)[i]? := by rw [ht]
    rw [List.getElem?_take, if_pos (by omega), List.getElem?_map, List.getElem?_eq_getElem hi, Array.getElem?_toList] at h2
    exact h2
theorem info9 : (Try.prog.info? 9).map (fun i => (i.zero, i.size, i.bytes)) = some (some (.string ByteArray.empty), 1, 16) := by kernel_rfl

theorem own_far {W : World} {q n : Nat} {v : Value} {xs : List Value} (h : W.ownsRow (q + 1) 9 1 v n xs) : some q ≠ v.ownBlock := fun e => by
  have := (h.lt q e.symm).1
  omega
theorem next5 {B q n : Nat} {a wq w5 : World} {v : Value} {xs : List Value} {o : Obj} (hl : Below B a wq) (hq : B ≤ q + 1) (hg : (wq.alloc o).drew.grownBy w5 v.ownBlock) (ho : wq.ownsRow (q + 1) 9 1 v n xs) (hB : B ≤ wq.heap.size) : Below B a w5 :=
  ((hl.trans ((Below.refl _ _).alloc hB o)).drew).grown hg (by simp; omega) (fun r hr => Nat.le_trans hq (ho.lt r hr).1)
theorem get_bad {w W : World} {g : Nat} {xs : List UInt8} (hsm : ∃ m, SumAt W g m) (hgr : w.grownBy W (some g)) (hgl : g < w.heap.size) (hng : ¬ goodB xs) :
    GetEnd w g xs (.returned (.tuple #[zpg, .int .i64 41])) (((((W.setCell ⟨w.heap.size, 0, none⟩ (.int .i64 0)).setCell ⟨w.heap.size, 1, none⟩ (.int .i64 0)).setCell ⟨w.heap.size, 2, none⟩ (.int .i64 0)).setCell ⟨w.heap.size, 3, none⟩ (.int .i64 0)).setCell ⟨w.heap.size, 4, none⟩ (.slice none 0 0)) := by
  obtain ⟨m, hm⟩ := hsm
  exact ⟨_, _, rfl, .inr ⟨hng, rfl, rfl⟩, ⟨m, hm.set_page (by omega) _ _ _ _ _⟩, page_grown hgr (Nat.le_refl _) _ _ _ _ _⟩

set_option maxRecDepth 100000 in
set_option maxHeartbeats 4000000 in
/-- 'page.Get' of bytes whose sum is theirs. -/
theorem get_right (g bb c : Nat) (m : Int) (xs : List UInt8) (w : World) (hs : SumAt w g m) (hr : Row w bb 0 xs) (hx : xs.length = 256) (hb : bb ≠ g) (hc : 256 ≤ c) (heq : Crc.crc (xs.take 252) = getTo xs 252 4) :
    Calls Try.prog 42 #[.pointer (some ⟨g, 0, none⟩), .slice (some ⟨bb, 0, none⟩) 256 c] w (GetEnd w g xs) := by
  obtain ⟨W, hW⟩ : ∃ W, W = w.alloc (.cells #[.int .i64 0, .int .i64 0, .int .i64 0, .int .i64 0, .slice none 0 0] 58) := ⟨_, rfl⟩
  have hbl : Below w.heap.size w W := by rw [hW]; exact (Below.refl _ _).alloc (Nat.le_refl _) _
  have hbk : Blk W w.heap.size 58 #[.int .i64 0, .int .i64 0, .int .i64 0, .int .i64 0, .slice none 0 0] := by rw [hW]; exact Blk.new _ _ _
  have HW := hide hW
  have hgl := hs.lt
  have hbbl : bb < w.heap.size := World.block_lt_of_cell? w _ (hr 0 (by omega))
  have HS := hide (hs.below hbl.drew hgl)
  have HR0 := hide hr
  have HR := hide (hr.below hbl.drew)
  have s1 := cut_tail bb c hc
  have s2 := cut_head bb c hc
  have GT0 := get_any bb 252 4 (c - 252) xs W.drew HR.out (by omega) (by omega)
  have RT0 := right_page g bb 252 m xs W.drew HS.out HR.out hx hb
  rw [decide_eq_true heq] at RT0
  obtain ⟨t, ht⟩ : ∃ t, t = getTo xs 252 4 := ⟨_, rfl⟩
  rw [← ht] at GT0 RT0
  have GT := hide GT0
  have RT := hide RT0
  have GB := hide (grown_of_below hbl.drew (some g))
  have BK := hide hbk.drew
  clear hW hs hr heq hbl hbk ht GT0 RT0
  go_enter Try.func42, Try.ntmps42
  go_upto_region 3 with fail
  rw [← HW.out]
  go_cut [18] (fun s18 wx => s18 = .bool false ∧ Blk wx w.heap.size 58 #[.int .i64 0, .int .i64 0, .int .i64 0, .int .i64 0, .slice none 0 0] ∧ (∃ m, SumAt wx g m) ∧ w.grownBy wx (some g))
  case first =>
    go_region_with (first
      | (go_at_call 59; refine GT.out.mono ?_; rintro e w6 ⟨rfl, rfl⟩)
      | (go_at_call 25; refine RT.out.mono ?_; rintro e w7 ⟨rfl, hm, hgr⟩; have M7 := hide hm; have G7 := hide hgr; clear hm hgr))
    go_wp2_with fail
    go_meet
    exact ⟨rfl, BK.out.grown G7.out (fun e => by injection e; omega), M7.out, grown_trans GB.out G7.out⟩
  obtain ⟨rfl, hbk, hsm, hgr⟩ := hcut
  obtain ⟨w7, hw7⟩ : ∃ w7, w7 = wc := ⟨_, rfl⟩
  rw [← hw7] at hbk hsm hgr ⊢
  clear hw7 wc
  have HBK := hide hbk
  have HSM := hide hsm
  have HGR := hide hgr
  have R7 := hide (HR0.out.grown hgr hb)
  have HSZ := hide hbk.lt
  clear hbk hsm hgr GT RT BK GB HS HR HW s1 s2
  have hgl7 : g < w7.heap.size := Nat.lt_of_lt_of_le hgl HGR.out.size
  obtain ⟨d2, hd2⟩ : ∃ d, 2 + d = c := ⟨c - 2, by omega⟩
  obtain ⟨d6, hd6⟩ : ∃ d, 6 + d = c := ⟨c - 6, by omega⟩
  obtain ⟨d10, hd10⟩ : ∃ d, 10 + d = c := ⟨c - 10, by omega⟩
  have s2 : ∀ w, (Instr.slice 28 (.slice (some ⟨bb, 0, none⟩) 256 c) (some (.int .i64 2)) none none).run Try.prog w = .ok (.slice (some ⟨bb, 2, none⟩) 254 d2) w := cut_at bb c d2 2 254 (by omega) hd2 (by omega)
  have s6 : ∀ w, (Instr.slice 28 (.slice (some ⟨bb, 0, none⟩) 256 c) (some (.int .i64 6)) none none).run Try.prog w = .ok (.slice (some ⟨bb, 6, none⟩) 250 d6) w := cut_at bb c d6 6 250 (by omega) hd6 (by omega)
  have s10 : ∀ w, (Instr.slice 28 (.slice (some ⟨bb, 0, none⟩) 256 c) (some (.int .i64 10)) none none).run Try.prog w = .ok (.slice (some ⟨bb, 10, none⟩) 246 d10) w := cut_at bb c d10 10 246 (by omega) hd10 (by omega)
  have G2 := hide (fun w' (h : Row w' bb 0 xs) => get_any bb 2 254 d2 xs w' h (by omega) (by omega))
  have G6 := hide (fun w' (h : Row w' bb 0 xs) => get_any bb 6 250 d6 xs w' h (by omega) (by omega))
  have G10 := hide (fun w' (h : Row w' bb 0 xs) => get_any bb 10 246 d10 xs w' h (by omega) (by omega))
  have SF := hide (fun w' (h : Below w7.heap.size w7 w') => s5_of R7.out hx h)
  have P := hide (show numAt xs 0 ≤ 255 ∧ getTo xs 2 4 ≤ 4294967295 ∧ getTo xs 6 4 ≤ 4294967295 ∧ getTo xs 10 4 ≤ 4294967295 from ⟨numAt_le _ _, getTo_le _ _, getTo_le _ _, getTo_le _ _⟩)
  have K0 := hide (numAt_cell R7.out (i := 0) (by omega))
  obtain ⟨no, hno⟩ : ∃ t, t = getTo xs 2 4 := ⟨_, rfl⟩
  obtain ⟨ep, hep⟩ : ∃ t, t = getTo xs 6 4 := ⟨_, rfl⟩
  obtain ⟨lk, hlk⟩ : ∃ t, t = getTo xs 10 4 := ⟨_, rfl⟩
  obtain ⟨kd, hkd⟩ : ∃ t, t = numAt xs 0 := ⟨_, rfl⟩
  rw [← hno, ← hep, ← hlk, ← hkd] at P
  rw [← hno] at G2
  rw [← hep] at G6
  rw [← hlk] at G10
  rw [← hkd] at SF
  rw [← hkd] at K0
  have ENo := hide hno
  have EEp := hide hep
  have ELk := hide hlk
  have EKd := hide hkd
  clear hno hep hlk hkd hd2 hd6 hd10
  go_upto_region 5 with fail
  go_cut [6] (fun s6 wx => ∃ q, s6 = .pointer (some ⟨q, 0, none⟩) ∧ w7.heap.size ≤ q ∧ Blk wx q 58 #[.int .i64 (kd : Int), .int .i64 (no : Int), .int .i64 (ep : Int), .int .i64 (lk : Int), .slice none 0 0] ∧ Below w7.heap.size w7 wx)
  case first =>
    go_region_held3 (fun w' => w'.cell? ⟨bb, 0, none⟩ = some (.int .u8 (kd : Int)) ∧ Row w' bb 0 xs)
      (first
        | exact SF.out _ (Below.refl _ _).drew
        | exact SF.out _ (((Below.refl _ _).drew).alloc (Nat.le_refl _) _)
        | exact SF.out _ (page_below (((Below.refl _ _).drew).alloc (Nat.le_refl _) _) (Nat.le_refl _) _ _ _ _ _))
      (first
        | (go_at_call_of 59 d2; refine (G2.out _ (by first | assumption | (go_split_ands; assumption) | (refine And.right (a := _) ?_; assumption))).mono ?_; rintro e w' ⟨rfl, rfl⟩)
        | (go_at_call_of 59 d6; refine (G6.out _ (by first | assumption | (go_split_ands; assumption) | (refine And.right (a := _) ?_; assumption))).mono ?_; rintro e w' ⟨rfl, rfl⟩)
        | (go_at_call_of 59 d10; refine (G10.out _ (by first | assumption | (go_split_ands; assumption) | (refine And.right (a := _) ?_; assumption))).mono ?_; rintro e w' ⟨rfl, rfl⟩))
    all_goals (
      go_wp2_with fail
      go_meet
      rw [IntWalk.i64_in _ (by have := P.out; omega)]
      exact ⟨_, rfl, Nat.le_refl _, (Blk.new _ _ _).drew, ((Below.refl _ _).alloc (Nat.le_refl _) _).drew⟩)
  obtain ⟨q, rfl, hq, hbk, hbel⟩ := hcut
  obtain ⟨i0, hi0, hz0, hz1, hz2⟩ := info_parts info9
  have HQ := hide hq
  have HB8 := hide hbk
  have HL8 := hide hbel
  obtain ⟨n, hn⟩ : ∃ n, n = numAt xs 1 := ⟨_, rfl⟩
  have k1 := numAt_cell (R7.out.below hbel) (i := 1) (by omega)
  rw [← hn] at k1
  have hn255 : n ≤ 255 := by rw [hn]; exact numAt_le _ _
  have EN := hide hn
  clear hq hbk hbel hn s2 s6 s10 G2 G6 G10 SF K0
  by_cases hbig : 14 + 2 * n ≤ 252
  case neg =>
    have NG := hide (show ¬ goodB xs from fun h => hbig (by rw [EN.out]; exact h.1))
    obtain ⟨⟨z0, z1, z2, z3, z4⟩, y0, y1, y2, y3, y4⟩ := page_cells (HBK.out.below HL8.out HSZ.out)
    have BK8 := hide (HBK.out.below HL8.out HSZ.out)
    go_wp2_with fail
    refine bodyPost_ret (get_results (page_blk BK8.out _ _ _ _ _) rfl rfl) rfl ?_
    obtain ⟨m7, hm7⟩ := HSM.out
    exact get_bad ⟨m7, hm7.below HL8.out hgl7⟩ (grown_trans HGR.out (grown_of_below HL8.out _)) hgl NG.out
  have hbi : (14 : Int) + 2 * (n : Int) ≤ 252 := by omega
  go_wp2_with fail
  clear k1
  go_loopw [53] (fun i wr => ∃ k : Nat, k ≤ n ∧ i = .int .i64 k ∧ (∀ j, j < k → numAt xs (14 + 2 * j) + numAt xs (15 + 2 * j) ≤ 252) ∧ Below w7.heap.size w7 wr ∧
    ∃ v, Blk wr q 58 #[.int .i64 (kd : Int), .int .i64 (no : Int), .int .i64 (ep : Int), .int .i64 (lk : Int), v] ∧ wr.ownsRow (q + 1) 9 1 v k ((cellsTo xs k).map Value.string)) (fun i _ => n - (intOf i).toNat)
  case atStart => exact ⟨0, by omega, rfl, fun j hj => by omega, HL8.out, _, HB8.out, by simp [cellsTo], .inl ⟨rfl, rfl⟩⟩
  case round =>
    obtain ⟨k, hk, rfl, hall, hbel, v, hbk, hown⟩ := hrel
    have HAL := hide hall
    have HL := hide hbel
    have HB := hide hbk
    have HO := hide hown
    clear hall hbel hbk hown
    by_cases hlt : k < n
    · obtain ⟨p0, hp0⟩ : ∃ p, p = 14 + 2 * k := ⟨_, rfl⟩
      have hpi : (14 : Int) + 2 * (k : Int) = (p0 : Int) := by omega
      have hp256 : p0 + 1 < 256 := by omega
      obtain ⟨a, ha⟩ : ∃ a, a = numAt xs p0 := ⟨_, rfl⟩
      obtain ⟨l, hl⟩ : ∃ l, l = numAt xs (p0 + 1) := ⟨_, rfl⟩
      have c0 := numAt_cell (R7.out.below HL.out) (i := p0) (by omega)
      have c1 := numAt_cell (R7.out.below HL.out) (i := p0 + 1) (by omega)
      rw [← ha] at c0
      rw [← hl] at c1
      have ha255 : a ≤ 255 := by rw [ha]; exact numAt_le _ _
      have hl255 : l ≤ 255 := by rw [hl]; exact numAt_le _ _
      have EA := hide (show numAt xs (14 + 2 * k) = a by rw [ha, hp0])
      have EL := hide (show numAt xs (15 + 2 * k) = l by rw [hl, hp0]; congr 1; omega)
      clear ha hl hp0
      go_wp2_with fail
      go_quiet (fail)
      obtain ⟨wq, hwq⟩ : ∃ wq, wq = wr.drewN nq := ⟨_, rfl⟩
      have HLq : Hid (Below w7.heap.size w7 wq) := by rw [hwq]; exact hide ⟨HL.out.os, HL.out.tape, HL.out.output, HL.out.size, HL.out.block⟩
      have HBq : Hid (Blk wq q 58 #[.int .i64 (kd : Int), .int .i64 (no : Int), .int .i64 (ep : Int), .int .i64 (lk : Int), v]) := by rw [hwq]; exact hide (HB.out.drewN nq)
      have HOq : Hid (wq.ownsRow (q + 1) 9 1 v k ((cellsTo xs k).map Value.string)) := by rw [hwq]; exact HO.out
      rw [← hwq]
      clear hwq HL HB HO c0 c1
      clear nq
      have HL := HLq
      have HB := HBq
      have HO := HOq
      clear HLq HBq HOq
      by_cases hfar : a + l ≤ 252
      case neg =>
        have hfi : (252 : Int) < (a : Int) + (l : Int) := by omega
        have NG := hide (show ¬ goodB xs from fun h => hfar (by rw [← EA.out, ← EL.out]; exact h.2.1 k (by rw [← EN.out]; exact hlt)))
        obtain ⟨⟨z0, z1, z2, z3, z4⟩, y0, y1, y2, y3, y4⟩ := page_cells (HBK.out.below HL.out HSZ.out)
        have BK8 := hide (HBK.out.below HL.out HSZ.out)
        go_wp2_with fail
        refine bodyPost_ret (get_results (page_blk BK8.out _ _ _ _ _) rfl rfl) rfl ?_
        obtain ⟨m7, hm7⟩ := HSM.out
        exact get_bad ⟨m7, hm7.below HL.out hgl7⟩ (grown_trans HGR.out (grown_of_below HL.out _)) hgl NG.out
      obtain ⟨s, hs⟩ : ∃ s, s = a + l := ⟨_, rfl⟩
      have hsi : (a : Int) + (l : Int) = (s : Int) := by omega
      have hs252 : s ≤ 252 := by omega
      obtain ⟨off, hsl, hcv0⟩ := cell_slice bb c a l s xs hc hx hs hs252
      have hcv := hcv0 wq.drew (R7.out.below HL.out.drew)
      rw [show strOf ((xs.drop a).take l) = cellAt xs k by unfold cellAt; rw [EA.out, EL.out]] at hcv
      have hso : (s : Int) ≤ 252 := by omega
      have hsw : IntKind.i64.wrap (s : Int) = (s : Int) := IntWalk.i64_in _ (by omega)
      obtain ⟨cell, hcell⟩ : ∃ x, x = cellAt xs k := ⟨_, rfl⟩
      rw [← hcell] at hcv
      have ECell := hide hcell
      have ES := hide hs
      clear hcv0 hcell hs
      have kk : wq.cell? ⟨q, 4, none⟩ = some v := HB.out.cell 4
      have fk : wq.frozen? ⟨q, 4, none⟩ = false := HB.out.frozen 4
      have qlt := HB.out.lt
      go_wp2_with fail
      go_region_law (first
        | (refine step_append_lies _ (by rfl) _ _ _ (by rfl) (q + 1) 9 i0 _ 1 16 Try.underlying31 hi0 hz0 hz1 hz2 rfl (by omega) v k ((cellsTo xs k).map Value.string) (by rfl) (own_below HO.out ((Below.refl _ _).drew.alloc (Nat.le_refl _) _))
            ⟨wq.heap.size, 0, none⟩ 1 1 [.string cell] (by rfl) (by rfl) (World.news_of_block (cs := #[.string cell]) (t := 9) (fr := (0, 0)) (heap_alloc_new wq.drew _)) (by simp [Value.oneCell'])
            (by omega) (by unfold maxLen; omega) (by omega) (by simp; omega) (wq.heap.size + 1) (by simp) ?_
           intro gg cap w5 hown5 hgr5 hat5 hlt5
           have B5 := hide ((HB.out.alloc _).drew.grown hgr5 (own_far HO.out))
           have k5 : w5.cell? ⟨q, 4, none⟩ = some v := B5.out.cell 4
           have f5 : w5.frozen? ⟨q, 4, none⟩ = false := B5.out.frozen 4
           have N5 := hide (next5 HL.out (Nat.le_succ_of_le HQ.out) hgr5 HO.out HL.out.size)
           have O5 := hide hown5
           clear hown5 hgr5 hat5 hlt5))
      all_goals (
        go_wp2_with fail
        go_roundw
        case rel =>
          refine ⟨k + 1, by omega, by go_num, fun j hj => ?_, N5.out.setCell HQ.out _, _, B5.out.set_ 4 _, ?_⟩
          · by_cases e : j = k
            · subst e; rw [EA.out, EL.out]; exact hfar
            · exact HAL.out j (by omega)
          · rw [cellsTo_succ, List.map_append, ← ECell.out]
            exact ownsRow_setCell_below O5.out (Nat.lt_succ_self _) _
        case measure => simp [intOf]; omega)
    · obtain rfl : k = n := by omega
      have hgq : g ≤ q := Nat.le_trans (Nat.le_of_lt hgl7) HQ.out
      obtain ⟨A, cc, rfl, _⟩ := (rs_of_own HO.out (cellsTo_length xs k) hgq (cellsTo_size xs k)).len
      have PVv : PV wr g (.agg #[.int .i64 (kd : Int), .int .i64 (no : Int), .int .i64 (ep : Int), .int .i64 (lk : Int), .slice A (cellsTo xs k).length cc]) ⟨(kd : Int), (no : Int), (ep : Int), (lk : Int), cellsTo xs k⟩ :=
        ⟨_, rfl, rs_of_own HO.out (cellsTo_length xs k) hgq (cellsTo_size xs k)⟩
      have hl300 : (cellsTo xs k).length ≤ 300 := by rw [cellsTo_length]; omega
      have hs300 : ∀ s ∈ cellsTo xs k, s.size ≤ 300 := fun s hs => Nat.le_trans (cellsTo_size xs k s hs) (by omega)
      obtain ⟨⟨k0, k1, k2, k3, k4⟩, _⟩ := page_cells HB.out
      have EPG := hide (show pgOf xs = ⟨(kd : Int), (no : Int), (ep : Int), (lk : Int), cellsTo xs k⟩ by unfold pgOf; rw [← EKd.out, ← ENo.out, ← EEp.out, ← ELk.out, ← EN.out])
      have HPV := hide PVv
      obtain ⟨m7, hm7⟩ := HSM.out
      have SA := hide (hm7.below HL.out hgl7)
      have GR := hide (grown_trans HGR.out (grown_of_below HL.out (some g)))
      have BKr := hide (HBK.out.below HL.out HSZ.out)
      clear PVv hm7
      by_cases hf : fitsB (cellsTo xs k) = true
      case neg =>
        have NG := hide (show ¬ goodB xs from fun h => hf (by rw [EN.out]; exact h.2.2.1))
        have PT := hide (put_long g _ _ wr HPV.out hl300 hs300 (by simpa using hf))
        clear hl300 hs300 hf
        go_wp2_with fail
        refine PT.out.mono ?_
        rintro e w9 ⟨rfl, hb9⟩
        have HB9 := hide hb9
        have BK9 := hide (BKr.out.below hb9 BKr.out.lt)
        obtain ⟨⟨z0, z1, z2, z3, z4⟩, y0, y1, y2, y3, y4⟩ := page_cells BK9.out
        clear hb9
        go_wp2_with fail
        refine bodyPost_ret (get_results (page_blk BK9.out _ _ _ _ _) rfl rfl) rfl ?_
        exact get_bad ⟨m7, SA.out.below HB9.out SA.out.lt⟩ (grown_trans GR.out (grown_of_below HB9.out _)) hgl NG.out
      by_cases hfm : formB ⟨(kd : Int), (no : Int), (ep : Int), (lk : Int), cellsTo xs k⟩ = true
      case neg =>
        have NG := hide (show ¬ goodB xs from fun h => hfm (by rw [← EPG.out]; exact h.2.2.2.1))
        have PT := hide (put_form g _ _ wr HPV.out hl300 hs300 hf (by simpa using hfm))
        clear hl300 hs300 hf hfm
        go_wp2_with fail
        refine PT.out.mono ?_
        rintro e w9 ⟨rfl, hb9⟩
        have HB9 := hide hb9
        have BK9 := hide (BKr.out.below hb9 BKr.out.lt)
        obtain ⟨⟨z0, z1, z2, z3, z4⟩, y0, y1, y2, y3, y4⟩ := page_cells BK9.out
        clear hb9
        go_wp2_with fail
        refine bodyPost_ret (get_results (page_blk BK9.out _ _ _ _ _) rfl rfl) rfl ?_
        exact get_bad ⟨m7, SA.out.below HB9.out SA.out.lt⟩ (grown_trans GR.out (grown_of_below HB9.out _)) hgl NG.out
      obtain ⟨⟨f1, f2⟩, ⟨_, f3⟩, ⟨_, f4⟩, _, f5⟩ := (form_iff _).1 hfm
      have f1' : 1 ≤ kd := by have : (1 : Int) ≤ (kd : Int) := f1; omega
      have PT := hide (put_ok g m7 _ (cellsTo xs k) kd no ep lk wr SA.out HPV.out hf f1' (by have := P.out; omega) (by have := P.out; omega) (by have := P.out; omega) (by have := P.out; omega))
      have HF := hide hf
      have HFM := hide hfm
      have hrm := ((fits_iff _).1 hf).1
      clear hl300 hs300 hf hfm f1 f2 f3 f4 f5 f1'
      obtain ⟨Y, hY⟩ : ∃ Y, Y = pageOf kd no ep lk (cellsTo xs k) := ⟨_, rfl⟩
      have hYl : Y.length = 256 := by rw [hY]; exact page_len _ _ _ _ _ hrm
      rw [← hY] at PT
      have EY := hide hY
      clear hY hrm
      go_wp2_with fail
      refine PT.out.mono ?_
      rintro e w9 ⟨b, rfl, hbn, hbuf, hsm9, hgr9⟩
      have RX := (R7.out.below HL.out).grown hgr9 hb
      have EQ := hide (bytes_equal b 0 256 bb 0 c 256 256 Y xs w9 hbuf.row RX hYl hx)
      have B9 := hide (HB.out.grown hgr9 (fun e => by have := HQ.out; injection e; omega))
      have K9 := hide (BKr.out.grown hgr9 (fun e => by injection e; omega))
      have O9 := hide (HO.out.kept hgr9 (.inr (fun e => by have := (HO.out.lt g e).1; omega)))
      have S9 := hide hsm9
      have G9 := hide (grown_trans GR.out hgr9)
      clear hbn hbuf hsm9 hgr9 RX k0 k1 k2 k3 k4
      obtain ⟨⟨k0, k1, k2, k3, k4⟩, _⟩ := page_cells B9.out
      obtain ⟨⟨z0, z1, z2, z3, z4⟩, y0, y1, y2, y3, y4⟩ := page_cells K9.out
      by_cases hXY : Y = xs
      · rw [decide_eq_true hXY] at EQ
        have GD := hide (show goodB xs from ⟨by rw [← EN.out]; omega, by rw [← EN.out]; exact HAL.out, by rw [← EN.out]; exact HF.out, by rw [EPG.out]; exact HFM.out, by
          rw [← EKd.out, ← ENo.out, ← EEp.out, ← ELk.out, ← EN.out, ← EY.out]; exact hXY⟩)
        clear hXY
        go_wp2_with fail
        refine EQ.out.mono ?_
        rintro e w10 ⟨rfl, rfl⟩
        go_wp2_with fail
        refine bodyPost_ret (get_results (page_blk K9.out _ _ _ _ _) rfl rfl) rfl ?_
        obtain ⟨m9, hm9⟩ := S9.out
        have hwq : w.heap.size < q + 1 := Nat.lt_succ_of_le (Nat.le_trans (Nat.le_of_lt HSZ.out) HQ.out)
        refine ⟨_, _, rfl, .inl ⟨GD.out, rfl, ?_⟩, ⟨m9, hm9.set_page (by omega) _ _ _ _ _⟩, page_grown G9.out (Nat.le_refl _) _ _ _ _ _⟩
        rw [EPG.out]
        exact ⟨_, rfl, rs_of_own (ownsRow_setCell_below (ownsRow_setCell_below (ownsRow_setCell_below (ownsRow_setCell_below (ownsRow_setCell_below O9.out hwq _) hwq _) hwq _) hwq _) hwq _) (cellsTo_length xs k) hgq (cellsTo_size xs k)⟩
      · rw [decide_eq_false hXY] at EQ
        have NG := hide (show ¬ goodB xs from fun h => hXY (by
          have h5 := h.2.2.2.2
          rw [← EKd.out, ← ENo.out, ← EEp.out, ← ELk.out, ← EN.out, ← EY.out] at h5
          exact h5))
        clear hXY
        go_wp2_with fail
        refine EQ.out.mono ?_
        rintro e w10 ⟨rfl, rfl⟩
        go_wp2_with fail
        refine bodyPost_ret (get_results (page_blk K9.out _ _ _ _ _) rfl rfl) rfl ?_
        exact get_bad S9.out G9.out hgl NG.out
end Go.Proofs.Ytljfomgcoodjkaa
