/- super.Get walked: what it tells of 256 bytes. -/
import Derived.Test.YtljfomgcoodjkaaSGet
import Derived.Deep.RegionHeld3
namespace Go.Proofs.Ytljfomgcoodjkaa
open Go.RowKit

theorem cell_nums (a b c : Nat) (ha : a ≤ 4294967295) (hb : b ≤ 4294967295) (hc : c ≤ 4294967295) : getTo (strOf (cellTo a b c 3)).data.toList 0 4 = a ∧ getTo (strOf (cellTo a b c 3)).data.toList 4 4 = b ∧ getTo (strOf (cellTo a b c 3)).data.toList 8 4 = c := by
  rw [strOf_data]
  show getTo (four a ++ four b ++ four c) 0 4 = a ∧ getTo (four a ++ four b ++ four c) 4 4 = b ∧ getTo (four a ++ four b ++ four c) 8 4 = c
  refine ⟨?_, ?_, ?_⟩
  · rw [List.append_assoc, getTo_left 4 (by rw [four_length]; omega)]; exact four_back a ha
  · rw [List.append_assoc]
    have h := getTo_right (A := four a) (B := four b ++ four c) (n := 4) (o := 0) rfl 4
    have h2 : getTo (four a ++ (four b ++ four c)) 4 4 = getTo (four b ++ four c) 0 4 := h
    rw [h2, getTo_left 4 (by rw [four_length]; omega)]; exact four_back b hb
  · have h := getTo_right (A := four a ++ four b) (B := four c) (n := 8) (o := 0) rfl 4
    have h2 : getTo (four a ++ four b ++ four c) 8 4 = getTo (four c) 0 4 := h
    rw [h2]; exact four_back c hc
theorem su_same {x : Su} {ep n0 n4 n8 : Nat} {cell : ByteArray} (hc : checkB x = true) (h : strOf (cellTo x.rt.toNat x.fr.toNat x.pg.toNat 3) = cell) (he : (ep : Int) = x.ep) (h0 : n0 = getTo cell.data.toList 0 4) (h4 : n4 = getTo cell.data.toList 4 4) (h8 : n8 = getTo cell.data.toList 8 4) :
    x = ⟨ep, n0, n4, n8⟩ := by
  obtain ⟨e, a, b, c, rfl, l1, l2, l3, l4, l5⟩ := check_nat hc
  have k := cell_nums a b c (by omega) (by omega) (by omega)
  have h' : strOf (cellTo a b c 3) = cell := h
  rw [h'] at k
  obtain ⟨k0, k4, k8⟩ := k
  rw [h0, h4, h8, k0, k4, k8, he]

set_option maxRecDepth 100000 in
set_option maxHeartbeats 4000000 in
theorem sget_any (g bb c : Nat) (m slot : Int) (xs : List UInt8) (w : World) (hs : SumAt w g m) (hr : Row w bb 0 xs) (hx : xs.length = 256) (hb : bb ≠ g) (hc : 256 ≤ c) :
    Calls Try.prog 46 #[.pointer (some ⟨g, 0, none⟩), .int .i64 slot, .slice (some ⟨bb, 0, none⟩) 256 c] w (SEnd w g xs slot) := by
  obtain ⟨w0, hw0⟩ : ∃ w0, w0 = w.alloc (.cells #[.int .i64 0, .int .i64 0, .int .i64 0, .int .i64 0] 41) := ⟨_, rfl⟩
  have hb0 : Below w.heap.size w w0 := by rw [hw0]; exact (Below.refl _ _).alloc (Nat.le_refl _) _
  have R0' : Blk w0 w.heap.size 41 #[.int .i64 0, .int .i64 0, .int .i64 0, .int .i64 0] := by rw [hw0]; exact Blk.new _ _ _
  have hgl := hs.lt
  have GT := hide (get_page g bb c m xs w0 (hs.below hb0 hgl) (hr.below hb0) hx hb hc)
  have GB := hide (grown_of_below hb0 (some g))
  have R0 := hide R0'
  clear hb0 R0' hs hr
  go_enter Try.func46, Try.ntmps46
  go_upto_region 1 with fail
  rw [← hw0]
  clear hw0
  go_wp2_with fail
  refine GT.out.mono ?_
  rintro e w6 ⟨pv, er, rfl, hgot, hsm6, hg6⟩
  obtain ⟨kd, no, ep, lk, cs, hPV, hgx⟩ := got_pv hgot
  obtain ⟨A, cc, rfl, hcv⟩ := PV.form hPV
  have C6 := hide hcv
  have HG := hide hgx
  have HGOT := hide hgot
  have S6 := hide hsm6
  have G6 := hide (grown_trans GB.out hg6)
  have R6 := hide (R0.out.grown hg6 (fun e => by injection e; omega))
  clear hg6 hgot hcv hPV hgx GT GB R0 hsm6
  go_upto_region 2 with fail
  obtain ⟨w8, hw8⟩ : ∃ w8, w8 = w6.alloc (.cells #[.int .i64 kd, .int .i64 no, .int .i64 ep, .int .i64 lk, .slice A cs.length cc] 58) := ⟨_, rfl⟩
  have N8 : Below w6.heap.size w6 w8 := by rw [hw8]; exact (Below.refl _ _).alloc (Nat.le_refl _) _
  have Q8' : Blk w8 w6.heap.size 58 #[.int .i64 kd, .int .i64 no, .int .i64 ep, .int .i64 lk, .slice A cs.length cc] := by rw [hw8]; exact Blk.new _ _ _
  have C8 := hide (C6.out.below N8)
  have S8 := hide (show ∃ m, SumAt w8 g m from S6.out.elim fun m h => ⟨m, h.below N8 h.lt⟩)
  have G8 := hide (grown_trans G6.out (grown_of_below N8 (some g)))
  have R8 := hide (R6.out.below N8 R6.out.lt)
  obtain ⟨q, hq⟩ : ∃ q, q = w6.heap.size := ⟨_, rfl⟩
  have HQ := hide (show w.heap.size < q by rw [hq]; exact R6.out.lt)
  rw [← hq] at Q8'
  have Q8 := hide Q8'
  rw [← hw8, ← hq]
  clear N8 Q8' hw8 hq C6 S6 G6 R6
  obtain ⟨⟨z0, z1, z2, z3⟩, y0, y1, y2, y3⟩ := su_there R8.out
  have bad : ∀ er' : Int, (er' = 41 ∨ er' = 42) → er = er' → GotSu xs slot (suV ⟨0, 0, 0, 0⟩) er' := by
    intro er' h1 h2
    refine .inr ⟨fun x hcx hxx _ => ?_, by omega, rfl, fun hgd hcr => ?_⟩
    · obtain ⟨_, hgd, hcr⟩ := su_page hcx hxx
      rcases HGOT.out with ⟨h, _⟩ | ⟨_, h, _⟩ | ⟨_, _, h, _⟩
      · omega
      · exact h hcr
      · exact h hgd
    · rcases HGOT.out with ⟨h, _⟩ | ⟨_, h, _⟩ | ⟨_, _, h, _⟩
      · omega
      · exact (h hcr).elim
      · exact (h hgd).elim
  have BAD := hide bad
  clear bad
  rcases HG.out with ⟨rfl, hcr, hgd, hp⟩ | ⟨rfl, _, _⟩ | ⟨rfl, _, _⟩
  rotate_left
  · go_wp2_with fail
    refine bodyPost_ret (sget_results (su_blk R8.out _ _ _ _) rfl rfl) rfl ?_
    exact send_of S8.out G8.out hgl (BAD.out 42 (.inr rfl) rfl) _ _ _ _
  · go_wp2_with fail
    refine bodyPost_ret (sget_results (su_blk R8.out _ _ _ _) rfl rfl) rfl ?_
    exact send_of S8.out G8.out hgl (BAD.out 41 (.inl rfl) rfl) _ _ _ _
  clear BAD HG HGOT
  have bad70 : (∀ x, checkB x = true → (⟨kd, no, ep, lk, cs⟩ : Pg) = pgSu x → slot ≠ x.ep % 2) → GotSu xs slot (suV ⟨0, 0, 0, 0⟩) 70 := fun h =>
    .inr ⟨fun x hcx hxx => h x hcx (by rw [hp]; exact (su_page hcx hxx).1), .inr (.inr rfl), rfl, fun _ _ => rfl⟩
  have BAD := hide bad70
  have HP := hide hp
  have HGD := hide hgd
  clear bad70 hgd
  by_cases hl1 : cs.length = 1
  case neg =>
    have hli : ((cs.length : Int) != 1) = true := bne_yes (by omega)
    have B1 := hide (BAD.out fun x _ hpx => by injection hpx with _ _ _ _ h5; rw [h5] at hl1; exact (hl1 rfl).elim)
    obtain ⟨⟨q0, q1, q2, q3, q4⟩, _⟩ := page_cells Q8.out
    clear hp
    go_wp2_with fail
    refine bodyPost_ret (sget_results (su_blk R8.out _ _ _ _) rfl rfl) rfl ?_
    exact send_of S8.out G8.out hgl B1.out _ _ _ _
  obtain ⟨cell, rfl⟩ : ∃ cell, cs = [cell] := by
    match cs, hl1 with
    | [x], _ => exact ⟨x, rfl⟩
  clear hl1
  obtain ⟨rb, off, rfl, hcell⟩ : ∃ rb off, A = some ⟨rb, off, none⟩ ∧ w8.cell? ⟨rb, off, none⟩ = some (.string cell) := by
    obtain ⟨b, off, h1, _, h3⟩ := C8.out.at_ (k := 0) (by simp)
    exact ⟨b, off, by simpa using h1, by simpa using h3⟩
  have HC := hide hcell
  obtain ⟨⟨q0, q1, q2, q3, q4⟩, _⟩ := page_cells Q8.out
  by_cases hz : cell.size = 12
  case neg =>
    have hzi : ((cell.size : Int) != 12) = true := bne_yes (by omega)
    have B1 := hide (BAD.out fun x _ hpx => by
      injection hpx with _ _ _ _ h5
      injection h5 with h5
      exact (hz (by rw [h5]; exact cell_size _ _ _)).elim)
    clear hp
    go_wp2_with fail
    refine bodyPost_ret (sget_results (su_blk R8.out _ _ _ _) rfl rfl) rfl ?_
    exact send_of S8.out G8.out hgl B1.out _ _ _ _
  -- the numbers are Nats
  injection hp with p1 p2 p3 p4 p5
  obtain ⟨kdn, hkd⟩ : ∃ n, n = numAt xs 0 := ⟨_, rfl⟩
  obtain ⟨non, hno⟩ : ∃ n, n = getTo xs 2 4 := ⟨_, rfl⟩
  obtain ⟨epn, hep⟩ : ∃ n, n = getTo xs 6 4 := ⟨_, rfl⟩
  obtain ⟨lkn, hlk⟩ : ∃ n, n = getTo xs 10 4 := ⟨_, rfl⟩
  have hepl : epn ≤ 4294967295 := by rw [hep]; exact getTo_le _ _
  rw [← hkd] at p1
  rw [← hno] at p2
  rw [← hep] at p3
  rw [← hlk] at p4
  subst p1 p2 p3 p4
  clear p5 hkd hno hep hlk
  have hmf : ∀ (fn : Fn) (first cap : Array Value) (w : World), (Instr.makeFunc fn first cap).run Try.prog w = .ok (.func fn first cap) w := fun _ _ _ _ => rfl
  go_upto_region 8 with fail
  obtain ⟨w9, hw9⟩ : ∃ w9, w9 = w8.alloc (.cells #[.string cell] 9) := ⟨_, rfl⟩
  have N9 : Below w8.heap.size w8 w9 := by rw [hw9]; exact (Below.refl _ _).alloc (Nat.le_refl _) _
  have T9' : Blk w9 w8.heap.size 9 #[.string cell] := by rw [hw9]; exact Blk.new _ _ _
  have Q9 := hide (Q8.out.below N9 Q8.out.lt)
  have R9 := hide (R8.out.below N9 R8.out.lt)
  have S9 := hide (show ∃ m, SumAt w9 g m from S8.out.elim fun m h => ⟨m, h.below N9 h.lt⟩)
  have G9 := hide (grown_trans G8.out (grown_of_below N9 (some g)))
  obtain ⟨tb, htb⟩ : ∃ tb, tb = w8.heap.size := ⟨_, rfl⟩
  rw [← htb] at T9'
  have T9 := hide T9'
  rw [← hw9, ← htb]
  clear N9 T9' hw9 htb S8 G8 R8 Q8 C8 HC hcell q0 q1 q2 q3 q4 z0 z1 z2 z3 y0 y1 y2 y3
  have NU := hide (fun W i (h : Below w9.heap.size w9 W) (hi : i = 0 ∨ i = 4 ∨ i = 8) => num_any i cell tb W ((T9.out.below h T9.out.lt).cell 0) hz hi)
  have N0 := hide (fun W (h : Below w9.heap.size w9 W) => NU.out W 0 h (.inl rfl))
  have N4 := hide (fun W (h : Below w9.heap.size w9 W) => NU.out W 4 h (.inr (.inl rfl)))
  have N8 := hide (fun W (h : Below w9.heap.size w9 W) => NU.out W 8 h (.inr (.inr rfl)))
  have SF := hide (fun W (h : Below w9.heap.size w9 W) => And.intro ((Q9.out.below h Q9.out.lt).cell 2) ((Q9.out.below h Q9.out.lt).cell 0))
  clear NU
  obtain ⟨n0, hn0⟩ : ∃ n, n = getTo cell.data.toList 0 4 := ⟨_, rfl⟩
  obtain ⟨n4, hn4⟩ : ∃ n, n = getTo cell.data.toList 4 4 := ⟨_, rfl⟩
  obtain ⟨n8, hn8⟩ : ∃ n, n = getTo cell.data.toList 8 4 := ⟨_, rfl⟩
  rw [show (0 : Int).toNat = 0 from rfl, ← hn0] at N0
  rw [show (4 : Int).toNat = 4 from rfl, ← hn4] at N4
  rw [show (8 : Int).toNat = 8 from rfl, ← hn8] at N8
  have E0 := hide hn0
  have E4 := hide hn4
  have E8 := hide hn8
  clear hn0 hn4 hn8
  go_cut [12] (fun s12 wx => ∃ q2, s12 = .pointer (some ⟨q2, 0, none⟩) ∧ w9.heap.size ≤ q2 ∧ Blk wx q2 41 #[.int .i64 (epn : Int), .int .i64 (n0 : Int), .int .i64 (n4 : Int), .int .i64 (n8 : Int)] ∧ Below w9.heap.size w9 wx)
  case first =>
    go_region_held3 (fun W => W.cell? ⟨q, 2, none⟩ = some (.int .i64 (epn : Int)) ∧ W.cell? ⟨q, 0, none⟩ = some (.int .i64 (kdn : Int)))
      (first
        | exact SF.out _ (Below.refl _ _).drew
        | exact SF.out _ B5.out
        | exact SF.out _ (B5.out.alloc B5.out.size _)
        | exact SF.out _ ((Below.refl _ _).drew.alloc (Nat.le_refl _) _)
        | exact SF.out _ ((((B5.out.setCell TQ.out _).setCell TQ.out _).setCell TQ.out _).setCell TQ.out _))
      (first
        | (go_at_call_of 63 (Value.int .i64 0)
           refine (N0.out _ (by first | exact B5.out | exact (Below.refl _ _).drew | exact B5.out.alloc B5.out.size _ | exact ((Below.refl _ _).drew).alloc (Nat.le_refl _) _)).mono ?_
           rintro e W5 ⟨rfl, hb5⟩
           first
             | (have TB := hide (TB.out.below hb5 TB.out.lt)
                have B5 := hide (B5.out.trans (hb5.mono B5.out.size))
                obtain ⟨⟨t0, t1, t2, t3⟩, t4, t5, t6, t7⟩ := su_there TB.out)
             | (have TQ := hide B5.out.size
                have TB := hide ((Blk.new _ 41 #[.int .i64 0, .int .i64 0, .int .i64 0, .int .i64 0]).below hb5 (by simp))
                have B5 := hide ((B5.out.alloc B5.out.size _).trans (hb5.mono (B5.out.alloc B5.out.size _).size))
                obtain ⟨⟨t0, t1, t2, t3⟩, t4, t5, t6, t7⟩ := su_there TB.out)
             | (have TQ := hide (Nat.le_refl w9.heap.size)
                have TB := hide ((show Blk (w9.alloc (.cells #[.int .i64 0, .int .i64 0, .int .i64 0, .int .i64 0] 41)).drew w9.heap.size 41 #[.int .i64 0, .int .i64 0, .int .i64 0, .int .i64 0] from (Blk.new _ _ _).drew).below hb5 (by simp))
                have B5 := hide (((Below.refl w9.heap.size w9).drew.alloc (Nat.le_refl _) (.cells #[.int .i64 0, .int .i64 0, .int .i64 0, .int .i64 0] 41)).trans (hb5.mono ((Below.refl w9.heap.size w9).drew.alloc (Nat.le_refl _) (.cells #[.int .i64 0, .int .i64 0, .int .i64 0, .int .i64 0] 41)).size))
                obtain ⟨⟨t0, t1, t2, t3⟩, t4, t5, t6, t7⟩ := su_there TB.out)
             | have B5 := hide (B5.out.trans (hb5.mono B5.out.size))
             | have B5 := hide ((Below.refl w9.heap.size w9).drew.trans (hb5.mono (Nat.le_refl _)))
           clear hb5)
        | (go_at_call_of 63 (Value.int .i64 4)
           refine (N4.out _ (by first | exact B5.out | exact (Below.refl _ _).drew | exact B5.out.alloc B5.out.size _ | exact ((Below.refl _ _).drew).alloc (Nat.le_refl _) _)).mono ?_
           rintro e W5 ⟨rfl, hb5⟩
           first
             | (have TB := hide (TB.out.below hb5 TB.out.lt)
                have B5 := hide (B5.out.trans (hb5.mono B5.out.size))
                obtain ⟨⟨t0, t1, t2, t3⟩, t4, t5, t6, t7⟩ := su_there TB.out)
             | (have TQ := hide B5.out.size
                have TB := hide ((Blk.new _ 41 #[.int .i64 0, .int .i64 0, .int .i64 0, .int .i64 0]).below hb5 (by simp))
                have B5 := hide ((B5.out.alloc B5.out.size _).trans (hb5.mono (B5.out.alloc B5.out.size _).size))
                obtain ⟨⟨t0, t1, t2, t3⟩, t4, t5, t6, t7⟩ := su_there TB.out)
             | (have TQ := hide (Nat.le_refl w9.heap.size)
                have TB := hide ((show Blk (w9.alloc (.cells #[.int .i64 0, .int .i64 0, .int .i64 0, .int .i64 0] 41)).drew w9.heap.size 41 #[.int .i64 0, .int .i64 0, .int .i64 0, .int .i64 0] from (Blk.new _ _ _).drew).below hb5 (by simp))
                have B5 := hide (((Below.refl w9.heap.size w9).drew.alloc (Nat.le_refl _) (.cells #[.int .i64 0, .int .i64 0, .int .i64 0, .int .i64 0] 41)).trans (hb5.mono ((Below.refl w9.heap.size w9).drew.alloc (Nat.le_refl _) (.cells #[.int .i64 0, .int .i64 0, .int .i64 0, .int .i64 0] 41)).size))
                obtain ⟨⟨t0, t1, t2, t3⟩, t4, t5, t6, t7⟩ := su_there TB.out)
             | have B5 := hide (B5.out.trans (hb5.mono B5.out.size))
             | have B5 := hide ((Below.refl w9.heap.size w9).drew.trans (hb5.mono (Nat.le_refl _)))
           clear hb5)
        | (go_at_call_of 63 (Value.int .i64 8)
           refine (N8.out _ (by first | exact B5.out | exact (Below.refl _ _).drew | exact B5.out.alloc B5.out.size _ | exact ((Below.refl _ _).drew).alloc (Nat.le_refl _) _)).mono ?_
           rintro e W5 ⟨rfl, hb5⟩
           first
             | (have TB := hide (TB.out.below hb5 TB.out.lt)
                have B5 := hide (B5.out.trans (hb5.mono B5.out.size))
                obtain ⟨⟨t0, t1, t2, t3⟩, t4, t5, t6, t7⟩ := su_there TB.out)
             | (have TQ := hide B5.out.size
                have TB := hide ((Blk.new _ 41 #[.int .i64 0, .int .i64 0, .int .i64 0, .int .i64 0]).below hb5 (by simp))
                have B5 := hide ((B5.out.alloc B5.out.size _).trans (hb5.mono (B5.out.alloc B5.out.size _).size))
                obtain ⟨⟨t0, t1, t2, t3⟩, t4, t5, t6, t7⟩ := su_there TB.out)
             | (have TQ := hide (Nat.le_refl w9.heap.size)
                have TB := hide ((show Blk (w9.alloc (.cells #[.int .i64 0, .int .i64 0, .int .i64 0, .int .i64 0] 41)).drew w9.heap.size 41 #[.int .i64 0, .int .i64 0, .int .i64 0, .int .i64 0] from (Blk.new _ _ _).drew).below hb5 (by simp))
                have B5 := hide (((Below.refl w9.heap.size w9).drew.alloc (Nat.le_refl _) (.cells #[.int .i64 0, .int .i64 0, .int .i64 0, .int .i64 0] 41)).trans (hb5.mono ((Below.refl w9.heap.size w9).drew.alloc (Nat.le_refl _) (.cells #[.int .i64 0, .int .i64 0, .int .i64 0, .int .i64 0] 41)).size))
                obtain ⟨⟨t0, t1, t2, t3⟩, t4, t5, t6, t7⟩ := su_there TB.out)
             | have B5 := hide (B5.out.trans (hb5.mono B5.out.size))
             | have B5 := hide ((Below.refl w9.heap.size w9).drew.trans (hb5.mono (Nat.le_refl _)))
           clear hb5))
    all_goals (
      go_wp2_with fail
      go_meet
      first
        | exact ⟨_, rfl, TQ.out, su_blk TB.out _ _ _ _, (((B5.out.setCell TQ.out _).setCell TQ.out _).setCell TQ.out _).setCell TQ.out _⟩
        | exact ⟨_, rfl, B5.out.size, Blk.new _ _ _, B5.out.alloc B5.out.size _⟩)
  obtain ⟨q2, rfl, hq2, hbk, hbel⟩ := hcut
  have XA := hide hbk
  have QA := hide (Q9.out.below hbel Q9.out.lt)
  have RA := hide (R9.out.below hbel R9.out.lt)
  have SA := hide (show ∃ m, SumAt wc g m from S9.out.elim fun m h => ⟨m, h.below hbel h.lt⟩)
  have GA := hide (grown_trans G9.out (grown_of_below hbel (some g)))
  clear hbk hbel Q9 R9 S9 G9 T9 N0 N4 N8 SF hmf
  obtain ⟨⟨q0, q1, q2', q3, q4⟩, _⟩ := page_cells QA.out
  obtain ⟨⟨z0, z1, z2, z3⟩, y0, y1, y2, y3⟩ := su_there RA.out
  obtain ⟨⟨x0, x1, x2, x3⟩, _⟩ := su_there XA.out
  have hand := and_one epn (by omega)
  obtain ⟨sl, hsl⟩ : ∃ sl, sl = epn % 2 := ⟨_, rfl⟩
  rw [← hsl] at hand
  have ESL := hide hsl
  clear hsl
  by_cases h1 : (kdn : Int) = 9
  case neg =>
    have t1 := bne_yes h1
    have B1 := hide (BAD.out fun x hcx hpx => by
      injection hpx with e1 e2 e3 e4 e5
      exact (h1 e1).elim)
    go_wp2_with fail
    refine bodyPost_ret (sget_results (su_blk RA.out _ _ _ _) rfl rfl) rfl ?_
    exact send_of SA.out GA.out hgl B1.out _ _ _ _
  have t1 := bne_no h1
  by_cases h2 : (non : Int) = slot
  case neg =>
    have t2 := bne_yes h2
    have B1 := hide (BAD.out fun x hcx hpx => by
      injection hpx with e1 e2 e3 e4 e5
      intro hh; exact h2 (by rw [hh]; exact e2))
    go_wp2_with fail
    refine bodyPost_ret (sget_results (su_blk RA.out _ _ _ _) rfl rfl) rfl ?_
    exact send_of SA.out GA.out hgl B1.out _ _ _ _
  have t2 := bne_no h2
  by_cases h3 : (lkn : Int) = 0
  case neg =>
    have t3 := bne_yes h3
    have B1 := hide (BAD.out fun x hcx hpx => by
      injection hpx with e1 e2 e3 e4 e5
      exact (h3 e4).elim)
    go_wp2_with fail
    refine bodyPost_ret (sget_results (su_blk RA.out _ _ _ _) rfl rfl) rfl ?_
    exact send_of SA.out GA.out hgl B1.out _ _ _ _
  have t3 := bne_no h3
  by_cases h4 : (sl : Int) = slot
  case neg =>
    have t4 := bne_yes h4
    have B1 := hide (BAD.out fun x hcx hpx => by
      injection hpx with e1 e2 e3 e4 e5
      intro hh; have := ESL.out; exact h4 (by rw [hh, ← e3]; omega))
    go_wp2_with fail
    refine bodyPost_ret (sget_results (su_blk RA.out _ _ _ _) rfl rfl) rfl ?_
    exact send_of SA.out GA.out hgl B1.out _ _ _ _
  have t4 := bne_no h4
  have CH := hide (fun W => check_any ⟨epn, n0, n4, n8⟩ W)
  by_cases h5 : checkB ⟨epn, n0, n4, n8⟩ = true
  case neg =>
    rw [show checkB ⟨epn, n0, n4, n8⟩ = false by simpa using h5] at CH
    have B1 := hide (BAD.out fun x hcx hpx => by
      injection hpx with e1 e2 e3 e4 e5
      injection e5 with e5
      have hxx := su_same hcx e5.symm e3 E0.out E4.out E8.out
      rw [hxx] at hcx
      exact (h5 hcx).elim)
    clear h1 h2 h3 h4 h5
    unfold suV at CH
    go_wp2_with fail
    refine (CH.out _).mono ?_
    rintro e W' ⟨rfl, hb'⟩
    have RB := hide (RA.out.below hb' RA.out.lt)
    have SB := hide (show ∃ m, SumAt W' g m from SA.out.elim fun m h => ⟨m, h.below hb' h.lt⟩)
    have GB := hide (grown_trans GA.out (grown_of_below hb' (some g)))
    clear hb' z0 z1 z2 z3 y0 y1 y2 y3 q0 q1 q2' q3 q4 x0 x1 x2 x3
    obtain ⟨⟨z0, z1, z2, z3⟩, y0, y1, y2, y3⟩ := su_there RB.out
    go_wp2_with fail
    refine bodyPost_ret (sget_results (su_blk RB.out _ _ _ _) rfl rfl) rfl ?_
    exact send_of SB.out GB.out hgl B1.out _ _ _ _
  rw [h5] at CH
  have hgood : GotSu xs slot (suV ⟨epn, n0, n4, n8⟩) 0 := by
    have hpg : pgOf xs = ⟨9, non, epn, 0, [cell]⟩ := by rw [← HP.out, h1, h3]
    have hm := su_made HGD.out hpg hz h2 (by rw [← ESL.out]; exact h4)
    rw [← E0.out, ← E4.out, ← E8.out] at hm
    exact .inl ⟨_, h5, hm.1, hm.2, rfl, rfl⟩
  have HGO := hide hgood
  clear h1 h2 h3 h4 h5 hgood
  unfold suV at CH
  go_wp2_with fail
  refine (CH.out _).mono ?_
  rintro e W' ⟨rfl, hb'⟩
  have RB := hide (RA.out.below hb' RA.out.lt)
  have XB := hide (XA.out.below hb' XA.out.lt)
  have SB := hide (show ∃ m, SumAt W' g m from SA.out.elim fun m h => ⟨m, h.below hb' h.lt⟩)
  have GB := hide (grown_trans GA.out (grown_of_below hb' (some g)))
  clear hb' z0 z1 z2 z3 y0 y1 y2 y3 q0 q1 q2' q3 q4 x0 x1 x2 x3
  obtain ⟨⟨z0, z1, z2, z3⟩, y0, y1, y2, y3⟩ := su_there RB.out
  obtain ⟨⟨x0, x1, x2, x3⟩, _⟩ := su_there XB.out
  go_wp2_with fail
  refine bodyPost_ret (sget_results (su_blk RB.out _ _ _ _) rfl rfl) rfl ?_
  exact send_of SB.out GB.out hgl HGO.out _ _ _ _
end Go.Proofs.Ytljfomgcoodjkaa
