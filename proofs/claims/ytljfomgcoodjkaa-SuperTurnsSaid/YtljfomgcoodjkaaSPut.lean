/- super.Put and the document's own Put of a super. -/
import Derived.Test.YtljfomgcoodjkaaSCell
import Derived.Deep.RegionHeld3
namespace Go.Proofs.Ytljfomgcoodjkaa
open Go.RowKit

/-- The page that a super is; its bytes. -/
def pgSu (x : Su) : Pg := ⟨9, x.ep % 2, x.ep, 0, [strOf (cellTo x.rt.toNat x.fr.toNat x.pg.toNat 3)]⟩
def bytesSu (x : Su) : List UInt8 := bytesPg (pgSu x)
theorem check_nat {x : Su} (h : checkB x = true) : ∃ ep rt fr pg : Nat, x = ⟨ep, rt, fr, pg⟩ ∧ ep ≤ 4294967295 ∧ pg ≤ 4096 ∧ rt ≤ 4096 ∧ fr ≤ 4096 ∧ 2 ≤ pg := by
  obtain ⟨ep, rt, fr, pg⟩ := x
  simp only [checkB, placeB, Bool.and_eq_true, Bool.or_eq_true, decide_eq_true_eq] at h
  obtain ⟨ep, rfl⟩ := Int.eq_ofNat_of_zero_le (show (0 : Int) ≤ ep by omega)
  obtain ⟨rt, rfl⟩ := Int.eq_ofNat_of_zero_le (show (0 : Int) ≤ rt by omega)
  obtain ⟨fr, rfl⟩ := Int.eq_ofNat_of_zero_le (show (0 : Int) ≤ fr by omega)
  obtain ⟨pg, rfl⟩ := Int.eq_ofNat_of_zero_le (show (0 : Int) ≤ pg by omega)
  exact ⟨ep, rt, fr, pg, rfl, by omega, by omega, by omega, by omega, by omega⟩
theorem cell_size (a b c : Nat) : (strOf (cellTo a b c 3)).size = 12 := strOf_size _
theorem fits_one {s : ByteArray} (h : s.size = 12) : fitsB [s] = true := (fits_iff _).2 ⟨by simp [room, tot, h], fun x hx => by rw [List.mem_singleton.1 hx]; omega⟩
theorem ok_su {x : Su} (h : checkB x = true) : OkPg (pgSu x) := by
  obtain ⟨ep, rt, fr, pg, rfl, h1, _⟩ := check_nat h
  refine ⟨fits_one (cell_size _ _ _), (form_iff _).2 ?_⟩
  show ((1 : Int) ≤ 9 ∧ (9 : Int) ≤ 255) ∧ ((0 : Int) ≤ (ep : Int) % 2 ∧ (ep : Int) % 2 ≤ 4294967295) ∧ ((0 : Int) ≤ (ep : Int) ∧ (ep : Int) ≤ 4294967295) ∧ ((0 : Int) ≤ 0 ∧ (0 : Int) ≤ 4294967295)
  omega
theorem bytes_su (ep rt fr pg : Nat) : bytesSu ⟨ep, rt, fr, pg⟩ = pageOf 9 (ep % 2) ep 0 [strOf (cellTo rt fr pg 3)] := rfl
theorem and_one (n : Nat) (h : n ≤ 9223372036854775807) : bits .and .i64 (n : Int) 1 = ((n % 2 : Nat) : Int) := by
  have := i64_and_nat n 1 (by omega) (by omega)
  rw [Nat.and_one_is_mod] at this
  exact this

/-- A page of one cell, laid in a new block. -/
theorem one_cell {w W : World} {g : Nat} {s : ByteArray} {kd no ep lk : Int} (hb : Below w.heap.size w W) (hg : g < w.heap.size) (hz : s.size = 12) :
    PV (W.alloc (.cells #[.string s] 9)) g (.agg #[.int .i64 kd, .int .i64 no, .int .i64 ep, .int .i64 lk, .slice (some ⟨W.heap.size, 0, none⟩) 1 1]) ⟨kd, no, ep, lk, [s]⟩ := by
  refine ⟨_, rfl, some ⟨W.heap.size, 0, none⟩, 1, rfl, Nat.le_refl _, by unfold maxLen; omega, fun x hx => ?_, .inr ⟨W.heap.size, 0, rfl, by have := hb.size; omega, fun i hi => ?_⟩⟩
  · rw [List.mem_singleton.1 hx, hz]; unfold maxLen; omega
  · have h0 : i = 0 := by simp at hi; exact hi
    subst h0
    exact (Blk.new W 9 #[.string s]).cell 0

set_option maxRecDepth 100000 in
set_option maxHeartbeats 1600000 in
/-- 'super.Put', a super that may not be. -/
theorem sput_no (g : Nat) (x : Su) (w : World) (hc : checkB x = false) :
    Calls Try.prog 32 #[.pointer (some ⟨g, 0, none⟩), suV x] w fun e w' => e = .returned (.tuple #[.slice none 0 0, .int .i64 0, .int .i64 70]) ∧ Below w.heap.size w w' := by
  obtain ⟨wb, hwb⟩ : ∃ wb, wb = w.alloc (.cells #[.int .i64 x.ep, .int .i64 x.rt, .int .i64 x.fr, .int .i64 x.pg] 41) := ⟨_, rfl⟩
  obtain ⟨k0, k1, k2, k3⟩ := su_cells w x
  have NB : Below w.heap.size w wb := by rw [hwb]; exact (Below.refl _ _).alloc (Nat.le_refl _) _
  rw [← hwb] at k0 k1 k2 k3
  have CH := hide (check_any x wb)
  rw [hc] at CH
  have NN := hide NB
  clear NB hc
  unfold suV at CH ⊢
  go_enter Try.func32, Try.ntmps32
  go_upto_region 1 with fail
  rw [← hwb]
  clear hwb
  go_wp2_with fail
  refine CH.out.mono ?_
  rintro e w2 ⟨rfl, hb⟩
  have N2 := hide (NN.out.trans (hb.mono NN.out.size))
  clear hb
  go_wp2_with fail
  go_ret3
  exact ⟨rfl, N2.out⟩

set_option maxRecDepth 100000 in
set_option maxHeartbeats 1600000 in
/-- 'super.Put', a super that may be. -/
theorem sput_ok (g : Nat) (m : Int) (x : Su) (w : World) (hs : SumAt w g m) (hc : checkB x = true) :
    Calls Try.prog 32 #[.pointer (some ⟨g, 0, none⟩), suV x] w fun e w' => ∃ b, e = .returned (.tuple #[.slice (some ⟨b, 0, none⟩) 256 256, .int .i64 (x.ep % 2), .int .i64 0]) ∧ w.heap.size ≤ b ∧ Buf w' b (bytesSu x) ∧ (∃ m, SumAt w' g m) ∧ w.grownBy w' (some g) := by
  have CH0 := fun W => check_any x W
  rw [hc] at CH0
  obtain ⟨ep, rt, fr, pg, rfl, h1, h2, h3, h4, h5⟩ := check_nat hc
  obtain ⟨wb, hwb⟩ : ∃ wb, wb = w.alloc (.cells #[.int .i64 (ep : Int), .int .i64 (rt : Int), .int .i64 (fr : Int), .int .i64 (pg : Int)] 41) := ⟨_, rfl⟩
  obtain ⟨k0, k1, k2, k3⟩ := su_cells w ⟨ep, rt, fr, pg⟩
  have NB : Below w.heap.size w wb := by rw [hwb]; exact (Below.refl _ _).alloc (Nat.le_refl _) _
  have BX : Blk wb w.heap.size 41 #[.int .i64 (ep : Int), .int .i64 (rt : Int), .int .i64 (fr : Int), .int .i64 (pg : Int)] := by rw [hwb]; exact Blk.new _ _ _
  dsimp only at k0 k1 k2 k3
  rw [← hwb] at k0 k1 k2 k3
  have CH := hide (CH0 wb)
  have NN := hide NB
  have HX := hide BX
  have HS := hide hs
  clear NB hc CH0 BX hs
  unfold suV at CH ⊢
  go_enter Try.func32, Try.ntmps32
  go_upto_region 1 with fail
  rw [← hwb]
  clear hwb
  go_wp2_with fail
  refine CH.out.mono ?_
  rintro e w2 ⟨rfl, hb⟩
  have N2 := hide (NN.out.trans (hb.mono NN.out.size))
  have X2 := hide (HX.out.below hb HX.out.lt)
  have S2 := hide (HS.out.below N2.out HS.out.lt)
  have Z2 := hide (show w.heap.size < w2.heap.size from X2.out.lt)
  clear hb k0 k1 k2 k3 CH HX
  have k0 : w2.cell? ⟨w.heap.size, 0, none⟩ = some (.int .i64 (ep : Int)) := X2.out.cell 0
  have hand := and_one ep (by omega)
  obtain ⟨sl, hsl⟩ : ∃ sl, sl = ep % 2 := ⟨_, rfl⟩
  rw [← hsl] at hand
  have hsl1 : sl ≤ 1 := by omega
  have hgl := HS.out.lt
  have hg2 := S2.out.lt
  have CE := hide (fun W (h : Below w2.heap.size w2 W) => from_base h (cell_any (ep : Int) rt fr pg W (by omega) (by omega) (by omega)))
  obtain ⟨cl, hcl⟩ : ∃ cl, cl = strOf (cellTo rt fr pg 3) := ⟨_, rfl⟩
  have hcz : cl.size = 12 := by rw [hcl]; exact cell_size _ _ _
  rw [← hcl] at CE
  have PT := hide (fun W (h : Below w2.heap.size w2 W) => (put_ok g m (.agg #[.int .i64 9, .int .i64 (sl : Int), .int .i64 (ep : Int), .int .i64 0, .slice (some ⟨W.heap.size, 0, none⟩) 1 1]) [cl] 9 sl ep 0 (W.alloc (.cells #[.string cl] 9))
    (S2.out.below (h.alloc h.size _) hg2) (one_cell h hg2 hcz) (fits_one hcz) (by omega) (by omega) (by omega) (by omega) (by omega)).mono
      (R' := fun e w' => ∃ b, e = .returned (.tuple #[.slice (some ⟨b, 0, none⟩) 256 256, .int .i64 0]) ∧ w.heap.size ≤ b ∧ Buf w' b (bytesSu ⟨ep, rt, fr, pg⟩) ∧ (∃ m, SumAt w' g m) ∧ w2.grownBy w' (some g))
      (by
        rintro e w' ⟨b, he, hbn, hbuf, hsm, hg⟩
        refine ⟨b, he, ?_, ?_, hsm, grown_trans (grown_of_below (h.alloc h.size _) _) hg⟩
        · have := h.size; have := Z2.out; simp at hbn; omega
        · rw [bytes_su, ← hsl, ← hcl]; exact hbuf))
  have ESL := hide hsl
  clear hsl hcl
  have SF := hide (fun W (h : Below w2.heap.size w2 W) => And.intro h (And.intro ((X2.out.below h X2.out.lt).cell 0) (And.intro ((X2.out.below h X2.out.lt).cell 1) (And.intro ((X2.out.below h X2.out.lt).cell 2) ((X2.out.below h X2.out.lt).cell 3)))))
  have SG := hide (fun W (h : w2.grownBy W (some g)) => And.intro ((X2.out.grown h (fun e => by injection e; omega)).cell 0) (And.intro ((X2.out.grown h (fun e => by injection e; omega)).cell 1) (And.intro ((X2.out.grown h (fun e => by injection e; omega)).cell 2) ((X2.out.grown h (fun e => by injection e; omega)).cell 3))))
  go_upto_region 4 with fail
  go_cut [8, 9] (fun s8 s9 wx => ∃ b, s8 = .slice (some ⟨b, 0, none⟩) 256 256 ∧ s9 = .int .i64 0 ∧ w.heap.size ≤ b ∧ Buf wx b (bytesSu ⟨ep, rt, fr, pg⟩) ∧ (∃ m, SumAt wx g m) ∧ w2.grownBy wx (some g))
  case first =>
    go_region_held3 (fun W => W.cell? ⟨w.heap.size, 0, none⟩ = some (.int .i64 (ep : Int)) ∧ W.cell? ⟨w.heap.size, 1, none⟩ = some (.int .i64 (rt : Int)) ∧ W.cell? ⟨w.heap.size, 2, none⟩ = some (.int .i64 (fr : Int)) ∧ W.cell? ⟨w.heap.size, 3, none⟩ = some (.int .i64 (pg : Int)))
      (first
        | exact (SF.out _ (Below.refl _ _).drew).2
        | exact (SF.out _ B5.out).2
        | exact (SF.out _ (B5.out.alloc B5.out.size _)).2
        | exact SG.out _ G6.out)
      (first
        | (go_at_call 52; refine (CE.out _ (Below.refl _ _).drew).mono ?_; rintro e W5 ⟨rfl, hb5⟩; have B5 := hide hb5; clear hb5)
        | (go_at_call 36; refine (PT.out _ B5.out).mono ?_; rintro e W6 ⟨b6, rfl, hb6, hbuf6, hsm6, hg6⟩; have G6 := hide hg6; have D6 := hide (And.intro hb6 (And.intro hbuf6 hsm6)); clear hb6 hbuf6 hsm6 hg6))
    all_goals (
      go_wp2_with fail
      go_meet
      exact ⟨_, rfl, rfl, D6.out.1, D6.out.2.1, D6.out.2.2, G6.out⟩)
  obtain ⟨b, rfl, rfl, hbn, hbuf, hsm, hg⟩ := hcut
  have D6 := hide (And.intro hbn (And.intro hbuf hsm))
  have G6 := hide (grown_trans (grown_of_below N2.out (some g)) hg)
  clear hbn hbuf hsm hg
  go_wp2_with fail
  go_ret3
  exact ⟨b, by rw [ESL.out]; rfl, D6.out.1, D6.out.2.1, D6.out.2.2, G6.out⟩

set_option maxRecDepth 100000 in
set_option maxHeartbeats 800000 in
/-- 'lunetteref07.four'. -/
theorem ref_four7 (n : Nat) (w : World) (hn : n ≤ 4294967295) :
    Calls Try.prog 51 #[.int .i64 n] w fun e w' => e = .returned (.string (strOf (four n))) ∧ Below w.heap.size w w' := by
  have cv := conv_back (c := 4) (four_row n (by omega) w) (four_length n)
  go_enter Try.func51, Try.ntmps51
  go_wp2_with fail
  go_ret
  exact ⟨rfl, (Below.refl _ _).alloc (Nat.le_refl _) _⟩

theorem next_results {W : World} {r : Nat} {a b c d : Value} {tmps : Array Value} (h : Blk W r 41 #[a, b, c, d]) (h8 : tmps[8]? = some (.pointer (some ⟨r, 0, none⟩))) :
    (results Try.f33 tmps).run Try.prog W = .ok (.agg #[a, b, c, d]) W := by
  have k0 := h.cell 0
  have k1 := h.cell 1
  have k2 := h.cell 2
  have k3 := h.cell 3
  simp at k0 k1 k2 k3
  simp [results, Try.results33, go_sem, h8, k0, k1, k2, k3]

set_option maxRecDepth 100000 in
set_option maxHeartbeats 800000 in
/-- 'super.Next'. -/
theorem next_any (x : Su) (r f p : Int) (w : World) (h0 : 0 ≤ x.ep) (h1 : x.ep ≤ 4294967296) :
    Calls Try.prog 33 #[suV x, .int .i64 r, .int .i64 f, .int .i64 p] w fun e w' => e = .returned (suV ⟨x.ep + 1, r, f, p⟩) ∧ Below w.heap.size w w' := by
  obtain ⟨ep, rt, fr, pg⟩ := x
  dsimp only at h0 h1
  unfold suV
  go_enter Try.func33, Try.ntmps33
  go_wp2_with fail
  have hB := Blk.new (w.alloc (.cells #[.int .i64 ep, .int .i64 rt, .int .i64 fr, .int .i64 pg] 41)) 41 #[.int .i64 (ep + 1), .int .i64 r, .int .i64 f, .int .i64 p]
  rw [World.size_alloc] at hB
  refine bodyPost_ret (next_results hB rfl) rfl ?_
  exact ⟨rfl, ((Below.refl _ _).alloc (Nat.le_refl _) _).alloc (by simp) _⟩

set_option maxRecDepth 100000 in
set_option maxHeartbeats 1600000 in
/-- 'lunetteref07.Put', a super that may be. -/
theorem ref_sput (x : Su) (w : World) (hc : checkB x = true) :
    Calls Try.prog 30 #[suV x] w fun e w' => e = .returned (.string (strOf (bytesSu x))) ∧ Below w.heap.size w w' := by
  obtain ⟨ep, rt, fr, pg, rfl, h1, h2, h3, h4, h5⟩ := check_nat hc
  obtain ⟨wb, hwb⟩ : ∃ wb, wb = w.alloc (.cells #[.int .i64 (ep : Int), .int .i64 (rt : Int), .int .i64 (fr : Int), .int .i64 (pg : Int)] 41) := ⟨_, rfl⟩
  have NB : Below w.heap.size w wb := by rw [hwb]; exact (Below.refl _ _).alloc (Nat.le_refl _) _
  have BX : Blk wb w.heap.size 41 #[.int .i64 (ep : Int), .int .i64 (rt : Int), .int .i64 (fr : Int), .int .i64 (pg : Int)] := by rw [hwb]; exact Blk.new _ _ _
  have NN := hide NB
  have HX := hide BX
  have SF := hide (fun W (h : Below wb.heap.size wb W) => And.intro ((HX.out.below h HX.out.lt).cell 0) (And.intro ((HX.out.below h HX.out.lt).cell 1) (And.intro ((HX.out.below h HX.out.lt).cell 2) ((HX.out.below h HX.out.lt).cell 3))))
  have F7 := hide (fun W n (hn : n ≤ 4294967295) (h : Below wb.heap.size wb W) => from_base h (ref_four7 n W hn))
  have hand : (ep : Int).tmod 2 = ((ep % 2 : Nat) : Int) := rfl
  obtain ⟨sl, hsl⟩ : ∃ sl, sl = ep % 2 := ⟨_, rfl⟩
  rw [← hsl] at hand
  have hsl1 : sl ≤ 1 := by omega
  obtain ⟨s1, hs1⟩ : ∃ s, s = strOf (four rt) := ⟨_, rfl⟩
  obtain ⟨s2, hs2⟩ : ∃ s, s = strOf (four fr) := ⟨_, rfl⟩
  obtain ⟨s3, hs3⟩ : ∃ s, s = strOf (four pg) := ⟨_, rfl⟩
  have z1 : s1.size = 4 := by rw [hs1]; exact strOf_size _
  have z2 : s2.size = 4 := by rw [hs2]; exact strOf_size _
  have z3 : s3.size = 4 := by rw [hs3]; exact strOf_size _
  have ecl : s1 ++ s2 ++ s3 = strOf (cellTo rt fr pg 3) := by rw [hs1, hs2, hs3, strOf_cat, strOf_cat]; rfl
  have hcz : (s1 ++ s2 ++ s3).size = 12 := by rw [ecl]; exact cell_size _ _ _
  have A1 := hide (fun W (h : Below wb.heap.size wb W) => F7.out W rt (by omega) h)
  have A2 := hide (fun W (h : Below wb.heap.size wb W) => F7.out W fr (by omega) h)
  have A3 := hide (fun W (h : Below wb.heap.size wb W) => F7.out W pg (by omega) h)
  rw [← hs1] at A1
  rw [← hs2] at A2
  rw [← hs3] at A3
  have RT := hide (fun W (h : Below wb.heap.size wb W) => from_base (h.alloc h.size (.cells #[.string (s1 ++ s2 ++ s3)] 9)) (ref_put_ok w.heap.size (.agg #[.int .i64 9, .int .i64 (sl : Int), .int .i64 (ep : Int), .int .i64 0, .slice (some ⟨W.heap.size, 0, none⟩) 1 1]) [s1 ++ s2 ++ s3] 9 sl ep 0 (W.alloc (.cells #[.string (s1 ++ s2 ++ s3)] 9))
    (one_cell h HX.out.lt hcz) (fits_one hcz) (by omega) (by omega) (by omega) (by omega) (by omega)))
  have EB : pageOf 9 sl ep 0 [s1 ++ s2 ++ s3] = bytesSu ⟨ep, rt, fr, pg⟩ := by rw [bytes_su, hsl, ecl]
  obtain ⟨X, hX⟩ : ∃ X, X = strOf (bytesSu ⟨ep, rt, fr, pg⟩) := ⟨_, rfl⟩
  rw [EB, ← hX] at RT
  have EX := hide hX
  clear EB hX
  have ESL := hide hsl
  clear NB hc BX hs1 hs2 hs3 ecl hsl F7 HX
  unfold suV
  go_enter Try.func30, Try.ntmps30
  go_upto_region 1 with fail
  rw [← hwb]
  clear hwb
  go_region_held3 (fun W => W.cell? ⟨w.heap.size, 0, none⟩ = some (.int .i64 (ep : Int)) ∧ W.cell? ⟨w.heap.size, 1, none⟩ = some (.int .i64 (rt : Int)) ∧ W.cell? ⟨w.heap.size, 2, none⟩ = some (.int .i64 (fr : Int)) ∧ W.cell? ⟨w.heap.size, 3, none⟩ = some (.int .i64 (pg : Int)))
      (first
        | exact SF.out _ (Below.refl _ _).drew
        | exact SF.out _ B9.out
        | exact SF.out _ (B8.out.alloc B8.out.size _)
        | exact SF.out _ B8.out)
      (first
        | (go_at_call_of 51 rt; refine (A1.out _ (by first | exact B8.out | exact (Below.refl _ _).drew)).mono ?_; rintro e W5 ⟨rfl, hb5⟩; have B8 := hide hb5; clear hb5)
        | (go_at_call_of 51 fr; refine (A2.out _ (by first | exact B8.out | exact (Below.refl _ _).drew)).mono ?_; rintro e W5 ⟨rfl, hb5⟩; have B8 := hide hb5; clear hb5)
        | (go_at_call_of 51 pg; refine (A3.out _ (by first | exact B8.out | exact (Below.refl _ _).drew)).mono ?_; rintro e W5 ⟨rfl, hb5⟩; have B8 := hide hb5; clear hb5)
        | (go_at_call 37; refine (RT.out _ B8.out).mono ?_; rintro e W6 ⟨rfl, hb6⟩; have B9 := hide hb6; clear hb6))
  all_goals (
    go_wp2_with fail
    go_ret
    exact ⟨congrArg (fun s => Ending.returned (.string s)) EX.out, NN.out.trans (B9.out.mono NN.out.size)⟩)
end Go.Proofs.Ytljfomgcoodjkaa
