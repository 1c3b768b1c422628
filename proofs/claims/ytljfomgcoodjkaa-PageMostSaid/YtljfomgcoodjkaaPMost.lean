/- A cell of just so many bytes as are left fits, one of one more does not: the law's walk. -/
import Derived.Test.YtljfomgcoodjkaaPutAll
import Derived.Test.YtljfomgcoodjkaaPRooms
import Derived.Deep.RegionLaw
namespace Go.Proofs.Ytljfomgcoodjkaa
open Go.RowKit

/-- A text of noughts. -/
def zs (n : Nat) : ByteArray := strOf (List.replicate n 0)
theorem zs_size (n : Nat) : (zs n).size = n := by unfold zs; rw [strOf_size, List.length_replicate]
theorem zeroW_size (w : World) (n : Nat) : (zeroW w n).heap.size = w.heap.size + 1 := by
  unfold zeroW; simp
theorem zeroW_below (w : World) (n : Nat) : Below w.heap.size w (zeroW w n) := (zeroW_bytes w n).below
/-- What a region leaves that puts a cell of noughts behind others. -/
def Longer (W wx : World) (ss : List ByteArray) (n : Nat) (v : Value) : Prop :=
  wx.ownsRow W.heap.size 9 1 v (ss.length + 1) ((ss ++ [zs n]).map Value.string) ∧ Below W.heap.size W wx

theorem longer_of {W wx : World} {ss : List ByteArray} {n c : Nat} {A : Option Addr} (h : wx.ownsRow W.heap.size 9 1 (.slice A (0 + ss.length + 1) c) (0 + ss.length + 1) (([] ++ ss.map Value.string) ++ [.string (zs n)])) (hb : Below W.heap.size W wx) : Longer W wx ss n (.slice A (ss.length + 1) c) := by
  rw [Nat.zero_add, List.nil_append] at h
  exact ⟨by rw [List.map_append]; exact h, hb⟩
theorem join_small {ss : List ByteArray} {n : Nat} (h : ∀ s ∈ ss, s.size ≤ 300) (hn : n ≤ 300) : (∀ s ∈ ss ++ [zs n], s.size ≤ maxLen) ∧ ∀ s ∈ ss ++ [zs n], s.size ≤ 300 := by
  have h2 : ∀ s ∈ ss ++ [zs n], s.size ≤ 300 := fun s hs => by
    rcases List.mem_append.1 hs with h1 | h1
    · exact h s h1
    · rw [List.mem_singleton.1 h1, zs_size]; exact hn
  exact ⟨fun s hs => Nat.le_trans (h2 s hs) (by unfold maxLen; omega), h2⟩

set_option maxRecDepth 100000 in
set_option maxHeartbeats 4000000 in
theorem pageMost_walk {w : World} (v0 : Value) (x0 : List ByteArray) (f0 : Strs w v0 x0) :
    Calls Try.prog 17 #[v0] w fun e w' => e = .returned (.bool true) ∧ Below w.heap.size w w' := by
  obtain ⟨A0, c0, rfl, _, hm0, hz0, _⟩ := id f0
  unfold maxLen at hm0
  have P0 := hide (fun (g : Nat) w' (hg : w.heap.size ≤ g) (h : Below w.heap.size w w') => f0.RS rfl h hg)
  have Z0 := hide hz0
  have L0 : x0.length ≤ 9223372036854775807 := by omega
  clear f0 hz0
  go_enter Try.func17, Try.ntmps17
  go_wp2_with fail
  refine (new_any _).mono ?_
  rintro e w1 ⟨g, rfl, hu⟩
  have V1 := hide hu
  clear hu
  go_wp2_with fail
  refine (awake4 _).mono ?_
  rintro e w2 ⟨rfl, hb⟩
  have V2 := hide (V1.out.below hb)
  clear hb V1
  have FW := few_cells g _ x0 w2 (P0.out g w2 V2.out.2.2.1 V2.out.2.1)
  by_cases hf : fewB x0 = true
  case neg =>
    rw [show fewB x0 = false by simpa using hf] at FW
    have FW' := hide FW
    clear FW hf
    go_wp2_with fail
    refine FW'.out.mono ?_
    rintro e w3 ⟨rfl, hb⟩
    have V3 := hide (V2.out.below hb)
    clear hb
    go_wp2_with fail
    refine (awake4 _).mono ?_
    rintro e w4 ⟨rfl, hb⟩
    have V4 := hide (V3.out.below hb)
    clear hb
    go_wp2_with fail
    go_ret
    exact ⟨rfl, V4.out.2.1⟩
  have HS := hide ((few_iff x0).1 hf).1
  have hl200 := ((few_iff x0).1 hf).2
  rw [hf] at FW
  have FW' := hide FW
  clear FW hf
  by_cases hl : x0.length ≤ 100
  case neg =>
    have hli : (100 : Int) < (x0.length : Int) := by omega
    go_wp2_with fail
    refine FW'.out.mono ?_
    rintro e w3 ⟨rfl, hb⟩
    have V3 := hide (V2.out.below hb)
    clear hb
    go_wp2_with fail
    refine (awake4 _).mono ?_
    rintro e w4 ⟨rfl, hb⟩
    have V4 := hide (V3.out.below hb)
    clear hb
    go_wp2_with fail
    go_ret
    exact ⟨rfl, V4.out.2.1⟩
  have hli : (x0.length : Int) ≤ 100 := by omega
  have hld : decide ((100 : Int) < (x0.length : Int)) = false := decide_eq_false (by omega)
  go_wp2_with fail
  refine FW'.out.mono ?_
  rintro e w3 ⟨rfl, hb⟩
  have V3 := hide (V2.out.below hb)
  clear hb V2 FW'
  have FT := fits_any g _ x0 w3 (P0.out g w3 V3.out.2.2.1 V3.out.2.1) (by omega) HS.out
  by_cases hft : fitsB x0 = true
  case neg =>
    rw [show fitsB x0 = false by simpa using hft] at FT
    have FT' := hide FT
    clear FT hft
    go_wp2_with fail
    refine FT'.out.mono ?_
    rintro e w4 ⟨rfl, rfl⟩
    go_wp2_with fail
    refine (awake4 _).mono ?_
    rintro e w4 ⟨rfl, hb⟩
    have V4 := hide (V3.out.below hb)
    clear hb
    go_wp2_with fail
    go_ret
    exact ⟨rfl, V4.out.2.1⟩
  rw [hft] at FT
  have FT' := hide FT
  have hroom := ((fits_iff x0).1 hft).1
  have HSL := hide ((fits_iff x0).1 hft).2
  have RM0 := room_any g _ x0 w3 (P0.out g w3 V3.out.2.2.1 V3.out.2.1) (by omega) HS.out
  obtain ⟨r, hr⟩ : ∃ r, r = room x0 := ⟨_, rfl⟩
  rw [← hr] at RM0 hroom
  have RM := hide RM0
  have HR := hide hr
  clear FT hft RM0 hr
  go_wp2_with fail
  refine FT'.out.mono ?_
  rintro e w4 ⟨rfl, rfl⟩
  go_wp2_with fail
  refine RM.out.mono ?_
  rintro e w4 ⟨rfl, rfl⟩
  by_cases hneg : 234 < r
  case pos =>
    have hni : (234 : Int) < (r : Int) := by omega
    have hni' : (236 : Int) - (r : Int) - 2 < 0 := by omega
    go_wp2_with fail
    go_ret
    exact ⟨rfl, V3.out.2.1⟩
  obtain ⟨L, hL⟩ : ∃ L, r + L = 234 := ⟨234 - r, by omega⟩
  have hLi : (236 : Int) - (r : Int) - 2 = (L : Int) := by omega
  have hL234 : L ≤ 234 := by omega
  have HL := hide hL
  have hrb : (r : Int) ≤ 236 := by omega
  clear hL hneg
  have VW := V3
  have hgw : w.heap.size ≤ g := V3.out.2.2.1
  have hgl : g < w3.heap.size := V3.out.1.lt
  obtain ⟨i0, hi0, hz0, hz1, hz2⟩ := info_parts info9
  go_upto_region 7 with fail
  have mk : ∀ W, (Instr.makeSlice 28 (.int .i64 (L : Int)) (.int .i64 (L : Int))).run Try.prog W = .ok (.slice (some ⟨W.heap.size, 0, none⟩) L L) (zeroW W L) := make28 L (by omega)
  have zz : ∀ W, (zeroW W L).heap.size = W.heap.size + 1 := fun W => zeroW_size W L
  have zb := fun W => zeroW_below W L
  have hR := hide (fun W' (h : Below w3.heap.size w3 W') => P0.out g W' hgw (VW.out.2.1.trans (h.mono VW.out.2.2.2)))
  have oM := fun (W : World) (h : w3.heap.size ≤ W.heap.size) => World.ownsRow_made (base := w3.heap.size) (e := 9) (size := 1) W #[] 0 h (by unfold maxLen; omega) rfl
  have b1 : Below w3.heap.size w3 (w3.alloc (.cells #[] 9)).drew := ((Below.refl _ _).alloc (Nat.le_refl _) _).drew
  have b2 : Below w3.heap.size w3 (zeroW (w3.alloc (.cells #[] 9)).drew L) := b1.trans ((zb _).mono b1.size)
  have b0 : Below w3.heap.size w3 (zeroW w3.drew L) := (Below.refl _ _).drew.trans (show Below w3.heap.size w3.drew (zeroW w3.drew L) from zb w3.drew)
  have b3 : Below w3.heap.size w3 ((zeroW w3.drew L).alloc (.cells #[] 9)) := b0.alloc b0.size _
  have b4 : Below w3.heap.size w3 ((zeroW (w3.alloc (.cells #[] 9)).drew L).alloc (.cells #[.string (zs L)] 9)) := b2.alloc b2.size _
  have b5 : Below w3.heap.size w3 (((zeroW w3.drew L).alloc (.cells #[] 9)).alloc (.cells #[.string (zs L)] 9)) := b3.alloc b3.size _
  have b6a : Below w3.heap.size w3 ((zeroW w3.drew L).alloc (.cells #[.string (zs L)] 9)) := b0.alloc b0.size _
  have b6 : Below w3.heap.size w3 (((zeroW w3.drew L).alloc (.cells #[.string (zs L)] 9)).alloc (.cells #[] 9)) := b6a.alloc b6a.size _
  have m1 : (w3.alloc (.cells #[] 9)).drew.ownsRow w3.heap.size 9 1 (.slice (some ⟨w3.heap.size, 0, none⟩) 0 0) 0 [] := oM w3 (Nat.le_refl _)
  have m2 : (zeroW (w3.alloc (.cells #[] 9)).drew L).ownsRow w3.heap.size 9 1 (.slice (some ⟨w3.heap.size, 0, none⟩) 0 0) 0 [] := own_below m1 (zb _)
  have m3 : ((zeroW w3.drew L).alloc (.cells #[] 9)).ownsRow w3.heap.size 9 1 (.slice (some ⟨w3.heap.size + 1, 0, none⟩) 0 0) 0 [] := by have h := oM (zeroW w3.drew L) b0.size; rw [zz] at h; exact h
  have m4 : ((zeroW (w3.alloc (.cells #[] 9)).drew L).alloc (.cells #[.string (zs L)] 9)).ownsRow w3.heap.size 9 1 (.slice (some ⟨w3.heap.size, 0, none⟩) 0 0) 0 [] := own_below m2 ((Below.refl _ _).alloc (Nat.le_refl _) _)
  have m5 : (((zeroW w3.drew L).alloc (.cells #[] 9)).alloc (.cells #[.string (zs L)] 9)).ownsRow w3.heap.size 9 1 (.slice (some ⟨w3.heap.size + 1, 0, none⟩) 0 0) 0 [] := own_below m3 ((Below.refl _ _).alloc (Nat.le_refl _) _)
  have m6 : (((zeroW w3.drew L).alloc (.cells #[.string (zs L)] 9)).alloc (.cells #[] 9)).ownsRow w3.heap.size 9 1 (.slice (some ⟨w3.heap.size + 1 + 1, 0, none⟩) 0 0) 0 [] := by have h := oM ((zeroW w3.drew L).alloc (.cells #[.string (zs L)] 9)) b6a.size; rw [World.size_alloc, zz] at h; exact h
  have r0 : Row (zeroW w3.drew L) w3.heap.size 0 (List.replicate L 0) := (zeroW_bytes w3.drew L).row
  have r2 : Row (zeroW (w3.alloc (.cells #[] 9)).drew L) (w3.heap.size + 1) 0 (List.replicate L 0) := by have h := (zeroW_bytes (w3.alloc (.cells #[] 9)).drew L).row; rw [World.size_drew, World.size_alloc] at h; exact h
  have r3 : Row ((zeroW w3.drew L).alloc (.cells #[] 9)) w3.heap.size 0 (List.replicate L 0) := r0.below ((Below.refl _ _).alloc (Nat.le_refl _) _)
  have lr : (List.replicate L (0 : UInt8)).length = L := List.length_replicate
  have c0' := conv_back (c := L) r0 lr
  have c2 := conv_back (c := L) r2 lr
  have c3 := conv_back (c := L) r3 lr
  have e4 : Blk ((zeroW (w3.alloc (.cells #[] 9)).drew L).alloc (.cells #[.string (zs L)] 9)) (w3.heap.size + 1 + 1) 9 #[.string (zs L)] := by have h := Blk.new (zeroW (w3.alloc (.cells #[] 9)).drew L) 9 #[.string (zs L)]; rw [zz, World.size_drew, World.size_alloc] at h; exact h
  have e5 : Blk (((zeroW w3.drew L).alloc (.cells #[] 9)).alloc (.cells #[.string (zs L)] 9)) (w3.heap.size + 1 + 1) 9 #[.string (zs L)] := by have h := Blk.new ((zeroW w3.drew L).alloc (.cells #[] 9)) 9 #[.string (zs L)]; rw [World.size_alloc, zz] at h; exact h
  have e6 : Blk (((zeroW w3.drew L).alloc (.cells #[.string (zs L)] 9)).alloc (.cells #[] 9)) (w3.heap.size + 1) 9 #[.string (zs L)] := by have h := (Blk.new (zeroW w3.drew L) 9 #[.string (zs L)]).alloc (.cells #[] 9); rw [zz] at h; exact h
  have HB := hide (And.intro b1 (And.intro b2 (And.intro b3 (And.intro b4 (And.intro b5 b6)))))
  have HM := hide (And.intro m1 (And.intro m2 (And.intro m3 (And.intro m4 (And.intro m5 m6)))))
  have HRW := hide (And.intro r2 r3)
  have HE := hide (And.intro e4 (And.intro e5 e6))
  rw [show strOf (List.replicate L 0) = zs L from rfl] at c0' c2 c3
  clear b0 b1 b2 b3 b4 b5 b6 b6a m1 m2 m3 m4 m5 m6 r0 r2 r3 e4 e5 e6 oM zb
  go_cut [5] (fun s5 wx => Longer w3 wx x0 L s5)
  case first =>
    go_region_law (first
      | (refine step_append_strs rfl _ _ rfl w3.heap.size _ 0 [] rfl (by first | exact HM.out.1 | exact HM.out.2.1 | exact HM.out.2.2.1 | exact HM.out.2.2.2.1 | exact HM.out.2.2.2.2.1 | exact HM.out.2.2.2.2.2) A0 g _ c0 x0 rfl rfl
            (hR.out _ (by first | exact HB.out.1 | exact HB.out.2.1 | exact HB.out.2.2.1 | exact HB.out.2.2.2.1 | exact HB.out.2.2.2.2.1 | exact HB.out.2.2.2.2.2)) (by omega)
            (by first | exact HB.out.1.size | exact HB.out.2.1.size | exact HB.out.2.2.1.size | exact HB.out.2.2.2.1.size | exact HB.out.2.2.2.2.1.size | exact HB.out.2.2.2.2.2.size) ?_
         intro v5 w5 o5 g5 q5
         have O5 := hide o5
         have B5 := hide (Below.grown (by first | exact HB.out.1 | exact HB.out.2.1 | exact HB.out.2.2.1 | exact HB.out.2.2.2.1 | exact HB.out.2.2.2.2.1 | exact HB.out.2.2.2.2.2) g5
            (by first | exact HB.out.1.size | exact HB.out.2.1.size | exact HB.out.2.2.1.size | exact HB.out.2.2.2.1.size | exact HB.out.2.2.2.2.1.size | exact HB.out.2.2.2.2.2.size) (fun q hq => by first | exact (HM.out.1.lt q hq).1 | exact (HM.out.2.1.lt q hq).1 | exact (HM.out.2.2.1.lt q hq).1 | exact (HM.out.2.2.2.1.lt q hq).1 | exact (HM.out.2.2.2.2.1.lt q hq).1 | exact (HM.out.2.2.2.2.2.lt q hq).1))
         try (have c5 := conv_back (c := L) (HRW.out.1.other g5 (show some (w3.heap.size + 1) ≠ some (w3.heap.size) from fun h => by injection h; omega)) lr; rw [show strOf (List.replicate L 0) = zs L from rfl] at c5)
         try (have c5 := conv_back (c := L) (HRW.out.2.other g5 (show some (w3.heap.size) ≠ some (w3.heap.size + 1) from fun h => by injection h; omega)) lr; rw [show strOf (List.replicate L 0) = zs L from rfl] at c5)
         try (have E5 := hide (HE.out.1.grown g5 (show some (w3.heap.size + 1 + 1) ≠ some (w3.heap.size) from fun h => by injection h; omega)))
         try (have E5 := hide (HE.out.2.1.grown g5 (show some (w3.heap.size + 1 + 1) ≠ some (w3.heap.size + 1) from fun h => by injection h; omega)))
         try (have E5 := hide (HE.out.2.2.grown g5 (show some (w3.heap.size + 1) ≠ some (w3.heap.size + 1 + 1) from fun h => by injection h; omega)))
         have cw := conv_back (c := L) (zeroW_bytes w5 L).row lr
         rw [show strOf (List.replicate L 0) = zs L from rfl] at cw
         clear o5 g5 q5)
      | (refine step_append_lies _ rfl _ _ _ rfl w3.heap.size 9 i0 _ 1 16 Try.underlying31 hi0 hz0 hz1 hz2 rfl (by omega) v5 (0 + x0.length) _ rfl
            (by first | exact O5.out | exact own_below O5.out ((Below.refl _ _).alloc (Nat.le_refl _) _) | exact own_below O5.out ((zeroW_below w5 L).alloc (zeroW_below w5 L).size _))
            _ 1 1 [.string (zs L)] rfl rfl (World.news_of_block (cs := #[.string (zs L)]) (t := 9) (fr := (0, 0)) (by first | exact E5.out | exact heap_alloc_new w5 _ | (have h := heap_alloc_new (zeroW w5 L) (.cells #[.string (zs L)] 9); rw [zeroW_size] at h; exact h))) (by simp [Value.oneCell'])
            (by omega) (by unfold maxLen; omega) (by omega)
            (by first | exact B5.out.size | exact ((B5.out.alloc B5.out.size _).size) | exact (((B5.out.trans ((zeroW_below w5 L).mono B5.out.size)).alloc (Nat.le_trans B5.out.size (zeroW_below w5 L).size) _).size)) _ rfl ?_
         intro gg cap w6 o6 g6 hat6 hlt6
         have O6 := hide o6
         have B6 := hide (Below.grown (by first | exact B5.out | exact (B5.out.alloc B5.out.size _) | exact ((B5.out.trans ((zeroW_below w5 L).mono B5.out.size)).alloc (Nat.le_trans B5.out.size (zeroW_below w5 L).size) _)) g6
            (by first | exact B5.out.size | exact ((B5.out.alloc B5.out.size _).size) | exact (((B5.out.trans ((zeroW_below w5 L).mono B5.out.size)).alloc (Nat.le_trans B5.out.size (zeroW_below w5 L).size) _).size)) (O5.out.lt · · |>.1))
         clear o6 g6 hat6 hlt6))
    all_goals (
      go_wp2_with fail
      go_meet
      exact longer_of O6.out B6.out)
  have JS1 := join_small (n := L) HS.out (by omega)
  have more1 := fun W (h : Below wc.heap.size wc W) => rs_own (g := g) (own_below hcut.1 h) (by simp) hgl JS1.1
  obtain ⟨A5, c5, hv5, _⟩ := (more1 _ (Below.refl _ _)).len
  rw [List.length_append, List.length_singleton] at hv5
  subst hv5
  obtain ⟨wm, hw5⟩ : ∃ wm, wm = wc := ⟨_, rfl⟩
  rw [← hw5] at more1 hcut ⊢
  have MORE := hide more1
  have V5 := hide (V3.out.below hcut.2)
  clear hcut more1 mk zz hR c0' c2 c3 HB HM HRW HE lr VW
  clear hw5
  obtain ⟨L1, hL1⟩ : ∃ L1, L1 = L + 1 := ⟨_, rfl⟩
  have hL1i : (L : Int) + 1 = (L1 : Int) := by omega
  have hL1b : L1 ≤ 235 := by omega
  have HL1 := hide hL1
  have hwr : IntKind.i64.wrap (L1 : Int) = (L1 : Int) := IntWalk.i64_in _ (by omega)
  have VW := V5
  clear hL1
  go_upto_region 8 with fail
  have mk : ∀ W, (Instr.makeSlice 28 (.int .i64 (L1 : Int)) (.int .i64 (L1 : Int))).run Try.prog W = .ok (.slice (some ⟨W.heap.size, 0, none⟩) L1 L1) (zeroW W L1) := make28 L1 (by omega)
  have zz : ∀ W, (zeroW W L1).heap.size = W.heap.size + 1 := fun W => zeroW_size W L1
  have zb := fun W => zeroW_below W L1
  have hR := hide (fun W' (h : Below wm.heap.size wm W') => P0.out g W' hgw (VW.out.2.1.trans (h.mono VW.out.2.2.2)))
  have oM := fun (W : World) (h : wm.heap.size ≤ W.heap.size) => World.ownsRow_made (base := wm.heap.size) (e := 9) (size := 1) W #[] 0 h (by unfold maxLen; omega) rfl
  have b1 : Below wm.heap.size wm (wm.alloc (.cells #[] 9)).drew := ((Below.refl _ _).alloc (Nat.le_refl _) _).drew
  have b2 : Below wm.heap.size wm (zeroW (wm.alloc (.cells #[] 9)).drew L1) := b1.trans ((zb _).mono b1.size)
  have b0 : Below wm.heap.size wm (zeroW wm.drew L1) := (Below.refl _ _).drew.trans (show Below wm.heap.size wm.drew (zeroW wm.drew L1) from zb wm.drew)
  have b3 : Below wm.heap.size wm ((zeroW wm.drew L1).alloc (.cells #[] 9)) := b0.alloc b0.size _
  have b4 : Below wm.heap.size wm ((zeroW (wm.alloc (.cells #[] 9)).drew L1).alloc (.cells #[.string (zs L1)] 9)) := b2.alloc b2.size _
  have b5 : Below wm.heap.size wm (((zeroW wm.drew L1).alloc (.cells #[] 9)).alloc (.cells #[.string (zs L1)] 9)) := b3.alloc b3.size _
  have b6a : Below wm.heap.size wm ((zeroW wm.drew L1).alloc (.cells #[.string (zs L1)] 9)) := b0.alloc b0.size _
  have b6 : Below wm.heap.size wm (((zeroW wm.drew L1).alloc (.cells #[.string (zs L1)] 9)).alloc (.cells #[] 9)) := b6a.alloc b6a.size _
  have m1 : (wm.alloc (.cells #[] 9)).drew.ownsRow wm.heap.size 9 1 (.slice (some ⟨wm.heap.size, 0, none⟩) 0 0) 0 [] := oM wm (Nat.le_refl _)
  have m2 : (zeroW (wm.alloc (.cells #[] 9)).drew L1).ownsRow wm.heap.size 9 1 (.slice (some ⟨wm.heap.size, 0, none⟩) 0 0) 0 [] := own_below m1 (zb _)
  have m3 : ((zeroW wm.drew L1).alloc (.cells #[] 9)).ownsRow wm.heap.size 9 1 (.slice (some ⟨wm.heap.size + 1, 0, none⟩) 0 0) 0 [] := by have h := oM (zeroW wm.drew L1) b0.size; rw [zz] at h; exact h
  have m4 : ((zeroW (wm.alloc (.cells #[] 9)).drew L1).alloc (.cells #[.string (zs L1)] 9)).ownsRow wm.heap.size 9 1 (.slice (some ⟨wm.heap.size, 0, none⟩) 0 0) 0 [] := own_below m2 ((Below.refl _ _).alloc (Nat.le_refl _) _)
  have m5 : (((zeroW wm.drew L1).alloc (.cells #[] 9)).alloc (.cells #[.string (zs L1)] 9)).ownsRow wm.heap.size 9 1 (.slice (some ⟨wm.heap.size + 1, 0, none⟩) 0 0) 0 [] := own_below m3 ((Below.refl _ _).alloc (Nat.le_refl _) _)
  have m6 : (((zeroW wm.drew L1).alloc (.cells #[.string (zs L1)] 9)).alloc (.cells #[] 9)).ownsRow wm.heap.size 9 1 (.slice (some ⟨wm.heap.size + 1 + 1, 0, none⟩) 0 0) 0 [] := by have h := oM ((zeroW wm.drew L1).alloc (.cells #[.string (zs L1)] 9)) b6a.size; rw [World.size_alloc, zz] at h; exact h
  have r0 : Row (zeroW wm.drew L1) wm.heap.size 0 (List.replicate L1 0) := (zeroW_bytes wm.drew L1).row
  have r2 : Row (zeroW (wm.alloc (.cells #[] 9)).drew L1) (wm.heap.size + 1) 0 (List.replicate L1 0) := by have h := (zeroW_bytes (wm.alloc (.cells #[] 9)).drew L1).row; rw [World.size_drew, World.size_alloc] at h; exact h
  have r3 : Row ((zeroW wm.drew L1).alloc (.cells #[] 9)) wm.heap.size 0 (List.replicate L1 0) := r0.below ((Below.refl _ _).alloc (Nat.le_refl _) _)
  have lr : (List.replicate L1 (0 : UInt8)).length = L1 := List.length_replicate
  have c0' := conv_back (c := L1) r0 lr
  have c2 := conv_back (c := L1) r2 lr
  have c3 := conv_back (c := L1) r3 lr
  have e4 : Blk ((zeroW (wm.alloc (.cells #[] 9)).drew L1).alloc (.cells #[.string (zs L1)] 9)) (wm.heap.size + 1 + 1) 9 #[.string (zs L1)] := by have h := Blk.new (zeroW (wm.alloc (.cells #[] 9)).drew L1) 9 #[.string (zs L1)]; rw [zz, World.size_drew, World.size_alloc] at h; exact h
  have e5 : Blk (((zeroW wm.drew L1).alloc (.cells #[] 9)).alloc (.cells #[.string (zs L1)] 9)) (wm.heap.size + 1 + 1) 9 #[.string (zs L1)] := by have h := Blk.new ((zeroW wm.drew L1).alloc (.cells #[] 9)) 9 #[.string (zs L1)]; rw [World.size_alloc, zz] at h; exact h
  have e6 : Blk (((zeroW wm.drew L1).alloc (.cells #[.string (zs L1)] 9)).alloc (.cells #[] 9)) (wm.heap.size + 1) 9 #[.string (zs L1)] := by have h := (Blk.new (zeroW wm.drew L1) 9 #[.string (zs L1)]).alloc (.cells #[] 9); rw [zz] at h; exact h
  have HB := hide (And.intro b1 (And.intro b2 (And.intro b3 (And.intro b4 (And.intro b5 b6)))))
  have HM := hide (And.intro m1 (And.intro m2 (And.intro m3 (And.intro m4 (And.intro m5 m6)))))
  have HRW := hide (And.intro r2 r3)
  have HE := hide (And.intro e4 (And.intro e5 e6))
  rw [show strOf (List.replicate L1 0) = zs L1 from rfl] at c0' c2 c3
  clear b0 b1 b2 b3 b4 b5 b6 b6a m1 m2 m3 m4 m5 m6 r0 r2 r3 e4 e5 e6 oM zb
  go_cut [6] (fun s5 wx => Longer wm wx x0 L1 s5)
  case first =>
    go_region_law (first
      | (refine step_append_strs rfl _ _ rfl wm.heap.size _ 0 [] rfl (by first | exact HM.out.1 | exact HM.out.2.1 | exact HM.out.2.2.1 | exact HM.out.2.2.2.1 | exact HM.out.2.2.2.2.1 | exact HM.out.2.2.2.2.2) A0 g _ c0 x0 rfl rfl
            (hR.out _ (by first | exact HB.out.1 | exact HB.out.2.1 | exact HB.out.2.2.1 | exact HB.out.2.2.2.1 | exact HB.out.2.2.2.2.1 | exact HB.out.2.2.2.2.2)) (by omega)
            (by first | exact HB.out.1.size | exact HB.out.2.1.size | exact HB.out.2.2.1.size | exact HB.out.2.2.2.1.size | exact HB.out.2.2.2.2.1.size | exact HB.out.2.2.2.2.2.size) ?_
         intro v5 w5 o5 g5 q5
         have O5 := hide o5
         have B5 := hide (Below.grown (by first | exact HB.out.1 | exact HB.out.2.1 | exact HB.out.2.2.1 | exact HB.out.2.2.2.1 | exact HB.out.2.2.2.2.1 | exact HB.out.2.2.2.2.2) g5
            (by first | exact HB.out.1.size | exact HB.out.2.1.size | exact HB.out.2.2.1.size | exact HB.out.2.2.2.1.size | exact HB.out.2.2.2.2.1.size | exact HB.out.2.2.2.2.2.size) (fun q hq => by first | exact (HM.out.1.lt q hq).1 | exact (HM.out.2.1.lt q hq).1 | exact (HM.out.2.2.1.lt q hq).1 | exact (HM.out.2.2.2.1.lt q hq).1 | exact (HM.out.2.2.2.2.1.lt q hq).1 | exact (HM.out.2.2.2.2.2.lt q hq).1))
         try (have c5 := conv_back (c := L1) (HRW.out.1.other g5 (show some (wm.heap.size + 1) ≠ some (wm.heap.size) from fun h => by injection h; omega)) lr; rw [show strOf (List.replicate L1 0) = zs L1 from rfl] at c5)
         try (have c5 := conv_back (c := L1) (HRW.out.2.other g5 (show some (wm.heap.size) ≠ some (wm.heap.size + 1) from fun h => by injection h; omega)) lr; rw [show strOf (List.replicate L1 0) = zs L1 from rfl] at c5)
         try (have E5 := hide (HE.out.1.grown g5 (show some (wm.heap.size + 1 + 1) ≠ some (wm.heap.size) from fun h => by injection h; omega)))
         try (have E5 := hide (HE.out.2.1.grown g5 (show some (wm.heap.size + 1 + 1) ≠ some (wm.heap.size + 1) from fun h => by injection h; omega)))
         try (have E5 := hide (HE.out.2.2.grown g5 (show some (wm.heap.size + 1) ≠ some (wm.heap.size + 1 + 1) from fun h => by injection h; omega)))
         have cw := conv_back (c := L1) (zeroW_bytes w5 L1).row lr
         rw [show strOf (List.replicate L1 0) = zs L1 from rfl] at cw
         clear o5 g5 q5)
      | (refine step_append_lies _ rfl _ _ _ rfl wm.heap.size 9 i0 _ 1 16 Try.underlying31 hi0 hz0 hz1 hz2 rfl (by omega) v5 (0 + x0.length) _ rfl
            (by first | exact O5.out | exact own_below O5.out ((Below.refl _ _).alloc (Nat.le_refl _) _) | exact own_below O5.out ((zeroW_below w5 L1).alloc (zeroW_below w5 L1).size _))
            _ 1 1 [.string (zs L1)] rfl rfl (World.news_of_block (cs := #[.string (zs L1)]) (t := 9) (fr := (0, 0)) (by first | exact E5.out | exact heap_alloc_new w5 _ | (have h := heap_alloc_new (zeroW w5 L1) (.cells #[.string (zs L1)] 9); rw [zeroW_size] at h; exact h))) (by simp [Value.oneCell'])
            (by omega) (by unfold maxLen; omega) (by omega)
            (by first | exact B5.out.size | exact ((B5.out.alloc B5.out.size _).size) | exact (((B5.out.trans ((zeroW_below w5 L1).mono B5.out.size)).alloc (Nat.le_trans B5.out.size (zeroW_below w5 L1).size) _).size)) _ rfl ?_
         intro gg cap w6 o6 g6 hat6 hlt6
         have O6 := hide o6
         have B6 := hide (Below.grown (by first | exact B5.out | exact (B5.out.alloc B5.out.size _) | exact ((B5.out.trans ((zeroW_below w5 L1).mono B5.out.size)).alloc (Nat.le_trans B5.out.size (zeroW_below w5 L1).size) _)) g6
            (by first | exact B5.out.size | exact ((B5.out.alloc B5.out.size _).size) | exact (((B5.out.trans ((zeroW_below w5 L1).mono B5.out.size)).alloc (Nat.le_trans B5.out.size (zeroW_below w5 L1).size) _).size)) (O5.out.lt · · |>.1))
         clear o6 g6 hat6 hlt6))
    all_goals (
      go_wp2_with fail
      go_meet
      exact longer_of O6.out B6.out)
  have JS2 := join_small (n := L1) HS.out (by omega)
  have more2 := rs_own (g := g) hcut.1 (by simp) V5.out.1.lt JS2.1
  obtain ⟨A6, c6, hv6, _⟩ := more2.len
  rw [List.length_append, List.length_singleton] at hv6
  subst hv6
  obtain ⟨wn, hwn⟩ : ∃ wn, wn = wc := ⟨_, rfl⟩
  rw [← hwn] at more2 hcut ⊢
  have V6 := hide (V5.out.below hcut.2)
  have M1 := hide (MORE.out _ hcut.2)
  have M2 := hide more2
  have hsr := HR.out
  have hsl := HL.out
  have hsl1 := HL1.out
  have rm1 : room (x0 ++ [zs L]) = 236 := by rw [room_join]; simp only [room, tot, List.map_cons, List.map_nil, zs_size]; simp; unfold room tot at hsr; omega
  have rm2 : room (x0 ++ [zs L1]) = 237 := by rw [room_join]; simp only [room, tot, List.map_cons, List.map_nil, zs_size]; simp; unfold room tot at hsr; omega
  have ft1 : fitsB (x0 ++ [zs L]) = true := (fits_iff _).2 ⟨by omega, fun s hs => by
    rcases List.mem_append.1 hs with h1 | h1
    · exact HSL.out s h1
    · rw [List.mem_singleton.1 h1, zs_size]; omega⟩
  have ft2 : fitsB (x0 ++ [zs L1]) = false := by
    rw [← Bool.not_eq_true]
    intro h
    have := ((fits_iff _).1 h).1
    omega
  have fw1 : fewB (x0 ++ [zs L]) = true := (few_iff _).2 ⟨JS1.2, by rw [List.length_append, List.length_singleton]; omega⟩
  have fw2 : fewB (x0 ++ [zs L1]) = true := (few_iff _).2 ⟨JS2.2, by rw [List.length_append, List.length_singleton]; omega⟩
  have lw1 : (x0 ++ [zs L]).length ≤ 300 := by rw [List.length_append, List.length_singleton]; omega
  have lw2 : (x0 ++ [zs L1]).length ≤ 300 := by rw [List.length_append, List.length_singleton]; omega
  have ok1 : OkPg ⟨1, 0, 0, 0, x0 ++ [zs L]⟩ := ⟨ft1, by rfl⟩
  have no2 : ¬ OkPg ⟨1, 0, 0, 0, x0 ++ [zs L1]⟩ := fun h => by have h1 : fitsB (x0 ++ [zs L1]) = true := h.1; rw [ft2] at h1; cases h1
  have T1 := hide (fun W (h : wn.grownBy W (some g)) => fits_any g _ (x0 ++ [zs L]) W (M1.out.grown h) lw1 JS1.2)
  have T2 := hide (fun W (h : wn.grownBy W (some g)) => fits_any g _ (x0 ++ [zs L1]) W (M2.out.grown h) lw2 JS2.2)
  rw [ft1] at T1
  rw [ft2] at T2
  have PT1 := hide (put_page g 0 (.agg #[.int .i64 1, .int .i64 0, .int .i64 0, .int .i64 0, .slice A5 (x0.length + 1) c5]) ⟨1, 0, 0, 0, x0 ++ [zs L]⟩ wn V6.out.1 ⟨_, rfl, M1.out⟩ fw1)
  have PT2 := hide (fun W m (hs : SumAt W g m) (h : wn.grownBy W (some g)) => put_page g m (.agg #[.int .i64 1, .int .i64 0, .int .i64 0, .int .i64 0, .slice A6 (x0.length + 1) c6]) ⟨1, 0, 0, 0, x0 ++ [zs L1]⟩ W hs ⟨_, rfl, M2.out.grown h⟩ fw2)
  have HO1 := hide ok1
  have HN2 := hide no2
  have HF2 := hide ft2
  clear hcut more2 hwn mk zz hR c0' c2 c3 HB HM HRW HE lr VW M1 M2 MORE rm1 rm2 ft1 ft2 fw1 fw2 lw1 lw2 ok1 no2 JS1 JS2 hsr hsl hsl1 V3 V5 HR HL HL1 RM FT' HS HSL
  go_wp2_with fail
  refine PT1.out.mono ?_
  rintro e w7 ⟨bv, er, rfl, hend, ⟨m7, hs7⟩, hg7⟩
  have V7 := hide (V6.out.grown hs7 hg7)
  have G7 := hide hg7
  rcases hend with ⟨h, _⟩ | ⟨_, rfl, b7, rfl, _⟩
  · exact (h HO1.out).elim
  clear hs7 hg7 PT1
  go_wp2_with fail
  refine (PT2.out _ _ V7.out.1 G7.out).mono ?_
  rintro e w8 ⟨bv, er, rfl, hend, ⟨m8, hs8⟩, hg8⟩
  have V8 := hide (V7.out.grown hs8 hg8)
  have G8 := hide (grown_trans G7.out hg8)
  rcases hend with ⟨_, _, her, rfl⟩ | ⟨h, _⟩
  case inr => exact (HN2.out h).elim
  have her' : er = 40 := by
    have h2 : fitsB (⟨1, 0, 0, 0, x0 ++ [zs L1]⟩ : Pg).cells = false := HF2.out
    rw [h2] at her
    exact her
  subst her'
  clear hs8 hg8 PT2 her
  go_wp2_with fail
  refine (T1.out _ G8.out).mono ?_
  rintro e w9 ⟨rfl, rfl⟩
  go_wp2_with fail
  refine (T2.out _ G8.out).mono ?_
  rintro e w9 ⟨rfl, rfl⟩
  go_wp2_with fail
  go_ret
  exact ⟨rfl, V8.out.2.1⟩
end Go.Proofs.Ytljfomgcoodjkaa
