/- The walk of SumParts: the sum of pieces is that of all of them, each byte is counted; the law returns true and nothing that was there has turned. -/
import Derived.Test.YtljfomgcoodjkaaMem
namespace Go.Proofs.Ytljfomgcoodjkaa
open Go.RowKit

/-- The pieces' bytes. -/
def bytesOf (ss : List ByteArray) : List (List UInt8) := ss.map (·.data.toList)
theorem bytesOf_take (ss : List ByteArray) (k : Nat) : bytesOf (ss.take k) = (bytesOf ss).take k := List.map_take
theorem bytesOf_length (ss : List ByteArray) : (bytesOf ss).length = ss.length := List.length_map _
theorem bytesOf_snoc (ss : List ByteArray) (k : Nat) (h : k < ss.length) : bytesOf (ss.take (k + 1)) = bytesOf (ss.take k) ++ [ss[k].data.toList] := by
  rw [take_snoc ss k h, bytesOf, List.map_append]; rfl

/-- The pieces that have been made: each a slice of a block of its own. -/
def Els (w : World) (B : Nat) (vs : List Value) (L : List (List UInt8)) : Prop :=
  ∀ j, (h : j < L.length) → ∃ b c, vs[j]? = some (.slice (some ⟨b, 0, none⟩) L[j].length c) ∧ B ≤ b ∧ Typed w b 5 ∧ Row w b 0 L[j]

theorem info28 : (Try.prog.info? 28).map (fun i => (i.zero, i.size, i.bytes)) = some (some (.slice none 0 0), 1, 24) := by kernel_rfl

theorem Els.keep {w w' : World} {B : Nat} {vs : List Value} {L : List (List UInt8)} (h : Els w B vs L) {row : Option Nat} (hg : w.grownBy w' row) (hne : ∀ b, Typed w b 5 → some b ≠ row) : Els w' B vs L := fun j hj => by
  obtain ⟨b, c, h1, h2, h3, h4⟩ := h j hj
  exact ⟨b, c, h1, h2, h3.grown hg (hne b h3), h4.other hg (hne b h3)⟩
theorem Els.below {w w' : World} {B : Nat} {vs : List Value} {L : List (List UInt8)} (h : Els w B vs L) (hb : Below w.heap.size w w') : Els w' B vs L :=
  h.keep (grown_of_below hb none) (fun _ _ => by simp)
theorem Els.snoc {w : World} {B b c : Nat} {vs : List Value} {L : List (List UInt8)} {xs : List UInt8} (h : Els w B vs L) (hl : vs.length = L.length) (hb : B ≤ b) (ht : Typed w b 5) (hr : Row w b 0 xs) :
    Els w B (vs ++ [.slice (some ⟨b, 0, none⟩) xs.length c]) (L ++ [xs]) := fun j hj => by
  by_cases hlt : j < L.length
  · obtain ⟨b', c', h1, h2, h3, h4⟩ := h j hlt
    refine ⟨b', c', ?_, h2, h3, ?_⟩
    · rw [List.getElem?_append_left (by omega), List.getElem_append_left hlt]; exact h1
    · rw [List.getElem_append_left hlt]; exact h4
  · have : j = L.length := by simp at hj; omega
    subst this
    refine ⟨b, c, ?_, hb, ht, ?_⟩
    · rw [List.getElem?_append_right (by omega), hl]; simp
    · simpa using hr
theorem Els.RL {w : World} {B g : Nat} {v : Value} {vs : List Value} {L : List (List UInt8)} (h : Els w B vs L) (ho : w.ownsRow B 28 1 v L.length vs) (hg : g < B) : RL w g v L := by
  have hlen := ho.1
  rcases ho.2 with ⟨rfl, h0⟩ | ⟨b0, cap, cur, rfl, hb, hh, hc, hm, hs, ht⟩
  · exact ⟨none, 0, by rw [h0], .inl (List.eq_nil_of_length_eq_zero h0)⟩
  · refine ⟨_, cap, rfl, .inr ⟨b0, 0, rfl, by omega, fun i hi => ?_⟩⟩
    obtain ⟨b, c, h1, h2, h3, h4⟩ := h i hi
    refine ⟨_, ?_, h4.RB (c := c) (by omega)⟩
    have := ho.cells (g := b0) rfl i _ h1
    rw [show (⟨b0, 0, none⟩ : Addr).add i = ⟨b0, 0 + i, none⟩ by unfold Addr.add; split <;> simp_all] at this
    exact this

theorem parts_next {ss : List ByteArray} {k B b c : Nat} {w w3 w5 : World} {v v' : Value} {vs : List Value} (hBw : B ≤ w.heap.size) (hlt : k < ss.length) (ho : w.ownsRow B 28 1 v k vs) (he : Els w B vs (bytesOf (ss.take k))) (hb : Bytes w w3 b c ss[k].data.toList)
    (h5 : w5.ownsRow B 28 1 v' (k + 1) (vs ++ [.slice (some ⟨b, 0, none⟩) ss[k].size c])) (hg : (w3.alloc (.cells #[.slice (some ⟨b, 0, none⟩) ss[k].size c] 28)).grownBy w5 v.ownBlock) :
    w5.ownsRow B 28 1 v' (k + 1) (vs ++ [.slice (some ⟨b, 0, none⟩) ss[k].size c]) ∧ Els w5 B (vs ++ [.slice (some ⟨b, 0, none⟩) ss[k].size c]) (bytesOf (ss.take (k + 1))) := by
  refine ⟨h5, ?_⟩
  have o4 := (own_below ho hb.below).alloc (.cells #[.slice (some ⟨b, 0, none⟩) ss[k].size c] 28)
  have e4 := (he.below hb.below).below ((Below.refl w3.heap.size w3).alloc (Nat.le_refl _) (.cells #[.slice (some ⟨b, 0, none⟩) ss[k].size c] 28))
  have far : ∀ b', Typed (w3.alloc (.cells #[.slice (some ⟨b, 0, none⟩) ss[k].size c] 28)) b' 5 → some b' ≠ v.ownBlock := fun b' ht => ht.apart o4 (by decide)
  have t4 : Typed (w3.alloc (.cells #[.slice (some ⟨b, 0, none⟩) ss[k].size c] 28)) b 5 := hb.kind.below ((Below.refl w3.heap.size w3).alloc (Nat.le_refl _) _) hb.lt
  have r4 : Row (w3.alloc (.cells #[.slice (some ⟨b, 0, none⟩) ss[k].size c] 28)) b 0 ss[k].data.toList := hb.row.below ((Below.refl w3.heap.size w3).alloc (Nat.le_refl _) _)
  have hl : vs.length = (bytesOf (ss.take k)).length := by rw [bytesOf_length, List.length_take, ho.1]; omega
  have hB : B ≤ b := by
    exact Nat.le_trans hBw hb.new
  have := (e4.keep hg far).snoc (c := c) hl hB (t4.grown hg (far b t4)) (r4.other hg (far b t4))
  rw [bytesOf_snoc ss k hlt]
  simpa using this

theorem small_next {ss : List ByteArray} {k : Nat} (hlt : k < ss.length) (h : ∀ x ∈ ss.take k, x.size ≤ 200) (hk : ¬ 200 < ss[k].size) : ∀ x ∈ ss.take (k + 1), x.size ≤ 200 := by
  intro x hx
  rw [take_snoc ss k hlt, List.mem_append] at hx
  rcases hx with hx | hx
  · exact h x hx
  · simp at hx
    subst hx
    omega

theorem flat_small : ∀ (ss : List ByteArray), (∀ x ∈ ss, x.size ≤ 200) → (bytesOf ss).flatten.length ≤ 200 * ss.length
  | [], _ => by simp [bytesOf]
  | s :: ss, h => by
    have h1 := flat_small ss (fun x hx => h x (List.mem_cons_of_mem _ hx))
    have h2 := h s (List.mem_cons_self ..)
    simp only [bytesOf, List.map_cons, List.flatten_cons, List.length_append, List.length_cons] at h1 ⊢
    have h3 : s.data.toList.length = s.size := by simp
    omega

theorem wrap64_id {n : Int} (h0 : -9223372036854775808 ≤ n) (h1 : n ≤ 9223372036854775807) : wrap64 n = n := by
  unfold wrap64; omega
theorem cnt_small : ∀ (L : List (List UInt8)) (n : Int), 0 ≤ n → n + L.flatten.length ≤ 9223372036854775807 → cnt n L = n + L.flatten.length
  | [], n, _, _ => by simp [cnt]
  | x :: L, n, h0, h1 => by
    rw [List.flatten_cons, List.length_append] at h1
    have e : wrap64 (n + x.length) = n + x.length := wrap64_id (by omega) (by omega)
    show cnt (wrap64 (n + x.length)) L = _
    rw [e, cnt_small L _ (by omega) (by omega), List.flatten_cons, List.length_append]
    omega
theorem small_one {ss : List ByteArray} (h : ∀ x ∈ ss, x.size ≤ 200) {x : List UInt8} (hx : x ∈ bytesOf ss) : x.length ≤ 200 := by
  obtain ⟨s, hs, rfl⟩ := List.mem_map.1 hx
  have := h s hs
  have h3 : s.data.toList.length = s.size := by simp
  omega

theorem row_RBs {w : World} {g b off c : Nat} {s : ByteArray} (h : Row w b off s.data.toList) (hb : b ≠ g) : RB w g (.slice (some ⟨b, off, none⟩) s.size c) s.data.toList := by
  have e : s.size = s.data.toList.length := by simp
  rw [e]
  exact h.RB hb
theorem of_bytes {w : World} {g b c : Nat} {n : Int} {s : ByteArray} (hs : SumAt w g n) (hr : Row w b 0 s.data.toList) (hb : b ≠ g) (hlen : s.size ≤ 9223372036854775807) :
    Calls Try.prog 24 #[.pointer (some ⟨g, 0, none⟩), .slice (some ⟨b, 0, none⟩) s.size c] w fun e w' => e = .returned (.int .u32 (Crc.crc s.data.toList : Nat)) ∧ SumUp w' g (wrap64 (n + s.size)) ∧ w.grownBy w' (some g) := by
  have e : s.data.toList.length = s.size := by simp
  have H := of_any g n _ _ w hs (row_RBs (c := c) hr hb) (by rw [e]; exact hlen)
  rw [e] at H
  exact H

theorem parts_none (g : Nat) (n : Int) (w : World) (h : SumAt w g n) :
    Calls Try.prog 26 #[.pointer (some ⟨g, 0, none⟩), .slice none 0 0] w fun e w' => e = .returned (.int .u32 0) ∧ SumAt w' g n ∧ w.grownBy w' (some g) := by
  have H := parts_any g n (.slice none 0 0) [] w h ⟨_, _, rfl, .inl rfl⟩ (by simp) (by simp)
  rw [List.flatten_nil, awake_crc3] at H
  exact H.mono fun e w' ⟨h1, h2, h3⟩ => ⟨h1, h2.at_, h3⟩

set_option maxRecDepth 100000 in
set_option maxHeartbeats 400000 in
theorem parts_short (v : Value) (ss : List ByteArray) (w : World) (hS : Strs w v ss) (h20 : ss.length ≤ 20) :
    Calls Try.prog 4 #[v] w fun e w' => e = .returned (.bool true) ∧ Below w.heap.size w w' := by
  obtain ⟨i0, hi0, hz0, hz1, hz2⟩ := info_parts info28
  obtain ⟨A, c0, hv, _⟩ := id hS
  have HS := hide hS
  clear hS
  subst hv
  go_enter Try.func4, Try.ntmps4
  go_wp2_with fail
  refine (new_any _).mono ?_
  rintro e w1 ⟨g, rfl, hu⟩
  have U1 := hide hu
  clear hu
  go_wp2_with fail
  refine (awake2 _).mono ?_
  rintro e w2 ⟨rfl, hb⟩
  have U2 := hide (U1.out.below hb)
  clear hb
  go_wp2_with fail
  have RS2 := hide (HS.out.RS rfl U2.out.2.1 U2.out.2.2.1)
  go_loopw [4, 5, 6] (fun all pcs i wr => ∃ (k : Nat) (vs : List Value), k ≤ ss.length ∧ i = .int .i64 k ∧ all = .string (strOf (bytesOf (ss.take k)).flatten) ∧ Below w2.heap.size w2 wr ∧
    wr.ownsRow w2.heap.size 28 1 pcs k vs ∧ Els wr w2.heap.size vs (bytesOf (ss.take k)) ∧ (∀ x ∈ ss.take k, x.size ≤ 200)) (fun _ _ i _ => ss.length - (intOf i).toNat)
  case atStart =>
    exact ⟨0, [], by omega, rfl, rfl, (Below.refl _ _).alloc (Nat.le_refl _) _, World.ownsRow_made w2 #[] 0 (Nat.le_refl _) (by simp [maxLen]) rfl, fun j h => by simp [bytesOf] at h, by simp⟩
  case round =>
    obtain ⟨k, vs, hk, rfl, rfl, hb, hown, hel, hsm⟩ := hrel
    have BW := hide hb
    have OW := hide hown
    have EL := hide hel
    have SM := hide hsm
    clear hb hown hel hsm
    by_cases hlt : k < ss.length
    · obtain ⟨b, off, hA, hc⟩ : ∃ b off, A = some ⟨b, off, none⟩ ∧ w2.cell? ⟨b, off + k, none⟩ = some (.string ss[k]) := by
        obtain ⟨A', c', hv', _, _, _, h⟩ := RS2.out
        injection hv' with hv'
        subst hv'
        rcases h with h | ⟨b, off, h1, h2, h3⟩
        · rw [h] at hlt; simp at hlt
        · exact ⟨b, off, h1, h3 k hlt⟩
      subst hA
      have hc1 : wr.cell? ⟨b, off + k, none⟩ = some (.string ss[k]) := by
        rw [BW.out.cell (p := ⟨b, off + k, none⟩) (World.block_lt_of_cell? w2 _ hc)]; exact hc
      clear hc
      by_cases hbig : 200 < ss[k].size
      · have hbig' : (200 : Int) < (ss[k].size : Int) := by omega
        go_wp2
        go_ret
        exact ⟨rfl, U2.out.2.1.trans (BW.out.mono U2.out.2.2.2)⟩
      · have hsz : (strOf (bytesOf (ss.take k)).flatten).size ≤ 4000 := by
          have := flat_small (ss.take k) SM.out
          rw [strOf_size]
          rw [List.length_take] at this
          omega
        go_wp2_with (first
          | (with_reducible refine wpList_to_bytes rfl _ rfl _ rfl ?_; intro b3 c3 w3 hby)
          | (at_builtin; go_loud (refine wpList_append_own _ rfl _ _ 32 rfl w2.heap.size 28 i0 (.slice none 0 0) 1 24 Try.underlying32 hi0 hz0 hz1 hz2 rfl (by decide) _ _ _ rfl ((own_below OW.out hby.below).alloc _) ⟨w3.heap.size, 0, none⟩ 1 1 [.slice (some ⟨b3, 0, none⟩) ss[k].size c3] rfl rfl (cell_one_new _ _ _) (by simp [Value.oneCell']) (by unfold maxLen; omega) (by omega) (by simpa using Nat.le_trans BW.out.size (Nat.le_succ_of_le hby.below.size)) ?_); intro v' w5 hown5 hg5 _))
        have NX := hide (parts_next BW.out.size hlt OW.out EL.out hby hown5 hg5)
        have LB := hide (BW.out.trans ((hby.below.mono BW.out.size).trans ((Below.refl _ _).alloc (Nat.le_trans BW.out.size hby.below.size) (.cells #[.slice (some ⟨b3, 0, none⟩) ss[k].size c3] 28))))
        have L5 := hide (LB.out.grown hg5 (by simpa using Nat.le_trans BW.out.size (Nat.le_succ_of_le hby.below.size)) (fun q hq => (OW.out.lt q hq).1))
        have S5 := hide (small_next hlt SM.out hbig)
        have E5 := hide (strOf_add (bytesOf (ss.take k)).flatten ss[k])
        clear hown5 hg5 hby
        go_roundw
        case rel => exact ⟨k + 1, vs ++ [.slice (some ⟨b3, 0, none⟩) ss[k].size c3], by omega, by go_num, by rw [E5.out, bytesOf_snoc ss k hlt, List.flatten_append]; simp, L5.out, NX.out.1, NX.out.2, S5.out⟩
        case measure => simp [intOf]; omega
    · obtain rfl : k = ss.length := by omega
      have hrl := EL.out.RL (by simpa [bytesOf_length] using OW.out) U2.out.1.lt
      rw [List.take_length] at hrl
      have S3 := U2.out.1.below BW.out U2.out.1.lt
      have SM' := SM.out
      rw [List.take_length] at SM'
      have hfl := flat_small ss SM'
      have hcn := cnt_small (bytesOf ss) 0 (by omega) (by omega)
      have P := hide (parts_any g 0 u5 (bytesOf ss) wr S3 hrl (by rw [bytesOf_length]; omega) (fun x hx => by have := small_one SM' hx; omega))
      have CN := hide hcn
      have FL := hide hfl
      clear hrl S3 SM' hcn hfl
      go_wp2_with fail
      refine P.out.mono ?_
      rintro e w4 ⟨rfl, hup, hgr⟩
      have U4 := hide ((show Und w.heap.size w wr g 0 from ⟨U2.out.1.below BW.out U2.out.1.lt, U2.out.2.1.trans (BW.out.mono U2.out.2.2.2), U2.out.2.2.1, Nat.le_trans U2.out.2.2.2 BW.out.size⟩).grown hup.at_ hgr)
      clear hup hgr
      go_wp2_with (with_reducible refine wpList_to_bytes rfl _ rfl _ rfl ?_; intro b5 c5 w5 hby)
      have U5 := hide (U4.out.below hby.below)
      have OF := hide (of_bytes (s := strOf (bytesOf ss).flatten) (c := c5) U5.out.1 hby.row (by have := U4.out.1.lt; have := hby.new; omega) (by rw [strOf_size]; have := FL.out; omega))
      clear hby
      go_wp2_with fail
      refine OF.out.mono ?_
      rintro e w6 ⟨rfl, hup, hgr⟩
      have U6 := hide (U5.out.grown hup.at_ hgr)
      have e6 : wrap64 (cnt 0 (bytesOf ss) + ((strOf (bytesOf ss).flatten).size : Int)) = 2 * ((strOf (bytesOf ss).flatten).size : Int) := by
        have h1 := CN.out
        have h2 := FL.out
        rw [h1, strOf_size, wrap64_id (by omega) (by omega)]
        omega
      have hsz : (strOf (bytesOf ss).flatten).size ≤ 4000 := by rw [strOf_size]; have := FL.out; omega
      rw [e6] at hup
      have C6 := hide (count_any g _ _ hup)
      clear hup hgr e6
      go_wp2_with fail
      refine C6.out.mono ?_
      rintro e w7 ⟨rfl, rfl⟩
      go_wp2_with fail
      refine (parts_none g _ _ U6.out.1).mono ?_
      rintro e w7 ⟨rfl, hs, hgr⟩
      have U7 := hide (U6.out.grown hs hgr)
      clear hs hgr
      go_wp2_with fail
      go_ret
      exact ⟨rfl, U7.out.2.1⟩

set_option maxRecDepth 100000 in
set_option maxHeartbeats 400000 in
theorem parts_long (v : Value) (ss : List ByteArray) (w : World) (hS : Strs w v ss) (h20 : 20 < ss.length) :
    Calls Try.prog 4 #[v] w fun e w' => e = .returned (.bool true) ∧ Below w.heap.size w w' := by
  obtain ⟨A, c0, hv, hc, hm, _⟩ := id hS
  unfold maxLen at hm
  clear hS
  subst hv
  go_enter Try.func4, Try.ntmps4
  go_wp2_with fail
  refine (new_any _).mono ?_
  rintro e w1 ⟨g, rfl, hu⟩
  have U1 := hide hu
  clear hu
  go_wp2_with fail
  refine (awake2 _).mono ?_
  rintro e w2 ⟨rfl, hb⟩
  have U2 := hide (U1.out.below hb)
  clear hb
  go_wp2_with fail
  refine (awake2 _).mono ?_
  rintro e w3 ⟨rfl, hb⟩
  have U3 := hide (U2.out.below hb)
  clear hb
  go_wp2_with fail
  go_ret
  exact ⟨rfl, U3.out.2.1⟩

theorem sumParts_walk {w : World} (v : Value) (ss : List ByteArray) (hS : Strs w v ss) :
    Calls Try.prog 4 #[v] w fun e w' => e = .returned (.bool true) ∧ Below w.heap.size w w' := by
  by_cases h : ss.length ≤ 20
  · exact parts_short v ss w hS h
  · exact parts_long v ss w hS (by omega)
end Go.Proofs.Ytljfomgcoodjkaa
