/- The walk of SumAlone: what was summed ahead does not matter, each sum counts its own bytes; the law returns true and nothing that was there has turned. -/
import Derived.Test.YtljfomgcoodjkaaXor
namespace Go.Proofs.Ytljfomgcoodjkaa
open Go.RowKit

theorem SumUp.grown {w w' : World} {g g' : Nat} {n : Int} (h : SumUp w g n) (hg : w.grownBy w' (some g')) (hne : g ≠ g') : SumUp w' g n := by
  obtain ⟨cs, hb, r⟩ := h
  exact ⟨cs, hb.grown hg (fun e => hne (Option.some.inj e)), r⟩
theorem SumUp.lt {w : World} {g : Nat} {n : Int} (h : SumUp w g n) : g < w.heap.size := h.at_.lt
theorem SumUp.below {w w' : World} {g B : Nat} {n : Int} (h : SumUp w g n) (hb : Below B w w') (hg : g < B) : SumUp w' g n := by
  obtain ⟨cs, hk, r⟩ := h
  exact ⟨cs, hk.below hb hg, r⟩

/-- The words of a walk over two summers. -/
structure Und2 (B : Nat) (w0 w : World) (g g2 : Nat) (n m : Int) : Prop where
  one : SumAt w g n
  two : SumAt w g2 m
  below : Below B w0 w
  b1 : B ≤ g
  b2 : B ≤ g2
  ne : g ≠ g2
  sz : B ≤ w.heap.size
theorem Und2.under {B : Nat} {w0 w w' : World} {g g2 : Nat} {n m : Int} (h : Und2 B w0 w g g2 n m) (hb : Below w.heap.size w w') : Und2 B w0 w' g g2 n m :=
  ⟨h.one.below hb h.one.lt, h.two.below hb h.two.lt, h.below.trans (hb.mono h.sz), h.b1, h.b2, h.ne, Nat.le_trans h.sz hb.size⟩
theorem Und2.first {B : Nat} {w0 w w' : World} {g g2 : Nat} {n n' m : Int} (h : Und2 B w0 w g g2 n m) (hs : SumAt w' g n') (hg : w.grownBy w' (some g)) : Und2 B w0 w' g g2 n' m :=
  ⟨hs, h.two.grown hg h.ne.symm, h.below.grown hg h.sz (by intro k hk; cases hk; exact h.b1), h.b1, h.b2, h.ne, Nat.le_trans h.sz hg.size⟩
theorem Und2.second {B : Nat} {w0 w w' : World} {g g2 : Nat} {n m m' : Int} (h : Und2 B w0 w g g2 n m) (hs : SumAt w' g2 m') (hg : w.grownBy w' (some g2)) : Und2 B w0 w' g g2 n m' :=
  ⟨h.one.grown hg h.ne, hs, h.below.grown hg h.sz (by intro k hk; cases hk; exact h.b2), h.b1, h.b2, h.ne, Nat.le_trans h.sz hg.size⟩
theorem Und.two {B : Nat} {w0 w w' : World} {g g2 : Nat} {n : Int} (h : Und B w0 w g n) (h2 : Und w.heap.size w w' g2 0) : Und2 B w0 w' g g2 n 0 := by
  have := h.1.lt
  have := h2.2.2.1
  exact ⟨h.1.below h2.2.1 h.1.lt, h2.1, h.2.1.trans (h2.2.1.mono h.2.2.2), h.2.2.1, Nat.le_trans h.2.2.2 h2.2.2.1, by omega, Nat.le_trans h.2.2.2 h2.2.2.2⟩

theorem _root_.Go.RowKit.Below.old {w w' : World} {p : Addr} {v : Value} (h : Below w.heap.size w w') (hc : w.cell? p = some v) : w'.cell? p = some v := by
  rw [h.cell (World.block_lt_of_cell? w _ hc)]; exact hc

/-- How many bytes there are in the first k. -/
def lens (ss : List ByteArray) (k : Nat) : Nat := (bytesOf (ss.take k)).flatten.length
theorem lens_step (ss : List ByteArray) (k : Nat) (h : k < ss.length) : lens ss (k + 1) = lens ss k + ss[k].size := by
  unfold lens
  rw [bytesOf_snoc ss k h, List.flatten_append, List.length_append]
  simp

set_option maxRecDepth 100000 in
set_option maxHeartbeats 400000 in
theorem alone_short (v : Value) (ss : List ByteArray) (a : ByteArray) (w : World) (hS : Strs w v ss) (h20 : ss.length ≤ 20) (ha : a.size ≤ 200) :
    Calls Try.prog 8 #[v, .string a] w fun e w' => e = .returned (.bool true) ∧ Below w.heap.size w w' := by
  obtain ⟨A, c0, hv, _⟩ := id hS
  have HS := hide hS
  clear hS
  subst hv
  go_enter Try.func8, Try.ntmps8
  go_wp2_with fail
  refine (new_any _).mono ?_
  rintro e w0 ⟨g, rfl, hu⟩
  have U0 := hide hu
  clear hu
  go_wp2_with fail
  refine (new_any _).mono ?_
  rintro e w1 ⟨g2, rfl, hu⟩
  have U1 := hide (U0.out.two hu)
  clear hu
  go_wp2_with fail
  refine (awake2 _).mono ?_
  rintro e w2 ⟨rfl, hb⟩
  have U2 := hide (U1.out.under hb)
  clear hb
  go_wp2_with fail
  have RS2 := hide (HS.out.RS rfl U2.out.below U2.out.b1)
  go_loopw [7, 8] (fun n i wr => ∃ (k : Nat), k ≤ ss.length ∧ i = .int .i64 k ∧ n = .int .i64 (lens ss k) ∧ Und2 w.heap.size w wr g g2 (lens ss k : Nat) 0 ∧ (∀ x ∈ ss.take k, x.size ≤ 200)) (fun _ i _ => ss.length - (intOf i).toNat)
  case atStart => exact ⟨0, by omega, rfl, by simp [lens, bytesOf], by simpa [lens, bytesOf] using U2.out, by simp⟩
  case round =>
    obtain ⟨k, hk, rfl, rfl, hu, hsm⟩ := hrel
    have U := hide hu
    have SM := hide hsm
    clear hu hsm
    by_cases hlt : k < ss.length
    · obtain ⟨b, off, hA, hcw⟩ : ∃ b off, A = some ⟨b, off, none⟩ ∧ w.cell? ⟨b, off + k, none⟩ = some (.string ss[k]) := by
        obtain ⟨A', c', hv', _, _, _, h⟩ := HS.out
        injection hv' with hv'
        subst hv'
        rcases h with h | ⟨b, off, h1, h3⟩
        · rw [h] at hlt; simp at hlt
        · exact ⟨b, off, h1, h3 k hlt⟩
      subst hA
      have CW := hide hcw
      have hc := U.out.below.old hcw
      clear hcw
      have hlk : lens ss k ≤ 4000 := by
        have := flat_small (ss.take k) SM.out
        rw [List.length_take] at this
        unfold lens
        omega
      by_cases hbig : 200 < ss[k].size
      · have hbig' : (200 : Int) < (ss[k].size : Int) := by omega
        go_wp2
        go_ret
        exact ⟨rfl, U.out.below⟩
      · go_wp2_with (with_reducible refine wpList_to_bytes rfl _ rfl _ rfl ?_; intro b3 c3 w3 hby)
        have U3 := hide (U.out.under hby.below)
        have O1 := hide (of_bytes (s := ss[k]) (c := c3) U3.out.one hby.row (by have := U.out.one.lt; have := hby.new; omega) (by omega))
        clear hby
        refine O1.out.mono ?_
        rintro e w4 ⟨rfl, hup, hgr⟩
        have U4 := hide (U3.out.first hup.at_ hgr)
        have e4 : wrap64 ((lens ss k : Int) + ss[k].size) = ((lens ss (k + 1) : Nat) : Int) := by rw [wrap64_id (by omega) (by omega), lens_step ss k hlt]; omega
        have E4 := hide e4
        have hc4 := U4.out.below.old CW.out
        have S4 := hide (small_next hlt SM.out hbig)
        clear hup hgr e4
        go_wp2_with fail
        go_roundw
        case rel => exact ⟨k + 1, by omega, by go_num, by rw [lens_step ss k hlt]; go_num, by rw [← E4.out]; exact U4.out, S4.out⟩
        case measure => simp [intOf]; omega
    · obtain rfl : k = ss.length := by omega
      have hlk : lens ss ss.length ≤ 4000 := by
        have := flat_small (ss.take ss.length) SM.out
        rw [List.length_take] at this
        unfold lens
        omega
      go_wp2_with (with_reducible refine wpList_to_bytes rfl _ rfl _ rfl ?_; intro b3 c3 w3 hby)
      have U3 := hide (U.out.under hby.below)
      have O1 := hide (of_bytes (s := a) (c := c3) U3.out.one hby.row (by have := U.out.one.lt; have := hby.new; omega) (by omega))
      clear hby
      refine O1.out.mono ?_
      rintro e w4 ⟨rfl, hup, hgr⟩
      rw [wrap64_id (by omega) (by omega)] at hup
      have U4 := hide (U3.out.first hup.at_ hgr)
      have C4 := hide hup
      clear hup hgr
      go_wp2_with (with_reducible refine wpList_to_bytes rfl _ rfl _ rfl ?_; intro b5 c5 w5 hby)
      have U5 := hide (U4.out.under hby.below)
      have C5 := hide (C4.out.below hby.below C4.out.lt)
      have O2 := hide (of_bytes (s := a) (c := c5) U5.out.two hby.row (by have := U4.out.two.lt; have := hby.new; omega) (by omega))
      clear hby
      refine O2.out.mono ?_
      rintro e w6 ⟨rfl, hup, hgr⟩
      rw [wrap64_id (by omega) (by omega), Int.zero_add] at hup
      have U6 := hide (U5.out.second hup.at_ hgr)
      have C6 := hide (count_any g _ _ (C5.out.grown hgr U5.out.ne))
      have D6 := hide (count_any g2 _ _ hup)
      clear hup hgr
      go_wp2_with fail
      refine C6.out.mono ?_
      rintro e w7 ⟨rfl, rfl⟩
      go_wp2_with fail
      refine D6.out.mono ?_
      rintro e w7 ⟨rfl, rfl⟩
      go_wp2_with fail
      go_ret
      exact ⟨by simp, U6.out.below⟩

set_option maxRecDepth 100000 in
set_option maxHeartbeats 400000 in
theorem alone_other (v : Value) (ss : List ByteArray) (a : ByteArray) (w : World) (hS : Strs w v ss) (_ha : a.size ≤ 9223372036854775807) (h : 20 < ss.length ∨ ss.length ≤ 20 ∧ 200 < a.size) :
    Calls Try.prog 8 #[v, .string a] w fun e w' => e = .returned (.bool true) ∧ Below w.heap.size w w' := by
  obtain ⟨A, c0, hv, hc, hm, _⟩ := id hS
  unfold maxLen at hm
  clear hS
  subst hv
  rcases h with h | ⟨h, h'⟩
  all_goals
    go_enter Try.func8, Try.ntmps8
    go_wp2_with fail
    refine (new_any _).mono ?_
    rintro e w0 ⟨g, rfl, hu⟩
    have U0 := hide hu
    clear hu
    go_wp2_with fail
    refine (new_any _).mono ?_
    rintro e w1 ⟨g2, rfl, hu⟩
    have U1 := hide (U0.out.two hu)
    clear hu
    go_wp2_with fail
    refine (awake2 _).mono ?_
    rintro e w2 ⟨rfl, hb⟩
    have U2 := hide (U1.out.under hb)
    clear hb
    go_wp2_with fail
    refine (awake2 _).mono ?_
    rintro e w3 ⟨rfl, hb⟩
    have U3 := hide (U2.out.under hb)
    clear hb
    go_wp2_with fail
    go_ret
    exact ⟨rfl, U3.out.below⟩

theorem sumAlone_walk {w : World} (v : Value) (ss : List ByteArray) (hS : Strs w v ss) (a : ByteArray) (ha : a.size ≤ maxLen) :
    Calls Try.prog 8 #[v, .string a] w fun e w' => e = .returned (.bool true) ∧ Below w.heap.size w w' := by
  unfold maxLen at ha
  by_cases h : ss.length ≤ 20
  · by_cases h' : a.size ≤ 200
    · exact alone_short v ss a w hS h h'
    · exact alone_other v ss a w hS ha (.inr ⟨h, by omega⟩)
  · exact alone_other v ss a w hS ha (.inl (by omega))
end Go.Proofs.Ytljfomgcoodjkaa
