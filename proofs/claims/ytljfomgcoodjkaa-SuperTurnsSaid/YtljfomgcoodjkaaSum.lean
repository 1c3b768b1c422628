/- The walks of the sums: Parts, Of, Right, Count over a summer whose block is known: what they return, what is counted, that nothing else has turned. -/
import Derived.Test.YtljfomgcoodjkaaDo
namespace Go.Proofs.Ytljfomgcoodjkaa
open Go.RowKit

/-- A byte as the value of a cell. -/
def bv (c : UInt8) : Value := .int .u8 (c.toNat : Int)

/-- A slice that reads as bytes, none of them in block g. -/
def RB (w : World) (g : Nat) (v : Value) (xs : List UInt8) : Prop :=
  ∃ A c, v = .slice A xs.length c ∧ (xs = [] ∨ ∃ b off, A = some ⟨b, off, none⟩ ∧ b ≠ g ∧ ∀ i, (h : i < xs.length) → w.cell? ⟨b, off + i, none⟩ = some (.int .u8 (xs[i].toNat : Int)))

/-- A slice of slices of bytes. -/
def RL (w : World) (g : Nat) (v : Value) (L : List (List UInt8)) : Prop :=
  ∃ A c, v = .slice A L.length c ∧ (L = [] ∨ ∃ b off, A = some ⟨b, off, none⟩ ∧ b ≠ g ∧ ∀ i, (h : i < L.length) → ∃ x, w.cell? ⟨b, off + i, none⟩ = some x ∧ RB w g x L[i])

def cnt (n : Int) (L : List (List UInt8)) : Int := L.foldl (fun n b => wrap64 (n + b.length)) n

theorem cell_grown {w w' : World} {g : Nat} (hg : w.grownBy w' (some g)) {b o : Nat} {v : Value} (hb : b ≠ g) (h : w.cell? ⟨b, o, none⟩ = some v) : w'.cell? ⟨b, o, none⟩ = some v :=
  hg.cell h (fun e => hb (Option.some.inj e))

theorem RB.grown {w w' : World} {g : Nat} {v : Value} {xs : List UInt8} (h : RB w g v xs) (hg : w.grownBy w' (some g)) : RB w' g v xs := by
  obtain ⟨A, c, hv, h⟩ := h
  refine ⟨A, c, hv, h.imp id fun ⟨b, off, hA, hb, hc⟩ => ⟨b, off, hA, hb, fun i hi => cell_grown hg hb (hc i hi)⟩⟩

theorem RL.grown {w w' : World} {g : Nat} {v : Value} {L : List (List UInt8)} (h : RL w g v L) (hg : w.grownBy w' (some g)) : RL w' g v L := by
  obtain ⟨A, c, hv, h⟩ := h
  refine ⟨A, c, hv, h.imp id fun ⟨b, off, hA, hb, hc⟩ => ⟨b, off, hA, hb, fun i hi => ?_⟩⟩
  obtain ⟨x, h1, h2⟩ := hc i hi
  exact ⟨x, cell_grown hg hb h1, h2.grown hg⟩

theorem low_xor (v : Nat) (c : UInt8) : bits BinOp.xor IntKind.u8 ((v : Int) % 256) (c.toNat : Int) = ((v % 256 ^^^ c.toNat : Nat) : Int) := by
  rw [show (v : Int) % 256 = ((v % 256 : Nat) : Int) by omega, u8_xor_nat _ _ (by omega) c.toNat_lt]
theorem high_xor (v i : Nat) (hv : v < 2 ^ 32) (hi : i < 256) : bits BinOp.xor IntKind.u32 ((v : Int) / 256) (Crc.tab i : Int) = ((v / 256 ^^^ Crc.tab i : Nat) : Int) := by
  rw [show (v : Int) / 256 = ((v / 256 : Nat) : Int) by omega, u32_xor_nat _ _ (by omega) (Crc.tab_lt hi)]

theorem SumUp.count {w : World} {g : Nat} {n : Int} (h : SumUp w g n) : w.cell? ⟨g, 259, none⟩ = some (.int .i64 n) := by
  obtain ⟨cs, hb, _, _, hn, _⟩ := h
  rw [hb.cell]; exact hn
theorem SumUp.free {w : World} {g : Nat} {n : Int} (h : SumUp w g n) : w.frozen? ⟨g, 259, none⟩ = false := by
  obtain ⟨cs, hb, _⟩ := h
  exact hb.frozen _
theorem SumUp.entry {w : World} {g : Nat} {n : Int} (h : SumUp w g n) {i : Nat} (hi : i < 256) : w.cell? ⟨g, 3 + i, none⟩ = some (.int .u32 (Crc.tab i : Nat)) := by
  obtain ⟨cs, hb, _, _, _, _, ht⟩ := h
  rw [hb.cell]; exact ht i hi
theorem SumUp.add {w : World} {g : Nat} {n : Int} (h : SumUp w g n) (m : Int) : SumUp (w.setCell ⟨g, 259, none⟩ (.int .i64 m)) g m := by
  obtain ⟨cs, hb, hs, h1, hn, h0, ht⟩ := h
  refine ⟨_, hb.set_ _ _, by rw [Array.size_setIfInBounds]; exact hs, ?_, Array.getElem?_setIfInBounds_self_of_lt (by omega), ?_, fun i hi => ?_⟩
  · rw [Array.getElem?_setIfInBounds_ne (by omega)]; exact h1
  · rw [Array.getElem?_setIfInBounds_ne (by omega)]; exact h0
  · rw [Array.getElem?_setIfInBounds_ne (by omega)]; exact ht i hi
theorem SumUp.at_ {w : World} {g : Nat} {n : Int} (h : SumUp w g n) : SumAt w g n := by
  obtain ⟨cs, hb, hs, h1, hn, h0, ht⟩ := h
  exact ⟨cs, hb, hs, h1, hn, .inr ⟨h0, ht⟩⟩
theorem SumAt.grown {w w' : World} {g g' : Nat} {n : Int} (h : SumAt w g n) (hg : w.grownBy w' (some g')) (hne : g ≠ g') : SumAt w' g n := by
  obtain ⟨cs, hb, r⟩ := h
  exact ⟨cs, hb.grown hg (fun e => hne (Option.some.inj e)), r⟩

theorem ret_int {k : IntKind} {a b : Int} (h : a = b) : Ending.returned (.int k a) = .returned (.int k b) := by rw [h]
theorem sum_end (x : Nat) (hx : x < 2 ^ 32) : bits BinOp.xor IntKind.u32 IntKind.u32.max (x : Int) = ((x ^^^ 4294967295 : Nat) : Int) := by
  rw [show IntKind.u32.max = ((4294967295 : Nat) : Int) from rfl, u32_xor_nat _ _ (by decide) hx, Nat.xor_comm]

theorem take_snoc {α : Type} (l : List α) (k : Nat) (h : k < l.length) : l.take (k + 1) = l.take k ++ [l[k]] := by
  rw [List.take_succ_eq_append_getElem h]
theorem run_step (X : List UInt8) (xs : List UInt8) (m : Nat) (h : m < xs.length) (q : Nat) (hq : q = Crc.run 4294967295 (X ++ xs.take m) % 256 ^^^ xs[m].toNat) :
    Crc.run 4294967295 (X ++ xs.take m) / 256 ^^^ Crc.tab q = Crc.run 4294967295 (X ++ xs.take (m + 1)) := by
  rw [take_snoc xs m h, ← List.append_assoc, Crc.run_snoc, hq]; rfl
theorem flat_step (L : List (List UInt8)) (k : Nat) (h : k < L.length) : (L.take k).flatten ++ L[k] = (L.take (k + 1)).flatten := by
  rw [take_snoc L k h, List.flatten_append, List.flatten_cons, List.flatten_nil, List.append_nil]
theorem cnt_step (n : Int) (L : List (List UInt8)) (k : Nat) (h : k < L.length) : wrap64 (cnt n (L.take k) + L[k].length) = cnt n (L.take (k + 1)) := by
  rw [take_snoc L k h, cnt, cnt, List.foldl_append]; rfl

set_option maxRecDepth 100000 in
set_option maxHeartbeats 800000 in
theorem parts_any (g : Nat) (n : Int) (lv : Value) (L : List (List UInt8)) (w : World) (h : SumAt w g n) (hl : RL w g lv L) (hlen : L.length ≤ 9223372036854775807) (hlens : ∀ x ∈ L, x.length ≤ 9223372036854775807) :
    Calls Try.prog 26 #[.pointer (some ⟨g, 0, none⟩), lv] w fun e w' => e = .returned (.int .u32 (Crc.crc L.flatten : Nat)) ∧ SumUp w' g (cnt n L) ∧ w.grownBy w' (some g) := by
  obtain ⟨A, c, rfl, hl⟩ := hl
  have hmf : ∀ (fn : Fn) (first cap : Array Value) (w : World), (Instr.makeFunc fn first cap).run Try.prog w = .ok (.func fn first cap) w := fun _ _ _ _ => rfl
  go_enter Try.func26, Try.ntmps26
  go_wp2_with (go_at_call 47; refine (do_any g n _ h).mono ?_; rintro e w1 ⟨rfl, hup, hgr⟩)
  have HN := hide hlens
  have HL := hide hl
  have UP := hide hup
  have GR := hide hgr
  clear hlens hl hup hgr
  go_loopw [5, 18] (fun v i wr => ∃ k : Nat, k ≤ L.length ∧ i = .int .i64 k ∧ v = .int .u32 (Crc.run 4294967295 (L.take k).flatten : Nat) ∧ SumUp wr g (cnt n (L.take k)) ∧ w.grownBy wr (some g)) (fun _ i _ => L.length - (intOf i).toNat)
  case atStart => exact ⟨0, by omega, rfl, rfl, UP.out, GR.out⟩
  case round =>
    obtain ⟨k, hk, rfl, rfl, hup, hgr⟩ := hrel
    by_cases hlt : k < L.length
    · obtain ⟨b, off, rfl, hbg, hc⟩ : ∃ b off, A = some ⟨b, off, none⟩ ∧ b ≠ g ∧ ∀ i, (h : i < L.length) → ∃ x, w.cell? ⟨b, off + i, none⟩ = some x ∧ RB w g x L[i] := by
        rcases HL.out with h0 | h0
        · rw [h0] at hlt; simp at hlt
        · exact h0
      obtain ⟨x, hx, hrb⟩ := hc k hlt
      have hx' := cell_grown hgr hbg hx
      have hrb' := hrb.grown hgr
      have hm : L[k].length ≤ 9223372036854775807 := HN.out _ (List.getElem_mem hlt)
      have UP := hide hup
      have GR := hide hgr
      clear hup hgr hx hrb hc
      obtain ⟨A2, c2, rfl, hr⟩ := hrb'
      have HR := hide hr
      clear hr
      obtain ⟨xs, hxs⟩ : ∃ xs, xs = L[k] := ⟨_, rfl⟩
      rw [← hxs] at hx' hm HR
      have HX := hide hxs
      clear hxs
      go_wp2
      go_loop [5, 24] (fun v j => ∃ m : Nat, m ≤ xs.length ∧ j = .int .i64 m ∧ v = .int .u32 (Crc.run 4294967295 ((L.take k).flatten ++ xs.take m) : Nat)) (fun _ j => xs.length - (intOf j).toNat)
      case atStart => exact ⟨0, by omega, rfl, by simp⟩
      case round =>
        obtain ⟨m, hm', rfl, rfl⟩ := hrel
        by_cases hlm : m < xs.length
        · obtain ⟨b2, off2, rfl, hb2, hc2⟩ : ∃ b off, A2 = some ⟨b, off, none⟩ ∧ b ≠ g ∧ ∀ i, (h : i < xs.length) → wr.cell? ⟨b, off + i, none⟩ = some (.int .u8 (xs[i].toNat : Int)) := by
            rcases HR.out with h0 | h0
            · rw [h0] at hlm; simp at hlm
            · exact h0
          have hcell := hc2 m hlm
          have hxm : xs[m].toNat < 256 := xs[m].toNat_lt
          have hv : Crc.run 4294967295 ((L.take k).flatten ++ xs.take m) < 2 ^ 32 := Crc.run_lt _ (by decide)
          have hidx := low_xor (Crc.run 4294967295 ((L.take k).flatten ++ xs.take m)) xs[m]
          obtain ⟨v, hve⟩ : ∃ v, v = Crc.run 4294967295 ((L.take k).flatten ++ xs.take m) := ⟨_, rfl⟩
          rw [← hve] at hv hidx ⊢
          obtain ⟨q, hq⟩ : ∃ q, q = v % 256 ^^^ xs[m].toNat := ⟨_, rfl⟩
          have hq256 : q < 256 := by rw [hq]; exact Nat.xor_lt_two_pow (n := 8) (by omega) hxm
          rw [← hq] at hidx
          have hent := UP.out.entry hq256
          have hhi := high_xor v q hv hq256
          have HQ := hide hq
          have HV := hide hve
          clear hq hve hc2
          go_wp2
          go_round
          case rel => exact ⟨m + 1, by omega, by go_num, u32_eq (by rw [HV.out]; exact congrArg _ (run_step _ xs m hlm q (by rw [← HV.out]; exact HQ.out)))⟩
          case measure => simp [intOf]; omega
        · obtain rfl : m = xs.length := by omega
          go_wp2_with (go_at_call 49; refine (count_add ⟨g, 259, none⟩ (cnt n (L.take k)) xs.length _ UP.out.count UP.out.free).mono ?_; rintro e w' ⟨rfl, rfl⟩)
          go_roundw
          case rel => exact ⟨k + 1, by omega, by go_num, u32_eq (by rw [HX.out, flat_step L k hlt]), by rw [← cnt_step n L k hlt, ← HX.out]; exact UP.out.add _, grown_setCell GR.out (.inl rfl) _⟩
          case measure => simp [intOf]; omega
    · obtain rfl : k = L.length := by omega
      go_wp2
      go_ret
      rw [List.take_length] at hup
      exact ⟨ret_int (sum_end _ (Crc.run_lt _ (by decide))), hup, hgr⟩

theorem SumAt.alloc {w : World} {g : Nat} {n : Int} (h : SumAt w g n) (o : Obj) : SumAt (w.alloc o) g n := by
  obtain ⟨cs, hb, r⟩ := h
  exact ⟨cs, hb.alloc o, r⟩
theorem SumAt.drewN {w : World} {g : Nat} {n : Int} (h : SumAt w g n) (k : Nat) : SumAt (w.drewN k) g n := h
theorem SumAt.drew {w : World} {g : Nat} {n : Int} (h : SumAt w g n) : SumAt w.drew g n := h
theorem SumAt.lt {w : World} {g : Nat} {n : Int} (h : SumAt w g n) : g < w.heap.size := by
  obtain ⟨cs, hb, r⟩ := h
  exact hb.lt
theorem SumAt.below {w w' : World} {g B : Nat} {n : Int} (h : SumAt w g n) (hb : Below B w w') (hg : g < B) : SumAt w' g n := by
  obtain ⟨cs, hk, r⟩ := h
  exact ⟨cs, hk.below hb hg, r⟩
theorem RB.alloc {w : World} {g : Nat} {v : Value} {xs : List UInt8} (h : RB w g v xs) (o : Obj) : RB (w.alloc o) g v xs := h.grown (World.grownBy_alloc w o _)

theorem RL.one {w : World} {g b c : Nat} {v : Value} {xs : List UInt8} (hb : b ≠ g) (hc : w.cell? ⟨b, 0, none⟩ = some v) (h : RB w g v xs) : RL w g (.slice (some ⟨b, 0, none⟩) 1 c) [xs] :=
  ⟨_, _, rfl, .inr ⟨b, 0, rfl, hb, fun i hi => by
    have : i = 0 := by simp at hi; omega
    subst this
    exact ⟨v, hc, h⟩⟩⟩

set_option maxRecDepth 100000 in
set_option maxHeartbeats 400000 in
theorem of_any (g : Nat) (n : Int) (v : Value) (xs : List UInt8) (w : World) (h : SumAt w g n) (hv : RB w g v xs) (hlen : xs.length ≤ 9223372036854775807) :
    Calls Try.prog 24 #[.pointer (some ⟨g, 0, none⟩), v] w fun e w' => e = .returned (.int .u32 (Crc.crc xs : Nat)) ∧ SumUp w' g (wrap64 (n + xs.length)) ∧ w.grownBy w' (some g) := by
  have hlt := h.lt
  obtain ⟨A, c, rfl, hv⟩ : ∃ A c, v = .slice A xs.length c ∧ RB w g v xs := by
    obtain ⟨A, c, h1, h2⟩ := hv
    exact ⟨A, c, h1, A, c, h1, h2⟩
  have H := hide (h.alloc (.cells #[.slice A xs.length c] 28))
  have V := hide (hv.alloc (.cells #[.slice A xs.length c] 28))
  have hc : (w.alloc (.cells #[.slice A xs.length c] 28)).cell? ⟨w.heap.size, 0, none⟩ = some (.slice A xs.length c) := by simp
  have HC := hide hc
  clear h hv hc
  go_enter Try.func24, Try.ntmps24
  go_wp2_with fail
  refine (parts_any g n _ [xs] _ H.out (RL.one (Nat.ne_of_gt hlt) HC.out V.out) (by simp) (by simpa using hlen)).mono ?_
  rintro e w1 ⟨rfl, hup, hgr⟩
  have UP := hide hup
  have GR := hide hgr
  clear hup hgr
  go_wp2_with fail
  go_ret
  exact ⟨ret_int (by simp), UP.out, grown_trans (World.grownBy_alloc w _ _) GR.out⟩

set_option maxRecDepth 100000 in
set_option maxHeartbeats 400000 in
theorem count_any (g : Nat) (n : Int) (w : World) (h : SumUp w g n) :
    Calls Try.prog 27 #[.pointer (some ⟨g, 0, none⟩)] w fun e w' => e = .returned (.int .i64 n) ∧ w = w' := by
  have hc := h.count
  clear h
  go_enter Try.func27, Try.ntmps27
  go_wp2_with (go_at_call 50; refine (count_load ⟨g, 259, none⟩ n _ hc).mono ?_; rintro e w' ⟨rfl, rfl⟩)
  go_ret
  exact ⟨rfl, rfl⟩

set_option maxRecDepth 100000 in
set_option maxHeartbeats 400000 in
theorem right_any (g : Nat) (n : Int) (v : Value) (xs : List UInt8) (s : Int) (w : World) (h : SumAt w g n) (hv : RB w g v xs) (hlen : xs.length ≤ 9223372036854775807) :
    Calls Try.prog 25 #[.pointer (some ⟨g, 0, none⟩), v, .int .u32 s] w fun e w' => e = .returned (.bool ((Crc.crc xs : Int) == s)) ∧ SumUp w' g (wrap64 (n + xs.length)) ∧ w.grownBy w' (some g) := by
  have OF := hide (of_any g n v xs w h hv hlen)
  clear h hv
  go_enter Try.func25, Try.ntmps25
  go_wp2_with fail
  refine OF.out.mono ?_
  rintro e w1 ⟨rfl, hup, hgr⟩
  have UP := hide hup
  have GR := hide hgr
  clear hup hgr
  go_wp2_with fail
  go_ret
  exact ⟨rfl, UP.out, GR.out⟩
end Go.Proofs.Ytljfomgcoodjkaa
