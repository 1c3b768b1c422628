/- super.Get: the super of a slot's bytes. -/
import Derived.Test.YtljfomgcoodjkaaSPut
import Derived.BigQuiet
namespace Go.Proofs.Ytljfomgcoodjkaa
open Go.RowKit

theorem or_join (k a b x y : Nat) (hx : x = 2 ^ k * a) (hy : y < 2 ^ k) (hxy : x + y < 9223372036854775808) (hb : b = x + y) : bits .or .i64 (x : Int) (y : Int) = (b : Int) := by
  have e : x ||| y = x + y := by rw [hx]; exact (Nat.two_pow_add_eq_or_of_lt hy a).symm
  show IntKind.i64.wrap ((BitVec.ofInt 64 (x : Int) ||| BitVec.ofInt 64 (y : Int)).toNat : Int) = _
  rw [BitVec.toNat_or, ofInt_i64 _ (by omega), ofInt_i64 _ (by omega), IntKind.wrap_i64, e]
  omega
theorem four_or (a b c d : Nat) (ha : a < 256) (hb : b < 256) (hc : c < 256) (hd : d < 256) :
    bits .or .i64 (bits .or .i64 (bits .or .i64 (wrap64 (wrap64 (a : Int) * 16777216)) (wrap64 (wrap64 (b : Int) * 65536))) (wrap64 (wrap64 (c : Int) * 256))) (wrap64 (d : Int)) = ((((a * 256 + b) * 256 + c) * 256 + d : Nat) : Int) := by
  have w1 : ∀ n : Nat, n < 256 → wrap64 (n : Int) = n := fun n h => wrap64_id (by omega) (by omega)
  have wa : wrap64 (wrap64 (a : Int) * 16777216) = ((a * 16777216 : Nat) : Int) := by rw [w1 a ha, wrap64_id (by omega) (by omega)]; omega
  have wb : wrap64 (wrap64 (b : Int) * 65536) = ((b * 65536 : Nat) : Int) := by rw [w1 b hb, wrap64_id (by omega) (by omega)]; omega
  have wc : wrap64 (wrap64 (c : Int) * 256) = ((c * 256 : Nat) : Int) := by rw [w1 c hc, wrap64_id (by omega) (by omega)]; omega
  have wd : wrap64 (d : Int) = (d : Int) := wrap64_id (by omega) (by omega)
  rw [wa, wb, wc, wd, or_join 24 a (a * 16777216 + b * 65536) _ _ (by omega) (by omega) (by omega) rfl, or_join 16 (a * 256 + b) (a * 16777216 + b * 65536 + c * 256) _ _ (by omega) (by omega) (by omega) rfl,
    or_join 8 (a * 65536 + b * 256 + c) (a * 16777216 + b * 65536 + c * 256 + d) _ _ (by omega) (by omega) (by omega) rfl]
  omega
theorem byte_at (c : ByteArray) (i : Nat) (h : i < c.size) : (c.data.toList.getD i 0).toNat = (c[i]).toNat := by
  rw [List.getD_eq_getElem?_getD, List.getElem?_eq_getElem (by simpa using h)]
  rfl
theorem getTo_bytes (c : ByteArray) (i : Nat) (h : i + 3 < c.size) : getTo c.data.toList i 4 = (((c[i]).toNat * 256 + (c[i + 1]).toNat) * 256 + (c[i + 2]).toNat) * 256 + (c[i + 3]).toNat := by
  simp only [getTo]
  rw [byte_at c (i + 0) (by omega), byte_at c (i + 1) (by omega), byte_at c (i + 2) (by omega), byte_at c (i + 3) (by omega)]
  simp

set_option maxRecDepth 100000 in
set_option maxHeartbeats 1600000 in
/-- The closure of Get: a number of four bytes out of a text of twelve. -/
theorem num_any (i : Int) (c : ByteArray) (b : Nat) (w : World) (h : w.cell? ⟨b, 0, none⟩ = some (.string c)) (hc : c.size = 12) (hi : i = 0 ∨ i = 4 ∨ i = 8) :
    Calls Try.prog 63 #[.int .i64 i, .pointer (some ⟨b, 0, none⟩)] w fun e w' => e = .returned (.int .i64 (getTo c.data.toList i.toNat 4 : Nat)) ∧ Below w.heap.size w w' := by
  rcases hi with rfl | rfl | rfl
  · go_enter Try.func63, Try.ntmps63
    go_wp2_with fail
    go_quiet (fail)
    go_wp2_with fail
    go_ret
    exact ⟨ret_int (by rw [four_or _ _ _ _ (UInt8.toNat_lt _) (UInt8.toNat_lt _) (UInt8.toNat_lt _) (UInt8.toNat_lt _)]; exact congrArg Int.ofNat (getTo_bytes c 0 (by omega)).symm), below_drewN (Below.refl _ _) _⟩
  · go_enter Try.func63, Try.ntmps63
    go_wp2_with fail
    go_quiet (fail)
    go_wp2_with fail
    go_ret
    exact ⟨ret_int (by rw [four_or _ _ _ _ (UInt8.toNat_lt _) (UInt8.toNat_lt _) (UInt8.toNat_lt _) (UInt8.toNat_lt _)]; exact congrArg Int.ofNat (getTo_bytes c 4 (by omega)).symm), below_drewN (Below.refl _ _) _⟩
  · go_enter Try.func63, Try.ntmps63
    go_wp2_with fail
    go_quiet (fail)
    go_wp2_with fail
    go_ret
    exact ⟨ret_int (by rw [four_or _ _ _ _ (UInt8.toNat_lt _) (UInt8.toNat_lt _) (UInt8.toNat_lt _) (UInt8.toNat_lt _)]; exact congrArg Int.ofNat (getTo_bytes c 8 (by omega)).symm), below_drewN (Below.refl _ _) _⟩

/-! ### What super.Get tells -/
def GotSu (xs : List UInt8) (slot : Int) (v : Value) (er : Int) : Prop :=
  (∃ x, checkB x = true ∧ xs = bytesSu x ∧ slot = x.ep % 2 ∧ v = suV x ∧ er = 0) ∨
  ((∀ x, checkB x = true → xs = bytesSu x → slot ≠ x.ep % 2) ∧ (er = 41 ∨ er = 42 ∨ er = 70) ∧ v = suV ⟨0, 0, 0, 0⟩ ∧ (goodB xs → Crc.crc (xs.take 252) = getTo xs 252 4 → er = 70))
def SEnd (w : World) (g : Nat) (xs : List UInt8) (slot : Int) (e : Ending) (w' : World) : Prop :=
  ∃ v er, e = .returned (.tuple #[v, .int .i64 er]) ∧ GotSu xs slot v er ∧ (∃ m, SumAt w' g m) ∧ w.grownBy w' (some g)

theorem su_page {xs : List UInt8} {x : Su} (hc : checkB x = true) (hx : xs = bytesSu x) : pgOf xs = pgSu x ∧ goodB xs ∧ Crc.crc (xs.take 252) = getTo xs 252 4 := by
  subst hx
  obtain ⟨h1, h2, h3⟩ := bytes_back (ok_su hc)
  exact ⟨h3, h2, h1⟩
theorem cell_back (c : ByteArray) (h : c.size = 12) : strOf (cellTo (getTo c.data.toList 0 4) (getTo c.data.toList 4 4) (getTo c.data.toList 8 4) 3) = c := by
  obtain ⟨l, hl⟩ : ∃ l, l = c.data.toList := ⟨_, rfl⟩
  have hz : l.length = 12 := by rw [hl]; simpa using h
  rw [← hl]
  have e1 : l = l.take 4 ++ (l.drop 4).take 4 ++ (l.drop 4).drop 4 := by rw [List.append_assoc, List.take_append_drop, List.take_append_drop]
  have p1 : l.take 4 = four (getTo l 0 4) := by
    have e : getTo l 0 4 = getTo (l.take 4) 0 4 := by
      have := getTo_left (A := l.take 4) (B := l.drop 4) (o := 0) 4 (by rw [List.length_take]; omega)
      rw [List.take_append_drop] at this
      exact this
    exact (four_get _ (by rw [List.length_take]; omega) _ (by have := getTo_le l 0; omega)).2 e
  have p2 : (l.drop 4).take 4 = four (getTo l 4 4) := by
    have e0 : getTo l 4 4 = getTo (l.drop 4) 0 4 := by
      have := getTo_right (A := l.take 4) (B := l.drop 4) (n := 4) (o := 0) (by rw [List.length_take]; omega) 4
      rw [List.take_append_drop] at this
      exact this
    have e : getTo (l.drop 4) 0 4 = getTo ((l.drop 4).take 4) 0 4 := by
      have := getTo_left (A := (l.drop 4).take 4) (B := (l.drop 4).drop 4) (o := 0) 4 (by rw [List.length_take, List.length_drop]; omega)
      rw [List.take_append_drop] at this
      exact this
    exact (four_get _ (by rw [List.length_take, List.length_drop]; omega) _ (by have := getTo_le l 4; omega)).2 (e0.trans e)
  have p3 : (l.drop 4).drop 4 = four (getTo l 8 4) := by
    have e0 : getTo l 8 4 = getTo (l.drop 8) 0 4 := by
      have := getTo_right (A := l.take 8) (B := l.drop 8) (n := 8) (o := 0) (by rw [List.length_take]; omega) 4
      rw [List.take_append_drop] at this
      exact this
    have e9 : (l.drop 4).drop 4 = l.drop 8 := by rw [List.drop_drop]
    rw [e9]
    exact (four_get _ (by rw [List.length_drop]; omega) _ (by have := getTo_le l 8; omega)).2 e0
  show strOf (four (getTo l 0 4) ++ four (getTo l 4 4) ++ four (getTo l 8 4)) = c
  rw [← p1, ← p2, ← p3, ← e1, hl]
  exact str_id c
/-- What makes a page a super's. -/
theorem su_made {xs : List UInt8} {ep no : Nat} {c : ByteArray} {slot : Int} (hg : goodB xs) (hp : pgOf xs = ⟨9, no, ep, 0, [c]⟩) (hz : c.size = 12) (hs : (no : Int) = slot) (he : ((ep % 2 : Nat) : Int) = slot) :
    xs = bytesSu ⟨ep, getTo c.data.toList 0 4, getTo c.data.toList 4 4, getTo c.data.toList 8 4⟩ ∧ slot = (ep : Int) % 2 := by
  obtain ⟨_, h2⟩ := good_ok hg
  refine ⟨?_, by omega⟩
  have e : pgSu ⟨ep, getTo c.data.toList 0 4, getTo c.data.toList 4 4, getTo c.data.toList 8 4⟩ = ⟨9, no, ep, 0, [c]⟩ := by
    show (⟨9, (ep : Int) % 2, ep, 0, [strOf (cellTo (getTo c.data.toList 0 4) (getTo c.data.toList 4 4) (getTo c.data.toList 8 4) 3)]⟩ : Pg) = _
    rw [cell_back c hz, show (ep : Int) % 2 = (no : Int) by omega]
  unfold bytesSu
  rw [e, ← hp]
  exact h2.symm

theorem sget_results {W : World} {r : Nat} {a b c d er : Value} {tmps : Array Value} (h : Blk W r 41 #[a, b, c, d]) (h6 : tmps[6]? = some (.pointer (some ⟨r, 0, none⟩))) (h7 : tmps[7]? = some er) :
    (results Try.f46 tmps).run Try.prog W = .ok (.tuple #[.agg #[a, b, c, d], er]) W := by
  have k0 := h.cell 0
  have k1 := h.cell 1
  have k2 := h.cell 2
  have k3 := h.cell 3
  simp at k0 k1 k2 k3
  simp [results, Try.results46, go_sem, h6, h7, k0, k1, k2, k3]
theorem su_blk {W : World} {r : Nat} {x0 x1 x2 x3 : Value} (h : Blk W r 41 #[x0, x1, x2, x3]) (a b c d : Value) :
    Blk ((((W.setCell ⟨r, 0, none⟩ a).setCell ⟨r, 1, none⟩ b).setCell ⟨r, 2, none⟩ c).setCell ⟨r, 3, none⟩ d) r 41 #[a, b, c, d] :=
  (((h.set_ 0 a).set_ 1 b).set_ 2 c).set_ 3 d
theorem su_there {W : World} {r : Nat} {x0 x1 x2 x3 : Value} (h : Blk W r 41 #[x0, x1, x2, x3]) :
    (W.cell? ⟨r, 0, none⟩ = some x0 ∧ W.cell? ⟨r, 1, none⟩ = some x1 ∧ W.cell? ⟨r, 2, none⟩ = some x2 ∧ W.cell? ⟨r, 3, none⟩ = some x3) ∧
    (W.frozen? ⟨r, 0, none⟩ = false ∧ W.frozen? ⟨r, 1, none⟩ = false ∧ W.frozen? ⟨r, 2, none⟩ = false ∧ W.frozen? ⟨r, 3, none⟩ = false) :=
  ⟨⟨h.cell 0, h.cell 1, h.cell 2, h.cell 3⟩, h.frozen 0, h.frozen 1, h.frozen 2, h.frozen 3⟩
theorem SumAt.set_su {W : World} {g r : Nat} {m : Int} (h : SumAt W g m) (hr : g ≠ r) (a b c d : Value) :
    SumAt ((((W.setCell ⟨r, 0, none⟩ a).setCell ⟨r, 1, none⟩ b).setCell ⟨r, 2, none⟩ c).setCell ⟨r, 3, none⟩ d) g m := by
  obtain ⟨cs, hb, k⟩ := h
  exact ⟨cs, (((hb.far hr a).far hr b).far hr c).far hr d, k⟩
theorem send_of {w W : World} {g : Nat} {xs : List UInt8} {slot er : Int} {v : Value} (hsm : ∃ m, SumAt W g m) (hgr : w.grownBy W (some g)) (hgl : g < w.heap.size) (hg : GotSu xs slot v er) (a b c d : Value) :
    SEnd w g xs slot (.returned (.tuple #[v, .int .i64 er])) ((((W.setCell ⟨w.heap.size, 0, none⟩ a).setCell ⟨w.heap.size, 1, none⟩ b).setCell ⟨w.heap.size, 2, none⟩ c).setCell ⟨w.heap.size, 3, none⟩ d) := by
  obtain ⟨m, hm⟩ := hsm
  exact ⟨v, er, rfl, hg, ⟨m, hm.set_su (by omega) _ _ _ _⟩, grown_setCell (grown_setCell (grown_setCell (grown_setCell hgr (.inr (Nat.le_refl _)) a) (.inr (Nat.le_refl _)) b) (.inr (Nat.le_refl _)) c) (.inr (Nat.le_refl _)) d⟩
end Go.Proofs.Ytljfomgcoodjkaa
