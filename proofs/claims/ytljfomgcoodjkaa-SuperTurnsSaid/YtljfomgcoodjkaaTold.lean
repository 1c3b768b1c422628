/- What 256 bytes tell of a page, in lists alone: a page's own bytes tell that page. -/
import Derived.Test.YtljfomgcoodjkaaPut
namespace Go.Proofs.Ytljfomgcoodjkaa
open Go.RowKit

/-- A byte as a number; the cell that is told at a place; the first cells; the page that bytes tell. -/
def numAt (xs : List UInt8) (i : Nat) : Nat := (xs.getD i 0).toNat
def cellAt (xs : List UInt8) (i : Nat) : ByteArray := strOf ((xs.drop (numAt xs (14 + 2 * i))).take (numAt xs (15 + 2 * i)))
def cellsTo (xs : List UInt8) (k : Nat) : List ByteArray := (List.range k).map (cellAt xs)
def pgOf (xs : List UInt8) : Pg := ⟨numAt xs 0, getTo xs 2 4, getTo xs 6 4, getTo xs 10 4, cellsTo xs (numAt xs 1)⟩
/-- Are these a page's bytes (the sum aside)? -/
def goodB (xs : List UInt8) : Prop :=
  14 + 2 * numAt xs 1 ≤ 252 ∧ (∀ i, i < numAt xs 1 → numAt xs (14 + 2 * i) + numAt xs (15 + 2 * i) ≤ 252) ∧ fitsB (cellsTo xs (numAt xs 1)) = true ∧ formB (pgOf xs) = true ∧
    pageOf (numAt xs 0) (getTo xs 2 4) (getTo xs 6 4) (getTo xs 10 4) (cellsTo xs (numAt xs 1)) = xs

theorem numAt_le (xs : List UInt8) (i : Nat) : numAt xs i ≤ 255 := by
  have := (xs.getD i 0).toNat_lt
  unfold numAt; omega
theorem cellsTo_length (xs : List UInt8) (k : Nat) : (cellsTo xs k).length = k := by simp [cellsTo]
theorem cellsTo_succ (xs : List UInt8) (k : Nat) : cellsTo xs (k + 1) = cellsTo xs k ++ [cellAt xs k] := by simp [cellsTo, List.range_succ]
theorem getTo_le (xs : List UInt8) (o : Nat) : getTo xs o 4 ≤ 4294967295 := by
  have := getTo_lt xs o 4
  omega

theorem getD_left {A B : List UInt8} {i : Nat} (h : i < A.length) : (A ++ B).getD i 0 = A.getD i 0 := by
  rw [List.getD_eq_getElem?_getD, List.getD_eq_getElem?_getD, List.getElem?_append_left h]
theorem getD_right {A B : List UInt8} {n i : Nat} (h : A.length = n) : (A ++ B).getD (n + i) 0 = B.getD i 0 := by
  rw [List.getD_eq_getElem?_getD, List.getD_eq_getElem?_getD, List.getElem?_append_right (by omega), h, Nat.add_sub_cancel_left]
theorem getTo_right {A B : List UInt8} {n o : Nat} (h : A.length = n) : ∀ k, getTo (A ++ B) (n + o) k = getTo B o k
  | 0 => rfl
  | k + 1 => by rw [getTo, getTo, getTo_right h k, Nat.add_assoc, getD_right h]
theorem getTo_left {A B : List UInt8} {o : Nat} : ∀ k, o + k ≤ A.length → getTo (A ++ B) o k = getTo A o k
  | 0, _ => rfl
  | k + 1, h => by rw [getTo, getTo, getTo_left k (by omega), getD_left (by omega)]
theorem four_back (n : Nat) (h : n ≤ 4294967295) : getTo (four n) 0 4 = n := by
  simp [getTo, four]
  omega

theorem tl_append (a b : List (List UInt8)) : tl (a ++ b) = tl b ++ tl a := by
  unfold tl; rw [List.reverse_append, List.flatten_append]
theorem tb_at (L : List (List UInt8)) (k : Nat) : ∀ n, k < n → (tb L n).getD (2 * k) 0 = UInt8.ofNat (252 - (tl (L.take (k + 1))).length) ∧ (tb L n).getD (2 * k + 1) 0 = UInt8.ofNat (L.getD k []).length
  | 0, h => by omega
  | n + 1, h => by
    by_cases e : k = n
    · subst e
      rw [tb]
      have e2 := tb_length L k
      have e3 : (tb L k ++ [UInt8.ofNat (252 - (tl (L.take (k + 1))).length), UInt8.ofNat (L.getD k []).length]).getD (2 * k + 0) 0 = UInt8.ofNat (252 - (tl (L.take (k + 1))).length) := by rw [getD_right e2]; rfl
      refine ⟨e3, ?_⟩
      rw [getD_right e2]; rfl
    · have ih := tb_at L k n (by omega)
      rw [tb, getD_left (by rw [tb_length]; omega), getD_left (by rw [tb_length]; omega)]
      exact ih

theorem body_whole (h : List UInt8) (L : List (List UInt8)) : bodyTo h L L.length = h ++ (tb L L.length ++ (List.replicate (238 - 2 * L.length - (tl L).length) 0 ++ tl L)) := by
  unfold bodyTo; rw [List.take_length]

theorem page_sum (kd no ep lk : Nat) (cs : List ByteArray) (hr : room cs ≤ 236) :
    (pageOf kd no ep lk cs).take 252 = bodyOf kd no ep lk cs ∧ getTo (pageOf kd no ep lk cs) 252 4 = Crc.crc (bodyOf kd no ep lk cs) := by
  have hl := body_len kd no ep lk cs hr
  unfold pageOf
  refine ⟨by rw [← hl]; exact List.take_left, ?_⟩
  have := getTo_right (A := bodyOf kd no ep lk cs) (B := four (Crc.crc (bodyOf kd no ep lk cs))) (o := 0) hl 4
  rw [Nat.add_zero] at this
  rw [this]
  exact four_back _ (by have := Crc.crc_lt (bodyOf kd no ep lk cs); omega)

theorem page_split (kd no ep lk : Nat) (cs : List ByteArray) : ∃ T, pageOf kd no ep lk cs = [UInt8.ofNat kd, UInt8.ofNat cs.length] ++ (four no ++ (four ep ++ (four lk ++ (tb (bytesOf cs) cs.length ++ T)))) := by
  have e := body_whole (hdr kd no ep lk cs.length) (bytesOf cs)
  rw [bytesOf_length] at e
  refine ⟨(List.replicate (238 - 2 * cs.length - (tl (bytesOf cs)).length) 0 ++ tl (bytesOf cs)) ++ four (Crc.crc (bodyOf kd no ep lk cs)), ?_⟩
  unfold pageOf
  rw [show bodyOf kd no ep lk cs = _ from e]
  unfold hdr
  simp only [List.append_assoc]

theorem page_head (kd no ep lk : Nat) (cs : List ByteArray) (h1 : kd ≤ 255) (h2 : cs.length ≤ 255) (h3 : no ≤ 4294967295) (h4 : ep ≤ 4294967295) (h5 : lk ≤ 4294967295) :
    numAt (pageOf kd no ep lk cs) 0 = kd ∧ numAt (pageOf kd no ep lk cs) 1 = cs.length ∧ getTo (pageOf kd no ep lk cs) 2 4 = no ∧ getTo (pageOf kd no ep lk cs) 6 4 = ep ∧ getTo (pageOf kd no ep lk cs) 10 4 = lk := by
  obtain ⟨T, hT⟩ := page_split kd no ep lk cs
  rw [hT]
  refine ⟨?_, ?_, ?_, ?_, ?_⟩
  · show (UInt8.ofNat kd).toNat = kd
    rw [UInt8.toNat_ofNat']; omega
  · show (UInt8.ofNat cs.length).toNat = cs.length
    rw [UInt8.toNat_ofNat']; omega
  · have e := getTo_right (A := [UInt8.ofNat kd, UInt8.ofNat cs.length]) (B := four no ++ (four ep ++ (four lk ++ (tb (bytesOf cs) cs.length ++ T)))) (o := 0) rfl 4
    rw [show [UInt8.ofNat kd, UInt8.ofNat cs.length].length + 0 = 2 from rfl] at e
    rw [e, getTo_left 4 (by rw [four_length]; omega), four_back _ h3]
  · have e := getTo_right (A := [UInt8.ofNat kd, UInt8.ofNat cs.length] ++ four no) (B := four ep ++ (four lk ++ (tb (bytesOf cs) cs.length ++ T))) (n := 6) (o := 0) rfl 4
    rw [List.append_assoc] at e
    rw [show 6 + 0 = 6 from rfl] at e
    rw [e, getTo_left 4 (by rw [four_length]; omega), four_back _ h4]
  · have e := getTo_right (A := [UInt8.ofNat kd, UInt8.ofNat cs.length] ++ (four no ++ four ep)) (B := four lk ++ (tb (bytesOf cs) cs.length ++ T)) (n := 10) (o := 0) rfl 4
    rw [List.append_assoc, List.append_assoc] at e
    rw [show 10 + 0 = 10 from rfl] at e
    rw [e, getTo_left 4 (by rw [four_length]; omega), four_back _ h5]

theorem page_places (kd no ep lk : Nat) (cs : List ByteArray) (hr : room cs ≤ 236) (hs : ∀ s ∈ cs, s.size ≤ 235) (k : Nat) (hk : k < cs.length) :
    numAt (pageOf kd no ep lk cs) (14 + 2 * k) = endAt cs (k + 1) ∧ numAt (pageOf kd no ep lk cs) (15 + 2 * k) = cs[k].size := by
  obtain ⟨T, hT⟩ := page_split kd no ep lk cs
  obtain ⟨e1, e2, e3⟩ := end_step cs k hk hr
  obtain ⟨t1, t2⟩ := tb_at (bytesOf cs) k cs.length hk
  have hlen := tb_length (bytesOf cs) cs.length
  have hT' : pageOf kd no ep lk cs = ([UInt8.ofNat kd, UInt8.ofNat cs.length] ++ (four no ++ (four ep ++ four lk))) ++ (tb (bytesOf cs) cs.length ++ T) := by
    rw [hT]; simp only [List.append_assoc]
  rw [hT']
  unfold numAt
  rw [getD_right (n := 14) rfl, show 15 + 2 * k = 14 + (2 * k + 1) by omega, getD_right (n := 14) rfl, getD_left (by omega), getD_left (by omega), t1, t2]
  have hz := hs _ (List.getElem_mem hk)
  have e4 : ((bytesOf cs).getD k []).length = cs[k].size := by
    rw [List.getD_eq_getElem?_getD, List.getElem?_eq_getElem (by rw [bytesOf_length]; exact hk), Option.getD_some, bytes_at cs k hk]; simp
  rw [e4, UInt8.toNat_ofNat', UInt8.toNat_ofNat']
  refine ⟨?_, by omega⟩
  show endAt cs (k + 1) % 2 ^ 8 = endAt cs (k + 1)
  have : endAt cs (k + 1) ≤ 252 := by unfold endAt; omega
  omega

theorem page_cell (kd no ep lk : Nat) (cs : List ByteArray) (hr : room cs ≤ 236) (hs : ∀ s ∈ cs, s.size ≤ 235) (k : Nat) (hk : k < cs.length) : cellAt (pageOf kd no ep lk cs) k = cs[k] := by
  obtain ⟨p1, p2⟩ := page_places kd no ep lk cs hr hs k hk
  unfold cellAt
  rw [p1, p2]
  have hkL : k < (bytesOf cs).length := by rw [bytesOf_length]; exact hk
  have hl := body_len kd no ep lk cs hr
  have e := body_whole (hdr kd no ep lk cs.length) (bytesOf cs)
  rw [bytesOf_length] at e
  have e1 : tl (bytesOf cs) = tl ((bytesOf cs).drop (k + 1)) ++ tl ((bytesOf cs).take (k + 1)) := by
    rw [← tl_append, List.take_append_drop]
  have e2 := tl_take (bytesOf cs) k hkL
  rw [bytes_at cs k hk] at e2
  obtain ⟨A, hA⟩ : ∃ A, bodyOf kd no ep lk cs = A ++ tl ((bytesOf cs).take (k + 1)) := by
    refine ⟨hdr kd no ep lk cs.length ++ (tb (bytesOf cs) cs.length ++ (List.replicate (238 - 2 * cs.length - (tl (bytesOf cs)).length) 0 ++ tl ((bytesOf cs).drop (k + 1)))), ?_⟩
    show bodyTo _ _ _ = _
    rw [e]
    simp only [List.append_assoc]
    rw [← e1]
  rw [hA, List.length_append] at hl
  have hAl : A.length = endAt cs (k + 1) := by unfold endAt; omega
  have hp : pageOf kd no ep lk cs = A ++ (cs[k].data.toList ++ (tl ((bytesOf cs).take k) ++ four (Crc.crc (bodyOf kd no ep lk cs)))) := by
    unfold pageOf
    rw [hA, e2]
    simp only [List.append_assoc]
  rw [hp, ← hAl, List.drop_left]
  have e5 : cs[k].size = cs[k].data.toList.length := by simp
  rw [e5, List.take_left]
  cases hck : cs[k]
  simp [strOf]

/-- A page's bytes tell the page. -/
theorem told_back (kd no ep lk : Nat) (cs : List ByteArray) (hf : fitsB cs = true) (h0 : 1 ≤ kd) (h1 : kd ≤ 255) (h3 : no ≤ 4294967295) (h4 : ep ≤ 4294967295) (h5 : lk ≤ 4294967295) :
    goodB (pageOf kd no ep lk cs) ∧ pgOf (pageOf kd no ep lk cs) = ⟨kd, no, ep, lk, cs⟩ := by
  obtain ⟨hr, hs⟩ := (fits_iff cs).1 hf
  have hcl : cs.length ≤ 118 := by unfold room at hr; omega
  obtain ⟨n0, n1, n2, n3, n4⟩ := page_head kd no ep lk cs h1 (by omega) h3 h4 h5
  have hc : cellsTo (pageOf kd no ep lk cs) cs.length = cs := by
    refine List.ext_getElem (by rw [cellsTo_length]) fun i hi hi2 => ?_
    have e : (cellsTo (pageOf kd no ep lk cs) cs.length)[i] = cellAt (pageOf kd no ep lk cs) i := by simp [cellsTo]
    rw [e]
    exact page_cell kd no ep lk cs hr hs i hi2
  have hp : pgOf (pageOf kd no ep lk cs) = ⟨kd, no, ep, lk, cs⟩ := by
    unfold pgOf
    rw [n0, n1, n2, n3, n4, hc]
  refine ⟨⟨by rw [n1]; omega, ?_, by rw [n1, hc]; exact hf, by rw [hp, form_iff]; show ((1 : Int) ≤ kd ∧ (kd : Int) ≤ 255) ∧ ((0 : Int) ≤ no ∧ (no : Int) ≤ 4294967295) ∧ ((0 : Int) ≤ ep ∧ (ep : Int) ≤ 4294967295) ∧ ((0 : Int) ≤ lk ∧ (lk : Int) ≤ 4294967295); omega, by rw [n0, n1, n2, n3, n4, hc]⟩, hp⟩
  intro i hi
  rw [n1] at hi
  obtain ⟨p1, p2⟩ := page_places kd no ep lk cs hr hs i hi
  obtain ⟨e1, e2, e3⟩ := end_step cs i hi hr
  rw [p1, p2]
  omega
end Go.Proofs.Ytljfomgcoodjkaa
