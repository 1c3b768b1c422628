/- A page's bytes, cell by cell, over lists alone. -/
import Derived.Test.YtljfomgcoodjkaaBuf
namespace Go.Proofs.Ytljfomgcoodjkaa
open Go.RowKit

/-- The cells' text: the last one first. -/
def tl (L : List (List UInt8)) : List UInt8 := L.reverse.flatten
/-- Where each cell begins, and how long it is: of the first k. -/
def tb (L : List (List UInt8)) : Nat → List UInt8
  | 0 => []
  | k + 1 => tb L k ++ [UInt8.ofNat (252 - (tl (L.take (k + 1))).length), UInt8.ofNat (L.getD k []).length]
/-- The head of a page. -/
def hdr (kd no ep lk n : Nat) : List UInt8 := [UInt8.ofNat kd, UInt8.ofNat n] ++ four no ++ four ep ++ four lk
/-- A page ahead of its sum, with the first k cells. -/
def bodyTo (h : List UInt8) (L : List (List UInt8)) (k : Nat) : List UInt8 := h ++ (tb L k ++ (List.replicate (238 - 2 * k - (tl (L.take k)).length) 0 ++ tl (L.take k)))

theorem hdr_length (kd no ep lk n : Nat) : (hdr kd no ep lk n).length = 14 := rfl
theorem tb_length (L : List (List UInt8)) : ∀ k, (tb L k).length = 2 * k
  | 0 => rfl
  | k + 1 => by rw [tb, List.length_append, tb_length L k]; simp; omega
theorem tl_snoc (L : List (List UInt8)) (c : List UInt8) : tl (L ++ [c]) = c ++ tl L := by
  unfold tl; rw [List.reverse_append]; rfl
theorem tl_take (L : List (List UInt8)) (k : Nat) (h : k < L.length) : tl (L.take (k + 1)) = L[k] ++ tl (L.take k) := by
  rw [take_snoc L k h, tl_snoc]
theorem tl_length : ∀ (L : List (List UInt8)), (tl L).length = (L.map List.length).sum
  | [] => rfl
  | c :: L => by
    have := tl_length L
    unfold tl at this ⊢
    rw [List.reverse_cons, List.flatten_append, List.length_append, this]
    simp
    omega
theorem sum_take_le (l : List Nat) (k : Nat) : (l.take k).sum ≤ l.sum := by
  have : l.sum = (l.take k).sum + (l.drop k).sum := by rw [← List.sum_append, List.take_append_drop]
  omega
theorem tl_take_le (L : List (List UInt8)) (k : Nat) : (tl (L.take k)).length ≤ (tl L).length := by
  rw [tl_length, tl_length, List.map_take]; exact sum_take_le _ _
/-- What a page's room is. -/
def roomL (L : List (List UInt8)) : Nat := 2 * L.length + (tl L).length

theorem body_length (h : List UInt8) (L : List (List UInt8)) (k : Nat) (hh : h.length = 14) (hk : k ≤ L.length) (hr : roomL L ≤ 236) : (bodyTo h L k).length = 252 := by
  have := tl_take_le L k
  unfold roomL at hr
  unfold bodyTo
  simp only [List.length_append, hh, tb_length, List.length_replicate]
  omega

theorem rep_split (n m : Nat) : List.replicate (n + m) (0 : UInt8) = List.replicate n 0 ++ List.replicate m 0 := List.replicate_append_replicate.symm

/-- One cell more: its two bytes are set, its text is laid ahead of the others. -/
theorem body_step (h : List UInt8) (L : List (List UInt8)) (k : Nat) (T : List UInt8) (hh : h.length = 14) (hk : k < L.length) (hr : roomL L ≤ 236) :
    (((bodyTo h L k ++ T).set (14 + 2 * k) (UInt8.ofNat (252 - (tl (L.take (k + 1))).length))).set (14 + 2 * k + 1) (UInt8.ofNat L[k].length)).take (252 - (tl (L.take (k + 1))).length) ++
      (L[k] ++ (((bodyTo h L k ++ T).set (14 + 2 * k) (UInt8.ofNat (252 - (tl (L.take (k + 1))).length))).set (14 + 2 * k + 1) (UInt8.ofNat L[k].length)).drop (252 - (tl (L.take (k + 1))).length + L[k].length)) = bodyTo h L (k + 1) ++ T := by
  have e1 := tl_take_le L (k + 1)
  have e2 := tl_take L k hk
  have e3 := congrArg List.length e2
  rw [List.length_append] at e3
  unfold roomL at hr
  obtain ⟨c, hc⟩ : ∃ c, c = L[k] := ⟨_, rfl⟩
  obtain ⟨t, ht⟩ : ∃ t, t = tl (L.take k) := ⟨_, rfl⟩
  have hgd : L.getD k [] = c := by rw [List.getD_eq_getElem?_getD, List.getElem?_eq_getElem hk, hc]; rfl
  have hb0 : bodyTo h L k = (h ++ tb L k) ++ (List.replicate (238 - 2 * k - t.length) 0 ++ t) := by unfold bodyTo; rw [← ht, List.append_assoc]
  have hb1 : bodyTo h L (k + 1) = (h ++ tb L k) ++ ([UInt8.ofNat (252 - (c.length + t.length)), UInt8.ofNat c.length] ++ (List.replicate (238 - 2 * (k + 1) - (c.length + t.length)) 0 ++ (c ++ t))) := by
    unfold bodyTo
    rw [tb, hgd, e2, ← hc, ← ht, List.length_append]
    simp only [List.append_assoc]
  rw [hb0, hb1, e3, ← hc, ← ht]
  rw [← hc, ← ht] at e3
  obtain ⟨A, hA⟩ : ∃ A, A = h ++ tb L k := ⟨_, rfl⟩
  have hAl : A.length = 14 + 2 * k := by rw [hA, List.length_append, hh, tb_length]
  rw [← hA]
  obtain ⟨m, hm⟩ : ∃ m, 238 - 2 * k - t.length = m + 2 + c.length := ⟨238 - 2 * k - t.length - 2 - c.length, by omega⟩
  rw [hm, show 238 - 2 * (k + 1) - (c.length + t.length) = m by omega, show m + 2 + c.length = 2 + (m + c.length) by omega, rep_split 2, rep_split m]
  have s1 : ∀ (X : List UInt8) (u v : UInt8), ((A ++ (List.replicate 2 0 ++ X)).set (14 + 2 * k) u).set (14 + 2 * k + 1) v = A ++ ([u, v] ++ X) := fun X u v => by
    rw [List.set_append_right _ _ (by omega), List.set_append_right _ _ (by omega), hAl, Nat.sub_self, show 14 + 2 * k + 1 - (14 + 2 * k) = 1 by omega]
    rfl
  simp only [List.append_assoc]
  rw [s1]
  have s2 : 252 - (c.length + t.length) = A.length + (2 + m) := by omega
  rw [s2, Nat.add_assoc, List.take_length_add_append, List.drop_length_add_append]
  have l2 : ∀ (u v : UInt8), [u, v].length = 2 := fun _ _ => rfl
  have s3 : ∀ (u v : UInt8) (X : List UInt8), ([u, v] ++ (List.replicate m 0 ++ X)).take (2 + m) = [u, v] ++ List.replicate m 0 := fun u v X => by
    rw [← List.append_assoc, List.take_append_of_le_length (by simp; omega), List.take_of_length_le (by simp; omega)]
  have s4 : ∀ (u v : UInt8) (X : List UInt8), ([u, v] ++ (List.replicate m 0 ++ (List.replicate c.length 0 ++ X))).drop (2 + m + c.length) = X := fun u v X => by
    rw [← List.append_assoc, ← List.append_assoc, List.drop_append_of_le_length (by simp; omega), List.drop_eq_nil_of_le (by simp; omega), List.nil_append]
  rw [s3, s4]
  simp only [List.append_assoc]

/-- The empty page with its head. -/
theorem body_zero (h : List UInt8) (L : List (List UInt8)) : bodyTo h L 0 = h ++ List.replicate 238 0 := by
  simp [bodyTo, tb, tl]

theorem put_rep (A : List UInt8) (m n : Nat) : putTo (A ++ List.replicate (4 + m) 0) A.length n 4 = A ++ (four n ++ List.replicate m 0) := by
  have e : ∀ (X : List UInt8) (j : Nat) (u : UInt8), (A ++ X).set (A.length + j) u = A ++ X.set j u := fun X j u => by
    rw [List.set_append_right _ _ (by omega), Nat.add_sub_cancel_left]
  have z : List.replicate (4 + m) (0 : UInt8) = 0 :: 0 :: 0 :: 0 :: List.replicate m 0 := by
    rw [Nat.add_comm]; rfl
  simp only [putTo, e, z, four]
  simp
theorem set_two (n : Nat) (u v : UInt8) : ((List.replicate (2 + n) (0 : UInt8)).set 0 u).set 1 v = [u, v] ++ List.replicate n 0 := by
  rw [Nat.add_comm]; rfl
/-- The head, field by field. -/
def fx (kd n no ep lk : Nat) : Nat → List UInt8
  | 0 => [UInt8.ofNat kd, UInt8.ofNat n] ++ List.replicate 254 0
  | 1 => ([UInt8.ofNat kd, UInt8.ofNat n] ++ four no) ++ List.replicate 250 0
  | 2 => ([UInt8.ofNat kd, UInt8.ofNat n] ++ four no ++ four ep) ++ List.replicate 246 0
  | _ => ([UInt8.ofNat kd, UInt8.ofNat n] ++ four no ++ four ep ++ four lk) ++ List.replicate 242 0
theorem fx_0 (kd n no ep lk : Nat) : ((List.replicate 256 (0 : UInt8)).set 0 (UInt8.ofNat kd)).set 1 (UInt8.ofNat n) = fx kd n no ep lk 0 := set_two 254 _ _
theorem fx_1 (kd n no ep lk : Nat) : putTo (fx kd n no ep lk 0) 2 no 4 = fx kd n no ep lk 1 := by
  have := put_rep [UInt8.ofNat kd, UInt8.ofNat n] 250 no
  rw [← List.append_assoc] at this
  exact this
theorem fx_2 (kd n no ep lk : Nat) : putTo (fx kd n no ep lk 1) 6 ep 4 = fx kd n no ep lk 2 := by
  have := put_rep ([UInt8.ofNat kd, UInt8.ofNat n] ++ four no) 246 ep
  rw [← List.append_assoc] at this
  exact this
theorem fx_3 (kd n no ep lk : Nat) : putTo (fx kd n no ep lk 2) 10 lk 4 = fx kd n no ep lk 3 := by
  have := put_rep ([UInt8.ofNat kd, UInt8.ofNat n] ++ four no ++ four ep) 242 lk
  rw [← List.append_assoc] at this
  exact this
theorem fx_body (kd n no ep lk : Nat) (L : List (List UInt8)) : fx kd n no ep lk 3 = bodyTo (hdr kd no ep lk n) L 0 ++ List.replicate 4 0 := by
  rw [body_zero, List.append_assoc, List.replicate_append_replicate]
  rfl
theorem fx_length (kd n no ep lk : Nat) : ∀ k, k ≤ 3 → (fx kd n no ep lk k).length = 256
  | 0, _ => by rw [fx, List.length_append, List.length_replicate]; rfl
  | 1, _ => by rw [fx, List.length_append, List.length_replicate]; rfl
  | 2, _ => by rw [fx, List.length_append, List.length_replicate]; rfl
  | 3, _ => by show (([UInt8.ofNat kd, UInt8.ofNat n] ++ four no ++ four ep ++ four lk) ++ List.replicate 242 0).length = 256; rw [List.length_append, List.length_replicate]; rfl
end Go.Proofs.Ytljfomgcoodjkaa
