/- page.Get in one contract, and the chapter's awake. -/
import Derived.Test.YtljfomgcoodjkaaGet
import Derived.Test.YtljfomgcoodjkaaRef4
namespace Go.Proofs.Ytljfomgcoodjkaa
open Go.RowKit

/-- What page.Get tells of 256 bytes. -/
def GotPage (w' : World) (g : Nat) (xs : List UInt8) (pv : Value) (er : Int) : Prop :=
  (er = 0 ∧ Crc.crc (xs.take 252) = getTo xs 252 4 ∧ goodB xs ∧ PV w' g pv (pgOf xs)) ∨ (er = 42 ∧ Crc.crc (xs.take 252) ≠ getTo xs 252 4 ∧ pv = zpg) ∨
    (er = 41 ∧ Crc.crc (xs.take 252) = getTo xs 252 4 ∧ ¬ goodB xs ∧ pv = zpg)
theorem get_page (g bb c : Nat) (m : Int) (xs : List UInt8) (w : World) (hs : SumAt w g m) (hr : Row w bb 0 xs) (hx : xs.length = 256) (hb : bb ≠ g) (hc : 256 ≤ c) :
    Calls Try.prog 42 #[.pointer (some ⟨g, 0, none⟩), .slice (some ⟨bb, 0, none⟩) 256 c] w fun e w' => ∃ pv er, e = .returned (.tuple #[pv, .int .i64 er]) ∧ GotPage w' g xs pv er ∧ (∃ m, SumAt w' g m) ∧ w.grownBy w' (some g) := by
  by_cases h : Crc.crc (xs.take 252) = getTo xs 252 4
  · refine (get_right g bb c m xs w hs hr hx hb hc h).mono ?_
    rintro e w' ⟨pv, er, rfl, h2, h3, h4⟩
    refine ⟨pv, er, rfl, ?_, h3, h4⟩
    rcases h2 with ⟨a, b, d⟩ | ⟨a, b, d⟩
    · exact .inl ⟨b, h, a, d⟩
    · exact .inr (.inr ⟨b, h, a, d⟩)
  · refine (get_sum g bb c m xs w hs hr hx hb hc h).mono ?_
    rintro e w' ⟨rfl, h3, h4⟩
    exact ⟨_, _, rfl, .inr (.inl ⟨rfl, h, rfl⟩), h3, h4⟩
theorem zpg_pv (w : World) (g : Nat) : PV w g zpg ⟨0, 0, 0, 0, []⟩ := ⟨_, rfl, none, 0, rfl, Nat.le_refl _, by unfold maxLen; omega, fun s hs => by simp at hs, .inl rfl⟩

theorem PV.form {w : World} {g : Nat} {v : Value} {kd no ep lk : Int} {cs : List ByteArray} (h : PV w g v ⟨kd, no, ep, lk, cs⟩) :
    ∃ A c, v = .agg #[.int .i64 kd, .int .i64 no, .int .i64 ep, .int .i64 lk, .slice A cs.length c] ∧ RS w g (.slice A cs.length c) cs := by
  obtain ⟨cv, rfl, hr⟩ := h
  obtain ⟨A, c, rfl, _⟩ := hr.len
  exact ⟨A, c, rfl, hr⟩

/-- A page's own bytes are got as the page. -/
theorem get_own (g bb c : Nat) (m : Int) (kd no ep lk : Nat) (cs : List ByteArray) (w : World) (hs : SumAt w g m) (hr : Row w bb 0 (pageOf kd no ep lk cs)) (hb : bb ≠ g) (hc : 256 ≤ c)
    (hf : fitsB cs = true) (h0 : 1 ≤ kd) (h1 : kd ≤ 255) (h3 : no ≤ 4294967295) (h4 : ep ≤ 4294967295) (h5 : lk ≤ 4294967295) :
    Calls Try.prog 42 #[.pointer (some ⟨g, 0, none⟩), .slice (some ⟨bb, 0, none⟩) 256 c] w fun e w' => ∃ pv, e = .returned (.tuple #[pv, .int .i64 0]) ∧ PV w' g pv ⟨kd, no, ep, lk, cs⟩ ∧ (∃ m, SumAt w' g m) ∧ w.grownBy w' (some g) := by
  obtain ⟨hrm, _⟩ := (fits_iff cs).1 hf
  obtain ⟨e1, e2⟩ := page_sum kd no ep lk cs hrm
  obtain ⟨b1, b2⟩ := told_back kd no ep lk cs hf h0 h1 h3 h4 h5
  refine (get_page g bb c m _ w hs hr (page_len _ _ _ _ _ hrm) hb hc).mono ?_
  rintro e w' ⟨pv, er, rfl, h2, h3, h4⟩
  rcases h2 with ⟨rfl, _, _, d⟩ | ⟨_, h, _⟩ | ⟨_, _, h, _⟩
  · rw [b2] at d
    exact ⟨pv, rfl, d, h3, h4⟩
  · exact (h (by rw [e1, e2])).elim
  · exact (h b1).elim

def cs4 : List ByteArray := [⟨#[97, 98]⟩, ⟨#[]⟩]
theorem cs4_fits : fitsB cs4 = true := by decide
theorem cs4_room : room cs4 = 6 := by decide
theorem cs4_head : strOf ((pageOf 1 2 3 0 cs4).take 18) = ⟨#[1, 2, 0, 0, 0, 2, 0, 0, 0, 3, 0, 0, 0, 0, 250, 2, 250, 0]⟩ := by
  have h : (pageOf 1 2 3 0 cs4).take 18 = [1, 2, 0, 0, 0, 2, 0, 0, 0, 3, 0, 0, 0, 0, 250, 2, 250, 0] := by
    unfold pageOf
    rw [List.take_append_of_le_length (by rw [body_len _ _ _ _ _ (by decide)]; omega)]
    decide +kernel
  rw [h]; rfl
theorem cs4_tail : strOf (((pageOf 1 2 3 0 cs4).drop 249).take 3) = ⟨#[0, 97, 98]⟩ := by
  have h : ((pageOf 1 2 3 0 cs4).drop 249).take 3 = [0, 97, 98] := by
    unfold pageOf
    rw [List.drop_append_of_le_length (by rw [body_len _ _ _ _ _ (by decide)]; omega), List.take_append_of_le_length (by rw [List.length_drop, body_len _ _ _ _ _ (by decide)]; omega)]
    decide +kernel
  rw [h]; rfl
end Go.Proofs.Ytljfomgcoodjkaa
