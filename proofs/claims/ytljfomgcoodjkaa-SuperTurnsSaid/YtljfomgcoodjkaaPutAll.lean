/- page.Put of any page that is not too great, in one contract. -/
import Derived.Test.YtljfomgcoodjkaaPPuts
namespace Go.Proofs.Ytljfomgcoodjkaa
open Go.RowKit

/-- May a page be; its bytes if it may. -/
def OkPg (p : Pg) : Prop := fitsB p.cells = true ∧ formB p = true
def bytesPg (p : Pg) : List UInt8 := pageOf p.kd.toNat p.no.toNat p.ep.toNat p.lk.toNat p.cells

theorem OkPg.nat {p : Pg} (h : OkPg p) : ∃ kd no ep lk : Nat, p = ⟨kd, no, ep, lk, p.cells⟩ ∧ bytesPg p = pageOf kd no ep lk p.cells ∧ 1 ≤ kd ∧ kd ≤ 255 ∧ no ≤ 4294967295 ∧ ep ≤ 4294967295 ∧ lk ≤ 4294967295 := by
  obtain ⟨_, hm⟩ := h
  obtain ⟨kd, no, ep, lk, cs⟩ := p
  obtain ⟨⟨f1, f2⟩, ⟨f3, f4⟩, ⟨f5, f6⟩, f7, f8⟩ := (form_iff _).1 hm
  dsimp only at f1 f2 f3 f4 f5 f6 f7 f8
  obtain ⟨kd, rfl⟩ := Int.eq_ofNat_of_zero_le (show (0 : Int) ≤ kd by omega)
  obtain ⟨no, rfl⟩ := Int.eq_ofNat_of_zero_le f3
  obtain ⟨ep, rfl⟩ := Int.eq_ofNat_of_zero_le f5
  obtain ⟨lk, rfl⟩ := Int.eq_ofNat_of_zero_le f7
  exact ⟨kd, no, ep, lk, rfl, rfl, by omega, by omega, by omega, by omega, by omega⟩
theorem bytes_len {p : Pg} (h : OkPg p) : (bytesPg p).length = 256 := page_len _ _ _ _ _ ((fits_iff _).1 h.1).1
theorem bytes_back {p : Pg} (h : OkPg p) : Crc.crc ((bytesPg p).take 252) = getTo (bytesPg p) 252 4 ∧ goodB (bytesPg p) ∧ pgOf (bytesPg p) = p := by
  obtain ⟨kd, no, ep, lk, hp, hb, h1, h2, h3, h4, h5⟩ := h.nat
  have hf := h.1
  obtain ⟨e1, e2⟩ := page_sum kd no ep lk p.cells ((fits_iff _).1 hf).1
  obtain ⟨b1, b2⟩ := told_back kd no ep lk p.cells hf h1 h2 h3 h4 h5
  rw [hb]
  exact ⟨by rw [e1, e2], b1, by rw [b2]; exact hp.symm⟩
theorem good_ok {xs : List UInt8} (h : goodB xs) : OkPg (pgOf xs) ∧ bytesPg (pgOf xs) = xs := by
  obtain ⟨h1, h2, h3, h4, h5⟩ := h
  exact ⟨⟨h3, h4⟩, h5⟩
theorem bytes_inj {p q : Pg} (hp : OkPg p) (hq : OkPg q) : bytesPg p = bytesPg q ↔ p = q := by
  constructor
  · intro h
    rw [← (bytes_back hp).2.2, h]
    exact (bytes_back hq).2.2
  · rintro rfl; rfl
theorem bytesOf_inj : ∀ {a b : List ByteArray}, bytesOf a = bytesOf b → a = b
  | [], [], _ => rfl
  | [], y :: b, h => by simp [bytesOf] at h
  | x :: a, [], h => by simp [bytesOf] at h
  | x :: a, y :: b, h => by
    unfold bytesOf at h
    rw [List.map_cons, List.map_cons] at h
    injection h with h1 h2
    have e : x = y := by
      cases x; cases y
      simp at h1
      rw [h1]
    rw [e, bytesOf_inj (a := a) (b := b) h2]
theorem sameB_iff (p q : Pg) : sameB p q = true ↔ p = q := by
  constructor
  · intro h
    obtain ⟨kd, no, ep, lk, cs⟩ := p
    obtain ⟨kd', no', ep', lk', cs'⟩ := q
    simp only [sameB, Bool.and_eq_true, decide_eq_true_eq, eqB] at h
    obtain ⟨⟨⟨⟨rfl, rfl⟩, rfl⟩, rfl⟩, h⟩ := h
    rw [bytesOf_inj h]
  · rintro rfl; exact sameB_refl p

/-- What page.Put tells of a page. -/
def PutEnd (w w' : World) (p : Pg) (bv : Value) (er : Int) : Prop :=
  (¬ OkPg p ∧ er ≠ 0 ∧ (er = if fitsB p.cells = true then 41 else 40) ∧ bv = .slice none 0 0) ∨ (OkPg p ∧ er = 0 ∧ ∃ b, bv = .slice (some ⟨b, 0, none⟩) 256 256 ∧ w.heap.size ≤ b ∧ Buf w' b (bytesPg p))
theorem put_page (g : Nat) (m : Int) (v : Value) (p : Pg) (w : World) (hs : SumAt w g m) (h : PV w g v p) (hf : fewB p.cells = true) :
    Calls Try.prog 36 #[.pointer (some ⟨g, 0, none⟩), v] w fun e w' => ∃ bv er, e = .returned (.tuple #[bv, .int .i64 er]) ∧ PutEnd w w' p bv er ∧ (∃ m, SumAt w' g m) ∧ w.grownBy w' (some g) := by
  obtain ⟨hz, hl⟩ := (few_iff _).1 hf
  by_cases h1 : fitsB p.cells = true
  · by_cases h2 : formB p = true
    · obtain ⟨kd, no, ep, lk, hp, hb, a1, a2, a3, a4, a5⟩ := OkPg.nat ⟨h1, h2⟩
      refine (put_ok g m v p.cells kd no ep lk w hs (by rw [← hp]; exact h) h1 a1 a2 a3 a4 a5).mono ?_
      rintro e w' ⟨b, rfl, hbn, hbuf, hsm, hg⟩
      exact ⟨_, _, rfl, .inr ⟨⟨h1, h2⟩, rfl, b, rfl, hbn, by rw [hb]; exact hbuf⟩, hsm, hg⟩
    · refine (put_form g v p w h (by omega) hz h1 (by simpa using h2)).mono ?_
      rintro e w' ⟨rfl, hb⟩
      exact ⟨_, _, rfl, .inl ⟨fun h => h2 h.2, by omega, by rw [if_pos h1], rfl⟩, ⟨m, hs.below hb hs.lt⟩, grown_of_below hb _⟩
  · refine (put_long g v p w h (by omega) hz (by simpa using h1)).mono ?_
    rintro e w' ⟨rfl, hb⟩
    exact ⟨_, _, rfl, .inl ⟨fun h => h1 h.1, by omega, by rw [if_neg h1], rfl⟩, ⟨m, hs.below hb hs.lt⟩, grown_of_below hb _⟩
/-- The document's own Put. -/
theorem ref_put_page (g : Nat) (v : Value) (p : Pg) (w : World) (h : PV w g v p) (hl : p.cells.length ≤ 300) :
    Calls Try.prog 37 #[v] w fun e w' => (∃ s er, e = .returned (.tuple #[.string s, .int .i64 er]) ∧ ((OkPg p ∧ er = 0 ∧ s = strOf (bytesPg p)) ∨ (¬ OkPg p ∧ er ≠ 0))) ∧ Below w.heap.size w w' := by
  by_cases h1 : fitsB p.cells = true
  · by_cases h2 : formB p = true
    · obtain ⟨kd, no, ep, lk, hp, hb, a1, a2, a3, a4, a5⟩ := OkPg.nat ⟨h1, h2⟩
      refine (ref_put_ok g v p.cells kd no ep lk w (by rw [← hp]; exact h) h1 a1 a2 a3 a4 a5).mono ?_
      rintro e w' ⟨rfl, hb'⟩
      exact ⟨⟨_, _, rfl, .inl ⟨⟨h1, h2⟩, rfl, by rw [hb]⟩⟩, hb'⟩
    · refine (ref_put_form g v p w h hl h1 (by simpa using h2)).mono ?_
      rintro e w' ⟨rfl, hb⟩
      exact ⟨⟨_, _, rfl, .inr ⟨fun h => h2 h.2, by omega⟩⟩, hb⟩
  · refine (ref_put_long g v p w h hl (by simpa using h1)).mono ?_
    rintro e w' ⟨rfl, hb⟩
    exact ⟨⟨_, _, rfl, .inr ⟨fun h => h1 h.1, by omega⟩⟩, hb⟩
/-- page.Get of a page's own bytes. -/
theorem get_bytes (g bb c : Nat) (m : Int) (p : Pg) (w : World) (hs : SumAt w g m) (hr : Row w bb 0 (bytesPg p)) (hb : bb ≠ g) (hc : 256 ≤ c) (hp : OkPg p) :
    Calls Try.prog 42 #[.pointer (some ⟨g, 0, none⟩), .slice (some ⟨bb, 0, none⟩) 256 c] w fun e w' => ∃ pv, e = .returned (.tuple #[pv, .int .i64 0]) ∧ PV w' g pv p ∧ (∃ m, SumAt w' g m) ∧ w.grownBy w' (some g) := by
  obtain ⟨kd, no, ep, lk, hp2, hb2, a1, a2, a3, a4, a5⟩ := hp.nat
  rw [hb2] at hr
  refine (get_own g bb c m kd no ep lk p.cells w hs hr hb hc hp.1 a1 a2 a3 a4 a5).mono ?_
  rintro e w' ⟨pv, he, h1, h2, h3⟩
  exact ⟨pv, he, by rw [hp2]; exact h1, h2, h3⟩
end Go.Proofs.Ytljfomgcoodjkaa
