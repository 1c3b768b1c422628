/- Arguments opened: pages, supers, lists of supers. -/
import Derived.Test.YtljfomgcoodjkaaOpen
import Derived.Test.YtljfomgcoodjkaaSame
namespace Go.Proofs.Ytljfomgcoodjkaa
open Go.ChangeShapes Go.WideShapes Go.ChangeAt Go.RowKit Go.Joins
open Go.ChangeMaps (open_string shut_string)
set_option maxRecDepth 100000

/-- A page handed as an argument. -/
def Page (w : World) (v : Value) (p : Pg) : Prop :=
  ∃ cv, v = .agg #[.int .i64 p.kd, .int .i64 p.no, .int .i64 p.ep, .int .i64 p.lk, cv] ∧ Strs w cv p.cells ∧ I64 p.kd ∧ I64 p.no ∧ I64 p.ep ∧ I64 p.lk
/-- A super as data: epoch, root, free, pages. -/
structure Su where
  ep : Int
  rt : Int
  fr : Int
  pg : Int
def Su.I64 (x : Su) : Prop := Proofs.Ytljfomgcoodjkaa.I64 x.ep ∧ Proofs.Ytljfomgcoodjkaa.I64 x.rt ∧ Proofs.Ytljfomgcoodjkaa.I64 x.fr ∧ Proofs.Ytljfomgcoodjkaa.I64 x.pg
def suV (x : Su) : Value := .agg #[.int .i64 x.ep, .int .i64 x.rt, .int .i64 x.fr, .int .i64 x.pg]
def Sup (v : Value) (x : Su) : Prop := v = suV x ∧ x.I64
/-- A list of supers handed as an argument. -/
def Sups (w : World) (v : Value) (l : List Su) : Prop :=
  ∃ A c, v = .slice A l.length c ∧ l.length ≤ c ∧ c ≤ maxLen ∧ (∀ x ∈ l, x.I64) ∧
    (l = [] ∨ ∃ b off, A = some ⟨b, off, none⟩ ∧ ∀ i, (h : i < l.length) → w.cell? ⟨b, off + 4 * i, none⟩ = some (.int .i64 l[i].ep) ∧ w.cell? ⟨b, off + 4 * i + 1, none⟩ = some (.int .i64 l[i].rt) ∧
      w.cell? ⟨b, off + 4 * i + 2, none⟩ = some (.int .i64 l[i].fr) ∧ w.cell? ⟨b, off + 4 * i + 3, none⟩ = some (.int .i64 l[i].pg))

section
variable {H : Type} {enc : TypeId × Value → H} {w : World} {base b0 : Nat} {spare : Nat → Bool} {held : Bool} {v : Value} {d : DataW H} {p : List MemPlace}

theorem okWide_struct {fs : Array Field} {t : Nat} (ht : Try.prog.underlying t = some (.struct fs)) (hv : Value.okWide Try.prog w .any b0 t v) : ∃ cs, v = .agg cs ∧ cs.size = Try.prog.cellsOf t := by
  unfold Value.okWide at hv
  rw [ht] at hv
  obtain ⟨cs, h1, h2, _⟩ := hv
  exact ⟨cs, h1, h2⟩
theorem cells58 : Try.prog.cellsOf 58 = 5 := by kernel_rfl
theorem cells41 : Try.prog.cellsOf 41 = 4 := by kernel_rfl
theorem cells3 : Try.prog.cellsOf 3 = 1 := by kernel_rfl
theorem cells31 : Try.prog.cellsOf 31 = 1 := by kernel_rfl
theorem array5 {α : Type} {cs : Array α} (h : cs.size = 5) : ∃ c0 c1 c2 c3 c4, cs = #[c0, c1, c2, c3, c4] := by
  obtain ⟨l⟩ := cs
  match l, h with
  | [c0, c1, c2, c3, c4], _ => exact ⟨c0, c1, c2, c3, c4, rfl⟩
theorem one_int {fuel : Nat} {c : Value} {x : DataW H × List MemPlace} (h : DataW.trod enc Try.prog w base spare held fuel 3 [c] = some x) : ∃ n : Int, c = .int .i64 n ∧ I64 n := by
  obtain ⟨n, e, _, wn⟩ := DataW.trod_int Try.underlying3 h
  exact ⟨n, by simpa using e, bounds_i64 wn⟩
theorem one_slice {fuel : Nat} {c : Value} {x : DataW H × List MemPlace} (h : DataW.trod enc Try.prog w base spare held fuel 31 [c] = some x) : ∃ A n k, c = .slice A n k := by
  rcases DataW.trod_slice Try.underlying31 h with ⟨e, _⟩ | ⟨a, n, k, _, _, _, _, e, _⟩
  · exact ⟨none, 0, 0, by simpa using e⟩
  · exact ⟨some a, n, k, by simpa using e⟩

theorem open_page (hv : Value.okWide Try.prog w .any b0 58 v) (h : DataW.Trod enc Try.prog w base spare held 58 v d p) : ∃ q, Page w v q := by
  obtain ⟨cs, rfl, hsz⟩ := okWide_struct Try.underlying58 hv
  rw [cells58] at hsz
  obtain ⟨c0, c1, c2, c3, c4, rfl⟩ := array5 hsz
  obtain ⟨fuel, hf⟩ := h
  obtain ⟨xs, m, _, _, _, hl, hi⟩ := DataW.trod_struct Try.underlying58 hf
  have hl5 : xs.length = 5 := hl
  have g : ∀ i (h : i < 5), xs[i]? = some (xs[i]'(by omega)) := fun i h => List.getElem?_eq_getElem (by omega)
  have h0 := (hi 0 _ rfl).trans (g 0 (by omega))
  have h1 := (hi 1 _ rfl).trans (g 1 (by omega))
  have h2 := (hi 2 _ rfl).trans (g 2 (by omega))
  have h3 := (hi 3 _ rfl).trans (g 3 (by omega))
  have h4 := (hi 4 _ rfl).trans (g 4 (by omega))
  simp [Value.cells, cells3, cells31] at h0 h1 h2 h3 h4
  obtain ⟨n0, rfl, w0⟩ := one_int h0
  obtain ⟨n1, rfl, w1⟩ := one_int h1
  obtain ⟨n2, rfl, w2⟩ := one_int h2
  obtain ⟨n3, rfl, w3⟩ := one_int h3
  obtain ⟨A, n, k, rfl⟩ := one_slice h4
  obtain ⟨ss, hs⟩ := strs_of_trod (v := .slice A n k) (d := xs[4].1) (p := xs[4].2) ⟨A, n, k, rfl⟩ (by simpa [Value.cells] using h4)
  exact ⟨⟨n0, n1, n2, n3, ss⟩, _, rfl, hs, w0, w1, w2, w3⟩

theorem four_ints {fuel : Nat} {c0 c1 c2 c3 : Value} {x : DataW H × List MemPlace} (hf : DataW.trod enc Try.prog w base spare held fuel 41 [c0, c1, c2, c3] = some x) :
    ∃ q : Su, c0 = .int .i64 q.ep ∧ c1 = .int .i64 q.rt ∧ c2 = .int .i64 q.fr ∧ c3 = .int .i64 q.pg ∧ q.I64 := by
  obtain ⟨xs, m, _, _, _, hl, hi⟩ := DataW.trod_struct Try.underlying41 hf
  have hl4 : xs.length = 4 := hl
  have g : ∀ i (h : i < 4), xs[i]? = some (xs[i]'(by omega)) := fun i h => List.getElem?_eq_getElem (by omega)
  have h0 := (hi 0 _ rfl).trans (g 0 (by omega))
  have h1 := (hi 1 _ rfl).trans (g 1 (by omega))
  have h2 := (hi 2 _ rfl).trans (g 2 (by omega))
  have h3 := (hi 3 _ rfl).trans (g 3 (by omega))
  simp [cells3] at h0 h1 h2 h3
  obtain ⟨n0, rfl, w0⟩ := one_int h0
  obtain ⟨n1, rfl, w1⟩ := one_int h1
  obtain ⟨n2, rfl, w2⟩ := one_int h2
  obtain ⟨n3, rfl, w3⟩ := one_int h3
  exact ⟨⟨n0, n1, n2, n3⟩, rfl, rfl, rfl, rfl, w0, w1, w2, w3⟩

theorem open_super (hv : Value.okWide Try.prog w .any b0 41 v) (h : DataW.Trod enc Try.prog w base spare held 41 v d p) : ∃ q, Sup v q := by
  obtain ⟨cs, rfl, hsz⟩ := okWide_struct Try.underlying41 hv
  rw [cells41] at hsz
  obtain ⟨c0, c1, c2, c3, rfl⟩ := array4 hsz
  obtain ⟨fuel, hf⟩ := h
  obtain ⟨q, rfl, rfl, rfl, rfl, hq⟩ := four_ints (by simpa [Value.cells] using hf)
  exact ⟨q, rfl, hq⟩

theorem choose_list {α : Type} (P : Nat → α → Prop) : ∀ n, (∀ i, i < n → ∃ q, P i q) → ∃ l : List α, l.length = n ∧ ∀ i (h : i < l.length), P i l[i]
  | 0, _ => ⟨[], rfl, fun i h => by simp at h⟩
  | n + 1, h => by
    obtain ⟨l, hl, hp⟩ := choose_list P n fun i hi => h i (by omega)
    obtain ⟨q, hq⟩ := h n (by omega)
    refine ⟨l ++ [q], by simp [hl], fun i hi => ?_⟩
    by_cases e : i < l.length
    · rw [List.getElem_append_left e]; exact hp i e
    · simp at hi
      obtain rfl : i = l.length := by omega
      simp
      rw [hl]; exact hq

theorem open_supers (hv : Value.okWide Try.prog w .any b0 49 v) (h : DataW.Trod enc Try.prog w base spare held 49 v d p) : ∃ q, Sups w v q := by
  obtain ⟨fuel, hf⟩ := h
  obtain ⟨A, n, c, rfl⟩ := okWide_slice Try.underlying49 hv
  rcases Go.Deep.open_slice Try.underlying49 hf with ⟨hcs, _⟩ | ⟨a, len, cap, m, k, D, Pl, hcs, _, hl, hm, hz, _, hx⟩
  · simp [Value.cells] at hcs
    obtain ⟨rfl, rfl, rfl⟩ := hcs
    exact ⟨[], none, 0, rfl, Nat.le_refl _, by simp [maxLen], by simp, .inl rfl⟩
  · simp [Value.cells] at hcs
    obtain ⟨rfl, rfl, rfl⟩ := hcs
    have hle : n ≤ m := by rw [hz]; split <;> omega
    have each : ∀ i, i < n → ∃ q : Su, (w.cell? (a.add (i * 4)) = some (.int .i64 q.ep) ∧ w.cell? (a.add (i * 4 + 1)) = some (.int .i64 q.rt) ∧ w.cell? (a.add (i * 4 + 2)) = some (.int .i64 q.fr) ∧
        w.cell? (a.add (i * 4 + 3)) = some (.int .i64 q.pg)) ∧ q.I64 := by
      intro i hi
      obtain ⟨cs', h1, h2⟩ := hx i (by omega)
      rw [cells41] at h1
      obtain ⟨_, hlen, hcell⟩ := World.cells?_some h1
      match cs', hlen with
      | [u0, u1, u2, u3], _ =>
        have e0 := hcell 0 (by omega)
        have e1 := hcell 1 (by omega)
        have e2 := hcell 2 (by omega)
        have e3 := hcell 3 (by omega)
        rw [Go.Deep.add_add] at e0 e1 e2 e3
        obtain ⟨q, rfl, rfl, rfl, rfl, hq⟩ := four_ints h2
        exact ⟨q, ⟨by simpa using e0, by simpa using e1, by simpa using e2, by simpa using e3⟩, hq⟩
    obtain ⟨l, hll, hp⟩ := choose_list _ n each
    subst hll
    refine ⟨l, _, c, rfl, by omega, hm, fun x hx => ?_, ?_⟩
    · obtain ⟨i, hi, rfl⟩ := List.mem_iff_getElem.1 hx
      exact (hp i hi).2
    · by_cases h0 : l = []
      · exact .inl h0
      · have hsp : a = ⟨a.block, a.off, none⟩ := by
          have := (hp 0 (List.length_pos_iff.2 h0)).1.1
          exact spot_none (by simpa using this)
        refine .inr ⟨a.block, a.off, by rw [← hsp], fun i hi => ?_⟩
        obtain ⟨k0, k1, k2, k3⟩ := (hp i hi).1
        rw [hsp, addr_at] at k0 k1 k2 k3
        rw [Nat.mul_comm 4 i]
        exact ⟨k0, k1, k2, k3⟩
end
end Go.Proofs.Ytljfomgcoodjkaa
