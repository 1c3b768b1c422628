/- Arguments opened: what a value that reads as data of a type is, type by type; and a row's last step where nothing that was there has turned. -/
import Derived.Test.YtljfomgcoodjkaaMem
import Derived.WalkKit
import Derived.ProofKit
import Derived.OpenShut
import Derived.ShutString
import Derived.Below
import Derived.Lib.SmallJoins
import Derived.Deep.Slices
import Derived.SliceStrings
namespace Go.Proofs.Ytljfomgcoodjkaa
open Go.ChangeShapes Go.WideShapes Go.ChangeAt Go.RowKit Go.Joins
open Go.ChangeMaps (open_string shut_string)
set_option maxRecDepth 100000

theorem own : ownKnob Try.prog.godebug = none := by kernel_rfl
theorem laidOut : laidOutB Try.prog = true := by kernel_rfl

section
variable {H : Type} {enc : TypeId × Value → H} {w : World} {base b0 : Nat} {spare : Nat → Bool} {held : Bool} {v : Value} {d : DataW H} {p : List MemPlace}

theorem open_str (hv : Value.okWide Try.prog w .any b0 9 v) (h : DataW.Trod enc Try.prog w base spare held 9 v d p) : ∃ s : ByteArray, v = .string s ∧ s.size ≤ maxLen := by
  obtain ⟨s, rfl, _, _, hs⟩ := open_string Try.underlying9 hv h
  exact ⟨s, rfl, hs⟩
theorem open_b (hv : Value.okWide Try.prog w .any b0 4 v) (h : DataW.Trod enc Try.prog w base spare held 4 v d p) : ∃ b : Bool, v = .bool b := by
  obtain ⟨s, rfl, _⟩ := open_bool Try.underlying4 hv h
  exact ⟨s, rfl⟩
theorem open_i64 (hv : Value.okWide Try.prog w .any b0 3 v) (h : DataW.Trod enc Try.prog w base spare held 3 v d p) : ∃ n : Int, v = .int .i64 n ∧ -9223372036854775808 ≤ n ∧ n ≤ 9223372036854775807 := by
  obtain ⟨n, rfl, _, _, wn⟩ := open_int Try.underlying3 hv h
  exact ⟨n, rfl, bounds_i64 wn⟩
theorem nat_of {n : Int} {m : Nat} (h : 0 ≤ n ∧ n ≤ (m : Int)) : ∃ k : Nat, n = k ∧ k ≤ m := ⟨n.toNat, by omega, by omega⟩
theorem open_u8 (hv : Value.okWide Try.prog w .any b0 5 v) (h : DataW.Trod enc Try.prog w base spare held 5 v d p) : ∃ k : Nat, v = .int .u8 k ∧ k ≤ 255 := by
  obtain ⟨n, rfl, _, _, wn⟩ := open_int Try.underlying5 hv h
  obtain ⟨k, rfl, hk⟩ := nat_of (m := 255) (bounds_u8 wn)
  exact ⟨k, rfl, hk⟩
theorem open_u16 (hv : Value.okWide Try.prog w .any b0 36 v) (h : DataW.Trod enc Try.prog w base spare held 36 v d p) : ∃ k : Nat, v = .int .u16 k ∧ k ≤ 65535 := by
  obtain ⟨n, rfl, _, _, wn⟩ := open_int Try.underlying36 hv h
  obtain ⟨k, rfl, hk⟩ := nat_of (m := 65535) (bounds_u16 wn)
  exact ⟨k, rfl, hk⟩
theorem open_u32 (hv : Value.okWide Try.prog w .any b0 22 v) (h : DataW.Trod enc Try.prog w base spare held 22 v d p) : ∃ k : Nat, v = .int .u32 k ∧ k ≤ 4294967295 := by
  obtain ⟨n, rfl, _, _, wn⟩ := open_int Try.underlying22 hv h
  obtain ⟨k, rfl, hk⟩ := nat_of (m := 4294967295) (bounds_u32 wn)
  exact ⟨k, rfl, hk⟩

theorem okWide_array {n e t : Nat} (ht : Try.prog.underlying t = some (.array n e)) (hv : Value.okWide Try.prog w .any b0 t v) : ∃ cs, v = .agg cs ∧ cs.size = Try.prog.cellsOf t := by
  unfold Value.okWide at hv
  rw [ht] at hv
  obtain ⟨cs, h1, h2, _⟩ := hv
  exact ⟨cs, h1, h2⟩

theorem cells55 : Try.prog.cellsOf 55 = 2 := by kernel_rfl
theorem cells36 : Try.prog.cellsOf 36 = 1 := by kernel_rfl
theorem open_pair (hv : Value.okWide Try.prog w .any b0 55 v) (h : DataW.Trod enc Try.prog w base spare held 55 v d p) : ∃ x y : Nat, v = .agg #[.int .u16 x, .int .u16 y] ∧ x ≤ 65535 ∧ y ≤ 65535 := by
  obtain ⟨cs, rfl, hsz⟩ := okWide_array Try.underlying55 hv
  rw [cells55] at hsz
  obtain ⟨c0, c1, rfl⟩ := array2 hsz
  obtain ⟨fuel, hf⟩ := h
  obtain ⟨xs, m, _, _, _, hl, hi⟩ := DataW.trod_array Try.underlying55 hf
  have h0 := hi 0 (by omega)
  have h1 := hi 1 (by omega)
  rw [cells36, List.getElem?_eq_getElem (by omega)] at h0 h1
  obtain ⟨n0, e0, _, w0⟩ := DataW.trod_int Try.underlying36 h0
  obtain ⟨n1, e1, _, w1⟩ := DataW.trod_int Try.underlying36 h1
  simp [Value.cells] at e0 e1
  subst e0 e1
  obtain ⟨k0, rfl, hk0⟩ := nat_of (m := 65535) (bounds_u16 w0)
  obtain ⟨k1, rfl, hk1⟩ := nat_of (m := 65535) (bounds_u16 w1)
  exact ⟨k0, k1, rfl, hk0, hk1⟩

theorem cells9 : Try.prog.cellsOf 9 = 1 := by kernel_rfl
theorem spot_none {w : World} {a : Addr} {v : Value} (h : w.cell? (a.add 0) = some v) : a = ⟨a.block, a.off, none⟩ := by
  have h0 : a.add 0 = a := by simp [Addr.add]
  rw [h0] at h
  have := World.cell?_spot h
  obtain ⟨b, o, s⟩ := a
  simp at this
  subst this
  rfl
theorem addr_at (b o i : Nat) : (⟨b, o, none⟩ : Addr).add i = ⟨b, o + i, none⟩ := by
  unfold Addr.add
  split
  · simp_all
  · rfl
theorem strs_of_trod {fuel : Nat} (hv : ∃ A n c, v = .slice A n c) (hf : DataW.trod enc Try.prog w base spare held fuel 31 v.cells.toList = some (d, p)) : ∃ ss, Strs w v ss := by
  obtain ⟨A, n, c, rfl⟩ := hv
  rcases open_strings Try.underlying31 Try.underlying9 cells9 hf with ⟨hcs, _⟩ | ⟨a, len, cap, ss, hcs, _, hl, hm, hz, _, hcell, hws⟩
  · simp [Value.cells] at hcs
    obtain ⟨rfl, rfl, rfl⟩ := hcs
    exact ⟨[], none, 0, rfl, Nat.le_refl _, by simp [maxLen], by simp, .inl rfl⟩
  · simp [Value.cells] at hcs
    obtain ⟨rfl, rfl, rfl⟩ := hcs
    have hle : n ≤ ss.length := by rw [hz]; split <;> omega
    have hlen : (ss.take n).length = n := by rw [List.length_take]; omega
    refine ⟨ss.take n, _, c, by rw [hlen], by omega, hm, fun s hs => hws s (List.mem_of_mem_take hs), ?_⟩
    by_cases h0 : n = 0
    · subst h0
      exact .inl rfl
    · have hsp := spot_none (hcell 0 (by omega))
      refine .inr ⟨a.block, a.off, by rw [← hsp], fun i hi => ?_⟩
      have hi' : i < ss.length := by omega
      have hc := hcell i hi'
      rw [hsp, addr_at] at hc
      rw [hc, List.getElem_take, List.getD_eq_getElem?_getD, List.getElem?_eq_getElem hi']
      rfl
theorem open_strs (hv : Value.okWide Try.prog w .any b0 31 v) (h : DataW.Trod enc Try.prog w base spare held 31 v d p) : ∃ ss, Strs w v ss := by
  obtain ⟨fuel, hf⟩ := h
  obtain ⟨A, n, c, rfl⟩ := okWide_slice Try.underlying31 hv
  exact strs_of_trod ⟨A, n, c, rfl⟩ hf
end
end Go.Proofs.Ytljfomgcoodjkaa
