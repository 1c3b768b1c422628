/- The walks of sync.Once over the table: behind Do the table stands, whether or not it stood; only the block of the summer has turned. -/
import Derived.Test.YtljfomgcoodjkaaFill
namespace Go.Proofs.Ytljfomgcoodjkaa
open Go.RowKit

set_option maxRecDepth 100000 in
set_option maxHeartbeats 1600000 in
/-- '(*sync.Once).doSlow', not yet done and the lock free, over the table's filling. -/
theorem slow_any (g : Nat) (w : World) (cs : Array Value) (hb : Blk w g 90 cs) (hs : cs.size = 260) (h0 : cs[0]? = some (.int .u32 0)) (h1 : cs[1]? = some (.int .i32 0)) :
    Calls Try.prog 65 #[.pointer (some ⟨g, 0, none⟩), .func (.func 48) #[.pointer (some ⟨g, 0, none⟩)] #[]] w fun e w' => e = .returned (.tuple #[]) ∧
      ((fillW (w.setCell ⟨g, 1, none⟩ (.int .i32 1)) g 256).drew.setCell ⟨g, 0, none⟩ (.int .u32 1)).setCell ⟨g, 1, none⟩ (.int .i32 0) = w' := by
  have hb1 := hb.set_ 1 (.int .i32 1)
  have c0 : w.cell? ⟨g, 1, none⟩ = some (.int .i32 0) := by rw [hb.cell]; exact h1
  have f0 : w.frozen? ⟨g, 1, none⟩ = false := hb.frozen _
  have c1 : (w.setCell ⟨g, 1, none⟩ (.int .i32 1)).cell? ⟨g, 0, none⟩ = some (.int .u32 0) := by rw [hb1.cell, Array.getElem?_setIfInBounds_ne (by omega)]; exact h0
  have hnot : ∀ (x : Bool) (w : World), (Op.unary .not (.bool x)).run Try.prog w = .ok (.bool (!x)) w := fun _ _ => rfl
  have H0 := hide h0
  have H1 := hide h1
  have HS := hide hs
  clear h0 h1 hs
  go_enter_defers Try.func65, Try.ntmps65
  go_wp2_with (go_at_call 70; refine (lock_free ⟨g, 1, none⟩ _ c0 f0).mono ?_; rintro e w' ⟨rfl, rfl⟩)
  go_wp2_with (go_at_call 64; refine (bool_load_no ⟨g, 0, none⟩ _ c1).mono ?_; rintro e w' ⟨rfl, rfl⟩)
  refine (fill_any g _ _ hb1 (by rw [Array.size_setIfInBounds]; exact HS.out)).mono ?_
  rintro e w' ⟨rfl, rfl⟩
  have hb2 := fillW_blk hb1 256
  have s2 : (fillTo (cs.setIfInBounds 1 (.int .i32 1)) 256)[0]? = some (.int .u32 0) := by
    rw [fillTo_far _ _ _ (by omega), Array.getElem?_setIfInBounds_ne (by omega)]; exact H0.out
  have s3 : (fillTo (cs.setIfInBounds 1 (.int .i32 1)) 256)[1]? = some (.int .i32 1) := by
    rw [fillTo_far _ _ _ (by omega)]; exact Array.getElem?_setIfInBounds_self_of_lt (by have := HS.out; omega)
  have S2 := hide s2
  have S3 := hide s3
  clear s2 s3
  go_wp2
  refine leaves_cons (f := 72) (args := #[.pointer (some ⟨g, 0, none⟩), .bool true]) (by simp) (by simp [go_sem]) ?_
  refine (store_deferred ⟨g, 0, none⟩ (.int .u32 0) .returning _ (by rw [hb2.cell]; exact S2.out) (hb2.frozen _)).mono ?_
  rintro e u' w'' ⟨rfl, rfl, rfl⟩
  have hb3 := hb2.drew.set_ 0 (.int .u32 1)
  refine leaves_cons (f := 71) (args := #[.pointer (some ⟨g, 1, none⟩)]) (by simp [settle]) (by simp [go_sem]) ?_
  refine (unlock_deferred ⟨g, 1, none⟩ _ _ (by rw [hb3.cell, Array.getElem?_setIfInBounds_ne (by omega)]; exact S3.out) (hb3.frozen _)).mono ?_
  rintro e u' w'' ⟨rfl, rfl, rfl⟩
  simp [Leaves, settle, results, Try.results65]

attribute [local irreducible] fillW fillTo

theorem slow_grown (w : World) (g : Nat) : w.grownBy (((fillW (w.setCell ⟨g, 1, none⟩ (.int .i32 1)) g 256).drew.setCell ⟨g, 0, none⟩ (.int .u32 1)).setCell ⟨g, 1, none⟩ (.int .i32 0)) (some g) := by
  have h1 : w.grownBy (w.setCell ⟨g, 1, none⟩ (.int .i32 1)) (some g) := grown_setCell (grown_refl w _) (.inl rfl) _
  have h2 := grown_trans h1 (fillW_grown (w.setCell ⟨g, 1, none⟩ (.int .i32 1)) g 256)
  exact grown_setCell (grown_setCell (grown_drew h2) (.inl rfl) _) (.inl rfl) _

/-- The summer in block g: its lock is free, it has counted n; its table is not yet made, or stands. -/
def SumAt (w : World) (g : Nat) (n : Int) : Prop :=
  ∃ cs, Blk w g 90 cs ∧ cs.size = 260 ∧ cs[1]? = some (.int .i32 0) ∧ cs[259]? = some (.int .i64 n) ∧
    (cs[0]? = some (.int .u32 0) ∨ cs[0]? = some (.int .u32 1) ∧ ∀ i, i < 256 → cs[3 + i]? = some (.int .u32 (Crc.tab i : Nat)))

/-- The same, the table made. -/
def SumUp (w : World) (g : Nat) (n : Int) : Prop :=
  ∃ cs, Blk w g 90 cs ∧ cs.size = 260 ∧ cs[1]? = some (.int .i32 0) ∧ cs[259]? = some (.int .i64 n) ∧
    cs[0]? = some (.int .u32 1) ∧ ∀ i, i < 256 → cs[3 + i]? = some (.int .u32 (Crc.tab i : Nat))

theorem slow_up (g : Nat) (n : Int) (w : World) (cs : Array Value) (hb : Blk w g 90 cs) (hs : cs.size = 260) (hn : cs[259]? = some (.int .i64 n)) :
    SumUp (((fillW (w.setCell ⟨g, 1, none⟩ (.int .i32 1)) g 256).drew.setCell ⟨g, 0, none⟩ (.int .u32 1)).setCell ⟨g, 1, none⟩ (.int .i32 0)) g n := by
  have hb1 := hb.set_ 1 (.int .i32 1)
  have hb2 := (((fillW_blk hb1 256).drew.set_ 0 (.int .u32 1)).set_ 1 (.int .i32 0))
  have hs1 : (cs.setIfInBounds 1 (.int .i32 1)).size = 260 := by rw [Array.size_setIfInBounds]; exact hs
  have hs2 : (fillTo (cs.setIfInBounds 1 (.int .i32 1)) 256).size = 260 := by rw [fillTo_size]; exact hs1
  refine ⟨_, hb2, by simp only [Array.size_setIfInBounds]; exact hs2, Array.getElem?_setIfInBounds_self_of_lt (by simp only [Array.size_setIfInBounds]; omega), ?_, ?_, fun i hi => ?_⟩
  · rw [Array.getElem?_setIfInBounds_ne (by omega), Array.getElem?_setIfInBounds_ne (by omega), fillTo_far _ _ _ (by omega), Array.getElem?_setIfInBounds_ne (by omega)]
    exact hn
  · rw [Array.getElem?_setIfInBounds_ne (by omega)]
    exact Array.getElem?_setIfInBounds_self_of_lt (by omega)
  · rw [Array.getElem?_setIfInBounds_ne (by omega), Array.getElem?_setIfInBounds_ne (by omega)]
    exact fillTo_near _ hs1 i 256 (by omega) hi

theorem slow_sum (g : Nat) (n : Int) (w : World) (cs : Array Value) (hb : Blk w g 90 cs) (hs : cs.size = 260) (h0 : cs[0]? = some (.int .u32 0)) (h1 : cs[1]? = some (.int .i32 0)) (hn : cs[259]? = some (.int .i64 n)) :
    Calls Try.prog 65 #[.pointer (some ⟨g, 0, none⟩), .func (.func 48) #[.pointer (some ⟨g, 0, none⟩)] #[]] w fun e w' => e = .returned (.tuple #[]) ∧ SumUp w' g n ∧ w.grownBy w' (some g) := by
  refine (slow_any g w cs hb hs h0 h1).mono ?_
  rintro e w' ⟨rfl, h⟩
  rw [← h]
  exact ⟨rfl, slow_up g n w cs hb hs hn, slow_grown w g⟩

set_option maxRecDepth 100000 in
set_option maxHeartbeats 400000 in
theorem do_any (g : Nat) (n : Int) (w : World) (h : SumAt w g n) :
    Calls Try.prog 47 #[.pointer (some ⟨g, 0, none⟩), .func (.func 48) #[.pointer (some ⟨g, 0, none⟩)] #[]] w fun e w' => e = .returned (.tuple #[]) ∧ SumUp w' g n ∧ w.grownBy w' (some g) := by
  obtain ⟨cs, hb, hs, h1, hn, h0⟩ := h
  have hnot : ∀ (x : Bool) (w : World), (Op.unary .not (.bool x)).run Try.prog w = .ok (.bool (!x)) w := fun _ _ => rfl
  rcases h0 with h0 | ⟨h0, ht⟩
  · have c0 : w.cell? ⟨g, 0, none⟩ = some (.int .u32 0) := by rw [hb.cell]; exact h0
    have SL := hide (slow_sum g n w cs hb hs h0 h1 hn)
    clear hs hn h0 h1
    go_enter Try.func47, Try.ntmps47
    go_wp2_with (go_at_call 64; refine (bool_load_no ⟨g, 0, none⟩ _ c0).mono ?_; rintro e w' ⟨rfl, rfl⟩)
    refine SL.out.mono ?_
    rintro e w' ⟨rfl, hup, hg⟩
    have UP := hide hup
    have GR := hide hg
    clear hup hg
    go_wp2
    go_end0
    exact ⟨rfl, UP.out, GR.out⟩
  · have c0 : w.cell? ⟨g, 0, none⟩ = some (.int .u32 1) := by rw [hb.cell]; exact h0
    have UP := hide (show SumUp w g n from ⟨cs, hb, hs, h1, hn, h0, ht⟩)
    clear hs hn h0 h1 ht
    go_enter Try.func47, Try.ntmps47
    go_wp2_with (go_at_call 64; refine (bool_load_yes ⟨g, 0, none⟩ _ c0).mono ?_; rintro e w' ⟨rfl, rfl⟩)
    go_end0
    exact ⟨rfl, UP.out, grown_refl _ _⟩
end Go.Proofs.Ytljfomgcoodjkaa
