/- lunetteref04.Put: the document's answer, a text put together. -/
import Derived.Test.YtljfomgcoodjkaaRef4
namespace Go.Proofs.Ytljfomgcoodjkaa
open Go.RowKit

/-- A call of the reference's Put: the page in block B. -/
structure RP (w w' : World) (kd no ep lk : Nat) (cv : Value) : Prop where
  k0 : w'.cell? ⟨w.heap.size, 0, none⟩ = some (.int .i64 (kd : Int))
  k1 : w'.cell? ⟨w.heap.size, 1, none⟩ = some (.int .i64 (no : Int))
  k2 : w'.cell? ⟨w.heap.size, 2, none⟩ = some (.int .i64 (ep : Int))
  k3 : w'.cell? ⟨w.heap.size, 3, none⟩ = some (.int .i64 (lk : Int))
  k4 : w'.cell? ⟨w.heap.size, 4, none⟩ = some cv
  below : Below w.heap.size w w'
theorem RP.new {w w' : World} {kd no ep lk : Nat} {cv : Value} (h : RP w w' kd no ep lk cv) : w.heap.size < w'.heap.size := World.block_lt_of_cell? w' _ h.k0
theorem RP.low {w w1 w2 : World} {kd no ep lk : Nat} {cv : Value} (h : RP w w1 kd no ep lk cv) (hb : Below w1.heap.size w1 w2) : RP w w2 kd no ep lk cv :=
  ⟨hb.old h.k0, hb.old h.k1, hb.old h.k2, hb.old h.k3, hb.old h.k4, h.below.trans (hb.mono (by have := h.below.size; omega))⟩
theorem RP.start (w : World) (kd no ep lk : Nat) (cv : Value) : RP w (w.alloc (.cells #[.int .i64 (kd : Int), .int .i64 (no : Int), .int .i64 (ep : Int), .int .i64 (lk : Int), cv] 58)) kd no ep lk cv :=
  ⟨by simp, by simp, by simp, by simp, by simp, (Below.refl _ _).alloc (Nat.le_refl _) _⟩

/-- What the reference's region holds to. -/
theorem RP.all {w w' : World} {kd no ep lk : Nat} {cv : Value} (h : RP w w' kd no ep lk cv) : w'.cell? ⟨w.heap.size, 0, none⟩ = some (.int .i64 (kd : Int)) ∧ w'.cell? ⟨w.heap.size, 1, none⟩ = some (.int .i64 (no : Int)) ∧
    w'.cell? ⟨w.heap.size, 2, none⟩ = some (.int .i64 (ep : Int)) ∧ w'.cell? ⟨w.heap.size, 3, none⟩ = some (.int .i64 (lk : Int)) ∧ w'.cell? ⟨w.heap.size, 4, none⟩ = some cv ∧ RP w w' kd no ep lk cv :=
  ⟨h.k0, h.k1, h.k2, h.k3, h.k4, h⟩

theorem upon_conv_back {o : Oper} {a : Act} {K : Act → World → Prop} {Q : Exit → Act → World → Prop} {w : World} {b n c : Nat} {xs : List UInt8} (h : Row w b 0 xs) (hn : xs.length = n) (k : K (a.put o.dst (.string (strOf xs))) w) :
    Oper.upon Try.prog o a K Q ((Sem.run Try.prog (convert 28 9 (.slice (some ⟨b, 0, none⟩) n c)) w).andThen fun a w' => Result.ok (Next.value a) w') := by
  rw [conv_back h hn]
  exact k
theorem row_two (w : World) (a b : Nat) : Row (w.alloc (.cells #[.int .u8 (IntKind.u8.wrap a), .int .u8 (IntKind.u8.wrap b)] 5)) w.heap.size 0 [UInt8.ofNat a, UInt8.ofNat b] := by
  refine row_of_block (heap_alloc_new w _) _ ?_
  show [_, _] = [bv _, bv _]
  simp only [bv, UInt8.toNat_ofNat']
  have e : ∀ n : Nat, IntKind.u8.wrap n = ((n % 2 ^ 8 : Nat) : Int) := fun n => by simp [IntKind.wrap, IntKind.bits, IntKind.signed]
  rw [e, e]

theorem strOf_cat (a b : List UInt8) : strOf a ++ strOf b = strOf (a ++ b) := by rw [strOf_add, strOf_data]
theorem Row.drew {w : World} {b off : Nat} {xs : List UInt8} (h : Row w b off xs) : Row w.drew b off xs := h

theorem str_cat (x : ByteArray) (l : List UInt8) : x ++ strOf l = strOf (x.data.toList ++ l) := by
  have h : x = strOf x.data.toList := by cases x; simp [strOf]
  rw [h, strOf_cat, strOf_data]
theorem str_id (x : ByteArray) : strOf x.data.toList = x := by cases x; simp [strOf]
theorem row_two' (w : World) (a b : Nat) (ha : a ≤ 255) (hb : b ≤ 255) : Row (w.alloc (.cells #[.int .u8 (a : Int), .int .u8 (b : Int)] 5)) w.heap.size 0 [UInt8.ofNat a, UInt8.ofNat b] := by
  refine row_of_block (heap_alloc_new w _) _ ?_
  show [_, _] = [bv _, bv _]
  simp only [bv]
  rw [u8_nat a ha, u8_nat b hb]

theorem pad_step (X : List UInt8) (j : Nat) : strOf (X ++ List.replicate j 0) ++ (⟨#[0]⟩ : ByteArray) = strOf (X ++ List.replicate (j + 1) 0) := by
  rw [strOf_add, List.append_assoc]
  congr 2
  rw [List.replicate_succ']

theorem take_at {ops : Array Oper} {Q : Exit → Act → World → Prop} {md : Region.Mode} {S : World → Prop} {i d : Nat} {oi : Oper} {v : Value} {fuel : Nat} {listed : Array Bool} {a : Act} {w : World} (hi : ops[i]? = some oi) (hd : oi.dst = some d)
    (hs : Region.noSelect ops = true) (hf : Region.free md ops listed i = true) (hr : (Region.ready md ops listed).contains i = true)
    (hQ : ∀ c a w, Q (.panic c) (a.put (some d) v) w → Q (.panic c) a w) (hy : YieldsIf Try.prog ops S oi v a) (hS : S w)
    (h : wpAnyH Try.prog md ops Q S fuel (listed.setIfInBounds i true) (a.put (some d) v) w) : wpAnyH Try.prog md ops Q S (fuel + 1) listed a w :=
  wpAnyH_take hi hs hf hr (by rw [hd]; exact hQ) hy hS (by rw [hd]; exact h)

set_option maxRecDepth 100000 in
set_option maxHeartbeats 4000000 in
/-- 'lunetteref04.Put', a page that may be. -/
theorem ref_put_ok (g : Nat) (v : Value) (cs : List ByteArray) (kd no ep lk : Nat) (w : World) (h : PV w g v ⟨kd, no, ep, lk, cs⟩) (hf : fitsB cs = true)
    (h1 : 1 ≤ kd) (h2 : kd ≤ 255) (h3 : no ≤ 4294967295) (h4 : ep ≤ 4294967295) (h5 : lk ≤ 4294967295) :
    Calls Try.prog 37 #[v] w fun e w' => e = .returned (.tuple #[.string (strOf (pageOf kd no ep lk cs)), .int .i64 0]) ∧ Below w.heap.size w w' := by
  obtain ⟨hroom, hslim⟩ := (fits_iff cs).1 hf
  have hcl : cs.length ≤ 118 := by unfold room at hroom; omega
  obtain ⟨cv, rfl, hr⟩ := h
  obtain ⟨A, c, hv, _⟩ := hr.len
  subst hv
  have F := fun (w' : World) (hb : Below w.heap.size w w') => ref_fits g _ cs w' (hr.below hb) (by omega)
  simp only [hf] at F
  have F' := hide F
  have HR := hide hr
  have HRM := hide hroom
  have HSL := hide hslim
  clear F hr hf hroom hslim
  go_enter Try.func37, Try.ntmps37
  go_wp2_with fail
  refine (F'.out _ (by exact (Below.refl _ _).alloc (Nat.le_refl _) _)).mono ?_
  rintro e w' ⟨rfl, rfl⟩
  go_wp2_with fail
  have R0 := RP.start w kd no ep lk (.slice A cs.length c)
  obtain ⟨W3, hW3⟩ : ∃ W3, W3 = w.alloc (.cells #[.int .i64 (kd : Int), .int .i64 (no : Int), .int .i64 (ep : Int), .int .i64 (lk : Int), .slice A cs.length c] 58) := ⟨_, rfl⟩
  rw [← hW3] at R0 ⊢
  clear hW3
  have RA := R0.all
  have RD := (R0.low (Below.refl _ _).drew).all
  clear RA
  have z1 : ∀ l, (strOf l).size = l.length := strOf_size
  have z2 := strOf_cat
  have z3 : ∀ n, (four n).length = 4 := four_length
  have z4 : ∀ (a b : List UInt8), (a ++ b).length = a.length + b.length := fun _ _ => List.length_append
  go_upto_region 6 with fail
  go_cut [5] (fun s5 wx => s5 = .string (strOf (hdr kd no ep lk cs.length)) ∧ RP w wx kd no ep lk (.slice A cs.length c))
  case first =>
    refine wp_region_held_drew (S := fun w' => RP w w' kd no ep lk (.slice A cs.length c)) (by kernel_rfl) (R0.low (Below.refl _ _).drew) (fun t0 => ?_)
    refine take_at (i := 0) (d := 53) (v := .pointer (some ⟨w.heap.size, 0, none⟩)) rfl rfl (by kernel_rfl) (by kernel_rfl) (by kernel_rfl) (fun _ _ _ h => h) (Or.inl ⟨by rfl, ?_⟩) (by assumption) ?_
    · intro wy hSw; go_simp
    simp only [Act.put]
    refine take_at (i := 1) (d := 54) (v := .int .i64 (kd : Int)) rfl rfl (by kernel_rfl) (by kernel_rfl) (by kernel_rfl) (fun _ _ _ h => h) (Or.inl ⟨by rfl, ?_⟩) (by assumption) ?_
    · intro wy hSw; have hk := hSw.k0; go_simp
    simp only [Act.put]
    refine take_at (i := 2) (d := 55) (v := .int .u8 (IntKind.u8.wrap kd)) rfl rfl (by kernel_rfl) (by kernel_rfl) (by kernel_rfl) (fun _ _ _ h => h) (Or.inl ⟨by rfl, ?_⟩) (by assumption) ?_
    · intro wy hSw; go_simp
    simp only [Act.put]
    refine take_at (i := 3) (d := 56) (v := .pointer (some ⟨w.heap.size, 4, none⟩)) rfl rfl (by kernel_rfl) (by kernel_rfl) (by kernel_rfl) (fun _ _ _ h => h) (Or.inl ⟨by rfl, ?_⟩) (by assumption) ?_
    · intro wy hSw; go_simp
    simp only [Act.put]
    refine take_at (i := 4) (d := 57) (v := .slice A cs.length c) rfl rfl (by kernel_rfl) (by kernel_rfl) (by kernel_rfl) (fun _ _ _ h => h) (Or.inl ⟨by rfl, ?_⟩) (by assumption) ?_
    · intro wy hSw; have hk := hSw.k4; go_simp
    simp only [Act.put]
    refine take_at (i := 5) (d := 58) (v := .int .i64 (cs.length : Int)) rfl rfl (by kernel_rfl) (by kernel_rfl) (by kernel_rfl) (fun _ _ _ h => h) (Or.inl ⟨by rfl, ?_⟩) (by assumption) ?_
    · intro wy hSw; go_simp
    simp only [Act.put]
    refine take_at (i := 6) (d := 59) (v := .int .u8 (IntKind.u8.wrap cs.length)) rfl rfl (by kernel_rfl) (by kernel_rfl) (by kernel_rfl) (fun _ _ _ h => h) (Or.inl ⟨by rfl, ?_⟩) (by assumption) ?_
    · intro wy hSw; go_simp
    simp only [Act.put]
    refine take_at (i := 9) (d := 62) (v := .pointer (some ⟨w.heap.size, 1, none⟩)) rfl rfl (by kernel_rfl) (by kernel_rfl) (by kernel_rfl) (fun _ _ _ h => h) (Or.inl ⟨by rfl, ?_⟩) (by assumption) ?_
    · intro wy hSw; go_simp
    simp only [Act.put]
    refine take_at (i := 10) (d := 63) (v := .int .i64 (no : Int)) rfl rfl (by kernel_rfl) (by kernel_rfl) (by kernel_rfl) (fun _ _ _ h => h) (Or.inl ⟨by rfl, ?_⟩) (by assumption) ?_
    · intro wy hSw; have hk := hSw.k1; go_simp
    simp only [Act.put]
    refine take_at (i := 13) (d := 66) (v := .pointer (some ⟨w.heap.size, 2, none⟩)) rfl rfl (by kernel_rfl) (by kernel_rfl) (by kernel_rfl) (fun _ _ _ h => h) (Or.inl ⟨by rfl, ?_⟩) (by assumption) ?_
    · intro wy hSw; go_simp
    simp only [Act.put]
    refine take_at (i := 14) (d := 67) (v := .int .i64 (ep : Int)) rfl rfl (by kernel_rfl) (by kernel_rfl) (by kernel_rfl) (fun _ _ _ h => h) (Or.inl ⟨by rfl, ?_⟩) (by assumption) ?_
    · intro wy hSw; have hk := hSw.k2; go_simp
    simp only [Act.put]
    refine take_at (i := 17) (d := 70) (v := .pointer (some ⟨w.heap.size, 3, none⟩)) rfl rfl (by kernel_rfl) (by kernel_rfl) (by kernel_rfl) (fun _ _ _ h => h) (Or.inl ⟨by rfl, ?_⟩) (by assumption) ?_
    · intro wy hSw; go_simp
    simp only [Act.put]
    refine take_at (i := 18) (d := 71) (v := .int .i64 (lk : Int)) rfl rfl (by kernel_rfl) (by kernel_rfl) (by kernel_rfl) (fun _ _ _ h => h) (Or.inl ⟨by rfl, ?_⟩) (by assumption) ?_
    · intro wy hSw; have hk := hSw.k3; go_simp
    simp only [Act.put]
    refine wpAnyH_ready (rs := [7, 11]) (by kernel_rfl) (by simp) ?_
    refine AllReadyH.cons rfl (fun K hK => ?_) ?_
    · go_simp
      refine hK.out _ _ ?_ (fun t1 => ?_)
      · exact R0.low ((Below.refl _ _).alloc (Nat.le_refl _) _).drew
      · have r2 := Row.drew (row_two W3 kd cs.length)
        clear hK K
        refine wpAnyH_ready (rs := [8, 11]) (by kernel_rfl) (by simp) ?_
        refine AllReadyH.cons rfl (fun K hK => ?_) ?_
        · go_simp
          refine upon_conv_back (xs := [UInt8.ofNat kd, UInt8.ofNat cs.length]) r2 rfl ?_
          refine hK.out _ _ t1 (fun t3 => ?_)
          clear hK K
          refine wpAnyH_ready (rs := [11]) (by kernel_rfl) (by simp) ?_
          refine AllReadyH.cons rfl (fun K hK => ?_) ?_
          · go_simp
            refine (ref_four no _ h3).mono ?_
            rintro e w5 ⟨rfl, b6⟩
            dsimp only
            refine hK.out _ _ ?_ (fun t4 => ?_)
            · exact RP.low t3 b6
            · have r7 := Row.below r2 b6
              clear hK K
              refine take_at (i := 12) (d := 65) (v := .string (strOf ([UInt8.ofNat kd, UInt8.ofNat cs.length] ++ four no))) rfl rfl (by kernel_rfl) (by kernel_rfl) (by kernel_rfl) (fun _ _ _ h => h) (Or.inl ⟨by rfl, ?_⟩) (by assumption) ?_
              · intro wy hSw; go_simp
              simp only [Act.put]
              refine wpAnyH_ready (rs := [15]) (by kernel_rfl) (by simp) ?_
              refine AllReadyH.cons rfl (fun K hK => ?_) ?_
              · go_simp
                refine (ref_four ep _ h4).mono ?_
                rintro e w9 ⟨rfl, b10⟩
                dsimp only
                refine hK.out _ _ ?_ (fun t8 => ?_)
                · exact RP.low t4 b10
                · have r11 := Row.below r7 b10
                  clear hK K
                  refine take_at (i := 16) (d := 69) (v := .string (strOf ([UInt8.ofNat kd, UInt8.ofNat cs.length] ++ four no ++ four ep))) rfl rfl (by kernel_rfl) (by kernel_rfl) (by kernel_rfl) (fun _ _ _ h => h) (Or.inl ⟨by rfl, ?_⟩) (by assumption) ?_
                  · intro wy hSw; go_simp
                  simp only [Act.put]
                  refine wpAnyH_ready (rs := [19]) (by kernel_rfl) (by simp) ?_
                  refine AllReadyH.cons rfl (fun K hK => ?_) ?_
                  · go_simp
                    refine (ref_four lk _ h5).mono ?_
                    rintro e w13 ⟨rfl, b14⟩
                    dsimp only
                    refine hK.out _ _ ?_ (fun t12 => ?_)
                    · exact RP.low t8 b14
                    · have r15 := Row.below r11 b14
                      clear hK K
                      refine take_at (i := 20) (d := 73) (v := .string (strOf ([UInt8.ofNat kd, UInt8.ofNat cs.length] ++ four no ++ four ep ++ four lk))) rfl rfl (by kernel_rfl) (by kernel_rfl) (by kernel_rfl) (fun _ _ _ h => h) (Or.inl ⟨by rfl, ?_⟩) (by assumption) ?_
                      · intro wy hSw; go_simp
                      simp only [Act.put]
                      refine take_at (i := 21) (d := 5) (v := .string (strOf ([UInt8.ofNat kd, UInt8.ofNat cs.length] ++ four no ++ four ep ++ four lk))) rfl rfl (by kernel_rfl) (by kernel_rfl) (by kernel_rfl) (fun _ _ _ h => h) (Or.inl ⟨by rfl, ?_⟩) (by assumption) ?_
                      · intro wy hSw; go_simp
                      simp only [Act.put]
                      refine wpAnyH_done (by kernel_rfl) ?_ _
                      go_wp2_with fail
                      go_meet
                      exact ⟨rfl, t12⟩
                  exact AllReadyH.nil
              exact AllReadyH.nil
          exact AllReadyH.nil
        refine AllReadyH.cons rfl (fun K hK => ?_) ?_
        · go_simp
          refine (ref_four no _ h3).mono ?_
          rintro e w17 ⟨rfl, b18⟩
          dsimp only
          refine hK.out _ _ ?_ (fun t16 => ?_)
          · exact RP.low t1 b18
          · have r19 := Row.below r2 b18
            clear hK K
            refine wpAnyH_ready (rs := [8, 15]) (by kernel_rfl) (by simp) ?_
            refine AllReadyH.cons rfl (fun K hK => ?_) ?_
            · go_simp
              refine upon_conv_back (xs := [UInt8.ofNat kd, UInt8.ofNat cs.length]) r19 rfl ?_
              refine hK.out _ _ t16 (fun t20 => ?_)
              clear hK K
              refine take_at (i := 12) (d := 65) (v := .string (strOf ([UInt8.ofNat kd, UInt8.ofNat cs.length] ++ four no))) rfl rfl (by kernel_rfl) (by kernel_rfl) (by kernel_rfl) (fun _ _ _ h => h) (Or.inl ⟨by rfl, ?_⟩) (by assumption) ?_
              · intro wy hSw; go_simp
              simp only [Act.put]
              refine wpAnyH_ready (rs := [15]) (by kernel_rfl) (by simp) ?_
              refine AllReadyH.cons rfl (fun K hK => ?_) ?_
              · go_simp
                refine (ref_four ep _ h4).mono ?_
                rintro e w22 ⟨rfl, b23⟩
                dsimp only
                refine hK.out _ _ ?_ (fun t21 => ?_)
                · exact RP.low t20 b23
                · have r24 := Row.below r19 b23
                  clear hK K
                  refine take_at (i := 16) (d := 69) (v := .string (strOf ([UInt8.ofNat kd, UInt8.ofNat cs.length] ++ four no ++ four ep))) rfl rfl (by kernel_rfl) (by kernel_rfl) (by kernel_rfl) (fun _ _ _ h => h) (Or.inl ⟨by rfl, ?_⟩) (by assumption) ?_
                  · intro wy hSw; go_simp
                  simp only [Act.put]
                  refine wpAnyH_ready (rs := [19]) (by kernel_rfl) (by simp) ?_
                  refine AllReadyH.cons rfl (fun K hK => ?_) ?_
                  · go_simp
                    refine (ref_four lk _ h5).mono ?_
                    rintro e w26 ⟨rfl, b27⟩
                    dsimp only
                    refine hK.out _ _ ?_ (fun t25 => ?_)
                    · exact RP.low t21 b27
                    · have r28 := Row.below r24 b27
                      clear hK K
                      refine take_at (i := 20) (d := 73) (v := .string (strOf ([UInt8.ofNat kd, UInt8.ofNat cs.length] ++ four no ++ four ep ++ four lk))) rfl rfl (by kernel_rfl) (by kernel_rfl) (by kernel_rfl) (fun _ _ _ h => h) (Or.inl ⟨by rfl, ?_⟩) (by assumption) ?_
                      · intro wy hSw; go_simp
                      simp only [Act.put]
                      refine take_at (i := 21) (d := 5) (v := .string (strOf ([UInt8.ofNat kd, UInt8.ofNat cs.length] ++ four no ++ four ep ++ four lk))) rfl rfl (by kernel_rfl) (by kernel_rfl) (by kernel_rfl) (fun _ _ _ h => h) (Or.inl ⟨by rfl, ?_⟩) (by assumption) ?_
                      · intro wy hSw; go_simp
                      simp only [Act.put]
                      refine wpAnyH_done (by kernel_rfl) ?_ _
                      go_wp2_with fail
                      go_meet
                      exact ⟨rfl, t25⟩
                  exact AllReadyH.nil
              exact AllReadyH.nil
            refine AllReadyH.cons rfl (fun K hK => ?_) ?_
            · go_simp
              refine (ref_four ep _ h4).mono ?_
              rintro e w30 ⟨rfl, b31⟩
              dsimp only
              refine hK.out _ _ ?_ (fun t29 => ?_)
              · exact RP.low t16 b31
              · have r32 := Row.below r19 b31
                clear hK K
                refine wpAnyH_ready (rs := [8, 19]) (by kernel_rfl) (by simp) ?_
                refine AllReadyH.cons rfl (fun K hK => ?_) ?_
                · go_simp
                  refine upon_conv_back (xs := [UInt8.ofNat kd, UInt8.ofNat cs.length]) r32 rfl ?_
                  refine hK.out _ _ t29 (fun t33 => ?_)
                  clear hK K
                  refine take_at (i := 12) (d := 65) (v := .string (strOf ([UInt8.ofNat kd, UInt8.ofNat cs.length] ++ four no))) rfl rfl (by kernel_rfl) (by kernel_rfl) (by kernel_rfl) (fun _ _ _ h => h) (Or.inl ⟨by rfl, ?_⟩) (by assumption) ?_
                  · intro wy hSw; go_simp
                  simp only [Act.put]
                  refine take_at (i := 16) (d := 69) (v := .string (strOf ([UInt8.ofNat kd, UInt8.ofNat cs.length] ++ four no ++ four ep))) rfl rfl (by kernel_rfl) (by kernel_rfl) (by kernel_rfl) (fun _ _ _ h => h) (Or.inl ⟨by rfl, ?_⟩) (by assumption) ?_
                  · intro wy hSw; go_simp
                  simp only [Act.put]
                  refine wpAnyH_ready (rs := [19]) (by kernel_rfl) (by simp) ?_
                  refine AllReadyH.cons rfl (fun K hK => ?_) ?_
                  · go_simp
                    refine (ref_four lk _ h5).mono ?_
                    rintro e w35 ⟨rfl, b36⟩
                    dsimp only
                    refine hK.out _ _ ?_ (fun t34 => ?_)
                    · exact RP.low t33 b36
                    · have r37 := Row.below r32 b36
                      clear hK K
                      refine take_at (i := 20) (d := 73) (v := .string (strOf ([UInt8.ofNat kd, UInt8.ofNat cs.length] ++ four no ++ four ep ++ four lk))) rfl rfl (by kernel_rfl) (by kernel_rfl) (by kernel_rfl) (fun _ _ _ h => h) (Or.inl ⟨by rfl, ?_⟩) (by assumption) ?_
                      · intro wy hSw; go_simp
                      simp only [Act.put]
                      refine take_at (i := 21) (d := 5) (v := .string (strOf ([UInt8.ofNat kd, UInt8.ofNat cs.length] ++ four no ++ four ep ++ four lk))) rfl rfl (by kernel_rfl) (by kernel_rfl) (by kernel_rfl) (fun _ _ _ h => h) (Or.inl ⟨by rfl, ?_⟩) (by assumption) ?_
                      · intro wy hSw; go_simp
                      simp only [Act.put]
                      refine wpAnyH_done (by kernel_rfl) ?_ _
                      go_wp2_with fail
                      go_meet
                      exact ⟨rfl, t34⟩
                  exact AllReadyH.nil
                refine AllReadyH.cons rfl (fun K hK => ?_) ?_
                · go_simp
                  refine (ref_four lk _ h5).mono ?_
                  rintro e w39 ⟨rfl, b40⟩
                  dsimp only
                  refine hK.out _ _ ?_ (fun t38 => ?_)
                  · exact RP.low t29 b40
                  · have r41 := Row.below r32 b40
                    clear hK K
                    refine wpAnyH_ready (rs := [8]) (by kernel_rfl) (by simp) ?_
                    refine AllReadyH.cons rfl (fun K hK => ?_) ?_
                    · go_simp
                      refine upon_conv_back (xs := [UInt8.ofNat kd, UInt8.ofNat cs.length]) r41 rfl ?_
                      refine hK.out _ _ t38 (fun t42 => ?_)
                      clear hK K
                      refine take_at (i := 12) (d := 65) (v := .string (strOf ([UInt8.ofNat kd, UInt8.ofNat cs.length] ++ four no))) rfl rfl (by kernel_rfl) (by kernel_rfl) (by kernel_rfl) (fun _ _ _ h => h) (Or.inl ⟨by rfl, ?_⟩) (by assumption) ?_
                      · intro wy hSw; go_simp
                      simp only [Act.put]
                      refine take_at (i := 16) (d := 69) (v := .string (strOf ([UInt8.ofNat kd, UInt8.ofNat cs.length] ++ four no ++ four ep))) rfl rfl (by kernel_rfl) (by kernel_rfl) (by kernel_rfl) (fun _ _ _ h => h) (Or.inl ⟨by rfl, ?_⟩) (by assumption) ?_
                      · intro wy hSw; go_simp
                      simp only [Act.put]
                      refine take_at (i := 20) (d := 73) (v := .string (strOf ([UInt8.ofNat kd, UInt8.ofNat cs.length] ++ four no ++ four ep ++ four lk))) rfl rfl (by kernel_rfl) (by kernel_rfl) (by kernel_rfl) (fun _ _ _ h => h) (Or.inl ⟨by rfl, ?_⟩) (by assumption) ?_
                      · intro wy hSw; go_simp
                      simp only [Act.put]
                      refine take_at (i := 21) (d := 5) (v := .string (strOf ([UInt8.ofNat kd, UInt8.ofNat cs.length] ++ four no ++ four ep ++ four lk))) rfl rfl (by kernel_rfl) (by kernel_rfl) (by kernel_rfl) (fun _ _ _ h => h) (Or.inl ⟨by rfl, ?_⟩) (by assumption) ?_
                      · intro wy hSw; go_simp
                      simp only [Act.put]
                      refine wpAnyH_done (by kernel_rfl) ?_ _
                      go_wp2_with fail
                      go_meet
                      exact ⟨rfl, t42⟩
                    exact AllReadyH.nil
                exact AllReadyH.nil
            exact AllReadyH.nil
        exact AllReadyH.nil
    refine AllReadyH.cons rfl (fun K hK => ?_) ?_
    · go_simp
      refine (ref_four no _ h3).mono ?_
      rintro e w44 ⟨rfl, b45⟩
      dsimp only
      refine hK.out _ _ ?_ (fun t43 => ?_)
      · exact RP.low t0 b45
      · clear hK K
        refine wpAnyH_ready (rs := [7, 15]) (by kernel_rfl) (by simp) ?_
        refine AllReadyH.cons rfl (fun K hK => ?_) ?_
        · go_simp
          refine hK.out _ _ ?_ (fun t46 => ?_)
          · exact RP.low t43 ((Below.refl _ _).alloc (Nat.le_refl _) _)
          · have r47 := row_two w44 kd cs.length
            clear hK K
            refine wpAnyH_ready (rs := [8, 15]) (by kernel_rfl) (by simp) ?_
            refine AllReadyH.cons rfl (fun K hK => ?_) ?_
            · go_simp
              refine upon_conv_back (xs := [UInt8.ofNat kd, UInt8.ofNat cs.length]) r47 rfl ?_
              refine hK.out _ _ t46 (fun t48 => ?_)
              clear hK K
              refine take_at (i := 12) (d := 65) (v := .string (strOf ([UInt8.ofNat kd, UInt8.ofNat cs.length] ++ four no))) rfl rfl (by kernel_rfl) (by kernel_rfl) (by kernel_rfl) (fun _ _ _ h => h) (Or.inl ⟨by rfl, ?_⟩) (by assumption) ?_
              · intro wy hSw; go_simp
              simp only [Act.put]
              refine wpAnyH_ready (rs := [15]) (by kernel_rfl) (by simp) ?_
              refine AllReadyH.cons rfl (fun K hK => ?_) ?_
              · go_simp
                refine (ref_four ep _ h4).mono ?_
                rintro e w50 ⟨rfl, b51⟩
                dsimp only
                refine hK.out _ _ ?_ (fun t49 => ?_)
                · exact RP.low t48 b51
                · have r52 := Row.below r47 b51
                  clear hK K
                  refine take_at (i := 16) (d := 69) (v := .string (strOf ([UInt8.ofNat kd, UInt8.ofNat cs.length] ++ four no ++ four ep))) rfl rfl (by kernel_rfl) (by kernel_rfl) (by kernel_rfl) (fun _ _ _ h => h) (Or.inl ⟨by rfl, ?_⟩) (by assumption) ?_
                  · intro wy hSw; go_simp
                  simp only [Act.put]
                  refine wpAnyH_ready (rs := [19]) (by kernel_rfl) (by simp) ?_
                  refine AllReadyH.cons rfl (fun K hK => ?_) ?_
                  · go_simp
                    refine (ref_four lk _ h5).mono ?_
                    rintro e w54 ⟨rfl, b55⟩
                    dsimp only
                    refine hK.out _ _ ?_ (fun t53 => ?_)
                    · exact RP.low t49 b55
                    · have r56 := Row.below r52 b55
                      clear hK K
                      refine take_at (i := 20) (d := 73) (v := .string (strOf ([UInt8.ofNat kd, UInt8.ofNat cs.length] ++ four no ++ four ep ++ four lk))) rfl rfl (by kernel_rfl) (by kernel_rfl) (by kernel_rfl) (fun _ _ _ h => h) (Or.inl ⟨by rfl, ?_⟩) (by assumption) ?_
                      · intro wy hSw; go_simp
                      simp only [Act.put]
                      refine take_at (i := 21) (d := 5) (v := .string (strOf ([UInt8.ofNat kd, UInt8.ofNat cs.length] ++ four no ++ four ep ++ four lk))) rfl rfl (by kernel_rfl) (by kernel_rfl) (by kernel_rfl) (fun _ _ _ h => h) (Or.inl ⟨by rfl, ?_⟩) (by assumption) ?_
                      · intro wy hSw; go_simp
                      simp only [Act.put]
                      refine wpAnyH_done (by kernel_rfl) ?_ _
                      go_wp2_with fail
                      go_meet
                      exact ⟨rfl, t53⟩
                  exact AllReadyH.nil
              exact AllReadyH.nil
            refine AllReadyH.cons rfl (fun K hK => ?_) ?_
            · go_simp
              refine (ref_four ep _ h4).mono ?_
              rintro e w58 ⟨rfl, b59⟩
              dsimp only
              refine hK.out _ _ ?_ (fun t57 => ?_)
              · exact RP.low t46 b59
              · have r60 := Row.below r47 b59
                clear hK K
                refine wpAnyH_ready (rs := [8, 19]) (by kernel_rfl) (by simp) ?_
                refine AllReadyH.cons rfl (fun K hK => ?_) ?_
                · go_simp
                  refine upon_conv_back (xs := [UInt8.ofNat kd, UInt8.ofNat cs.length]) r60 rfl ?_
                  refine hK.out _ _ t57 (fun t61 => ?_)
                  clear hK K
                  refine take_at (i := 12) (d := 65) (v := .string (strOf ([UInt8.ofNat kd, UInt8.ofNat cs.length] ++ four no))) rfl rfl (by kernel_rfl) (by kernel_rfl) (by kernel_rfl) (fun _ _ _ h => h) (Or.inl ⟨by rfl, ?_⟩) (by assumption) ?_
                  · intro wy hSw; go_simp
                  simp only [Act.put]
                  refine take_at (i := 16) (d := 69) (v := .string (strOf ([UInt8.ofNat kd, UInt8.ofNat cs.length] ++ four no ++ four ep))) rfl rfl (by kernel_rfl) (by kernel_rfl) (by kernel_rfl) (fun _ _ _ h => h) (Or.inl ⟨by rfl, ?_⟩) (by assumption) ?_
                  · intro wy hSw; go_simp
                  simp only [Act.put]
                  refine wpAnyH_ready (rs := [19]) (by kernel_rfl) (by simp) ?_
                  refine AllReadyH.cons rfl (fun K hK => ?_) ?_
                  · go_simp
                    refine (ref_four lk _ h5).mono ?_
                    rintro e w63 ⟨rfl, b64⟩
                    dsimp only
                    refine hK.out _ _ ?_ (fun t62 => ?_)
                    · exact RP.low t61 b64
                    · have r65 := Row.below r60 b64
                      clear hK K
                      refine take_at (i := 20) (d := 73) (v := .string (strOf ([UInt8.ofNat kd, UInt8.ofNat cs.length] ++ four no ++ four ep ++ four lk))) rfl rfl (by kernel_rfl) (by kernel_rfl) (by kernel_rfl) (fun _ _ _ h => h) (Or.inl ⟨by rfl, ?_⟩) (by assumption) ?_
                      · intro wy hSw; go_simp
                      simp only [Act.put]
                      refine take_at (i := 21) (d := 5) (v := .string (strOf ([UInt8.ofNat kd, UInt8.ofNat cs.length] ++ four no ++ four ep ++ four lk))) rfl rfl (by kernel_rfl) (by kernel_rfl) (by kernel_rfl) (fun _ _ _ h => h) (Or.inl ⟨by rfl, ?_⟩) (by assumption) ?_
                      · intro wy hSw; go_simp
                      simp only [Act.put]
                      refine wpAnyH_done (by kernel_rfl) ?_ _
                      go_wp2_with fail
                      go_meet
                      exact ⟨rfl, t62⟩
                  exact AllReadyH.nil
                refine AllReadyH.cons rfl (fun K hK => ?_) ?_
                · go_simp
                  refine (ref_four lk _ h5).mono ?_
                  rintro e w67 ⟨rfl, b68⟩
                  dsimp only
                  refine hK.out _ _ ?_ (fun t66 => ?_)
                  · exact RP.low t57 b68
                  · have r69 := Row.below r60 b68
                    clear hK K
                    refine wpAnyH_ready (rs := [8]) (by kernel_rfl) (by simp) ?_
                    refine AllReadyH.cons rfl (fun K hK => ?_) ?_
                    · go_simp
                      refine upon_conv_back (xs := [UInt8.ofNat kd, UInt8.ofNat cs.length]) r69 rfl ?_
                      refine hK.out _ _ t66 (fun t70 => ?_)
                      clear hK K
                      refine take_at (i := 12) (d := 65) (v := .string (strOf ([UInt8.ofNat kd, UInt8.ofNat cs.length] ++ four no))) rfl rfl (by kernel_rfl) (by kernel_rfl) (by kernel_rfl) (fun _ _ _ h => h) (Or.inl ⟨by rfl, ?_⟩) (by assumption) ?_
                      · intro wy hSw; go_simp
                      simp only [Act.put]
                      refine take_at (i := 16) (d := 69) (v := .string (strOf ([UInt8.ofNat kd, UInt8.ofNat cs.length] ++ four no ++ four ep))) rfl rfl (by kernel_rfl) (by kernel_rfl) (by kernel_rfl) (fun _ _ _ h => h) (Or.inl ⟨by rfl, ?_⟩) (by assumption) ?_
                      · intro wy hSw; go_simp
                      simp only [Act.put]
                      refine take_at (i := 20) (d := 73) (v := .string (strOf ([UInt8.ofNat kd, UInt8.ofNat cs.length] ++ four no ++ four ep ++ four lk))) rfl rfl (by kernel_rfl) (by kernel_rfl) (by kernel_rfl) (fun _ _ _ h => h) (Or.inl ⟨by rfl, ?_⟩) (by assumption) ?_
                      · intro wy hSw; go_simp
                      simp only [Act.put]
                      refine take_at (i := 21) (d := 5) (v := .string (strOf ([UInt8.ofNat kd, UInt8.ofNat cs.length] ++ four no ++ four ep ++ four lk))) rfl rfl (by kernel_rfl) (by kernel_rfl) (by kernel_rfl) (fun _ _ _ h => h) (Or.inl ⟨by rfl, ?_⟩) (by assumption) ?_
                      · intro wy hSw; go_simp
                      simp only [Act.put]
                      refine wpAnyH_done (by kernel_rfl) ?_ _
                      go_wp2_with fail
                      go_meet
                      exact ⟨rfl, t70⟩
                    exact AllReadyH.nil
                exact AllReadyH.nil
            exact AllReadyH.nil
        refine AllReadyH.cons rfl (fun K hK => ?_) ?_
        · go_simp
          refine (ref_four ep _ h4).mono ?_
          rintro e w72 ⟨rfl, b73⟩
          dsimp only
          refine hK.out _ _ ?_ (fun t71 => ?_)
          · exact RP.low t43 b73
          · clear hK K
            refine wpAnyH_ready (rs := [7, 19]) (by kernel_rfl) (by simp) ?_
            refine AllReadyH.cons rfl (fun K hK => ?_) ?_
            · go_simp
              refine hK.out _ _ ?_ (fun t74 => ?_)
              · exact RP.low t71 ((Below.refl _ _).alloc (Nat.le_refl _) _)
              · have r75 := row_two w72 kd cs.length
                clear hK K
                refine wpAnyH_ready (rs := [8, 19]) (by kernel_rfl) (by simp) ?_
                refine AllReadyH.cons rfl (fun K hK => ?_) ?_
                · go_simp
                  refine upon_conv_back (xs := [UInt8.ofNat kd, UInt8.ofNat cs.length]) r75 rfl ?_
                  refine hK.out _ _ t74 (fun t76 => ?_)
                  clear hK K
                  refine take_at (i := 12) (d := 65) (v := .string (strOf ([UInt8.ofNat kd, UInt8.ofNat cs.length] ++ four no))) rfl rfl (by kernel_rfl) (by kernel_rfl) (by kernel_rfl) (fun _ _ _ h => h) (Or.inl ⟨by rfl, ?_⟩) (by assumption) ?_
                  · intro wy hSw; go_simp
                  simp only [Act.put]
                  refine take_at (i := 16) (d := 69) (v := .string (strOf ([UInt8.ofNat kd, UInt8.ofNat cs.length] ++ four no ++ four ep))) rfl rfl (by kernel_rfl) (by kernel_rfl) (by kernel_rfl) (fun _ _ _ h => h) (Or.inl ⟨by rfl, ?_⟩) (by assumption) ?_
                  · intro wy hSw; go_simp
                  simp only [Act.put]
                  refine wpAnyH_ready (rs := [19]) (by kernel_rfl) (by simp) ?_
                  refine AllReadyH.cons rfl (fun K hK => ?_) ?_
                  · go_simp
                    refine (ref_four lk _ h5).mono ?_
                    rintro e w78 ⟨rfl, b79⟩
                    dsimp only
                    refine hK.out _ _ ?_ (fun t77 => ?_)
                    · exact RP.low t76 b79
                    · have r80 := Row.below r75 b79
                      clear hK K
                      refine take_at (i := 20) (d := 73) (v := .string (strOf ([UInt8.ofNat kd, UInt8.ofNat cs.length] ++ four no ++ four ep ++ four lk))) rfl rfl (by kernel_rfl) (by kernel_rfl) (by kernel_rfl) (fun _ _ _ h => h) (Or.inl ⟨by rfl, ?_⟩) (by assumption) ?_
                      · intro wy hSw; go_simp
                      simp only [Act.put]
                      refine take_at (i := 21) (d := 5) (v := .string (strOf ([UInt8.ofNat kd, UInt8.ofNat cs.length] ++ four no ++ four ep ++ four lk))) rfl rfl (by kernel_rfl) (by kernel_rfl) (by kernel_rfl) (fun _ _ _ h => h) (Or.inl ⟨by rfl, ?_⟩) (by assumption) ?_
                      · intro wy hSw; go_simp
                      simp only [Act.put]
                      refine wpAnyH_done (by kernel_rfl) ?_ _
                      go_wp2_with fail
                      go_meet
                      exact ⟨rfl, t77⟩
                  exact AllReadyH.nil
                refine AllReadyH.cons rfl (fun K hK => ?_) ?_
                · go_simp
                  refine (ref_four lk _ h5).mono ?_
                  rintro e w82 ⟨rfl, b83⟩
                  dsimp only
                  refine hK.out _ _ ?_ (fun t81 => ?_)
                  · exact RP.low t74 b83
                  · have r84 := Row.below r75 b83
                    clear hK K
                    refine wpAnyH_ready (rs := [8]) (by kernel_rfl) (by simp) ?_
                    refine AllReadyH.cons rfl (fun K hK => ?_) ?_
                    · go_simp
                      refine upon_conv_back (xs := [UInt8.ofNat kd, UInt8.ofNat cs.length]) r84 rfl ?_
                      refine hK.out _ _ t81 (fun t85 => ?_)
                      clear hK K
                      refine take_at (i := 12) (d := 65) (v := .string (strOf ([UInt8.ofNat kd, UInt8.ofNat cs.length] ++ four no))) rfl rfl (by kernel_rfl) (by kernel_rfl) (by kernel_rfl) (fun _ _ _ h => h) (Or.inl ⟨by rfl, ?_⟩) (by assumption) ?_
                      · intro wy hSw; go_simp
                      simp only [Act.put]
                      refine take_at (i := 16) (d := 69) (v := .string (strOf ([UInt8.ofNat kd, UInt8.ofNat cs.length] ++ four no ++ four ep))) rfl rfl (by kernel_rfl) (by kernel_rfl) (by kernel_rfl) (fun _ _ _ h => h) (Or.inl ⟨by rfl, ?_⟩) (by assumption) ?_
                      · intro wy hSw; go_simp
                      simp only [Act.put]
                      refine take_at (i := 20) (d := 73) (v := .string (strOf ([UInt8.ofNat kd, UInt8.ofNat cs.length] ++ four no ++ four ep ++ four lk))) rfl rfl (by kernel_rfl) (by kernel_rfl) (by kernel_rfl) (fun _ _ _ h => h) (Or.inl ⟨by rfl, ?_⟩) (by assumption) ?_
                      · intro wy hSw; go_simp
                      simp only [Act.put]
                      refine take_at (i := 21) (d := 5) (v := .string (strOf ([UInt8.ofNat kd, UInt8.ofNat cs.length] ++ four no ++ four ep ++ four lk))) rfl rfl (by kernel_rfl) (by kernel_rfl) (by kernel_rfl) (fun _ _ _ h => h) (Or.inl ⟨by rfl, ?_⟩) (by assumption) ?_
                      · intro wy hSw; go_simp
                      simp only [Act.put]
                      refine wpAnyH_done (by kernel_rfl) ?_ _
                      go_wp2_with fail
                      go_meet
                      exact ⟨rfl, t85⟩
                    exact AllReadyH.nil
                exact AllReadyH.nil
            refine AllReadyH.cons rfl (fun K hK => ?_) ?_
            · go_simp
              refine (ref_four lk _ h5).mono ?_
              rintro e w87 ⟨rfl, b88⟩
              dsimp only
              refine hK.out _ _ ?_ (fun t86 => ?_)
              · exact RP.low t71 b88
              · clear hK K
                refine wpAnyH_ready (rs := [7]) (by kernel_rfl) (by simp) ?_
                refine AllReadyH.cons rfl (fun K hK => ?_) ?_
                · go_simp
                  refine hK.out _ _ ?_ (fun t89 => ?_)
                  · exact RP.low t86 ((Below.refl _ _).alloc (Nat.le_refl _) _)
                  · have r90 := row_two w87 kd cs.length
                    clear hK K
                    refine wpAnyH_ready (rs := [8]) (by kernel_rfl) (by simp) ?_
                    refine AllReadyH.cons rfl (fun K hK => ?_) ?_
                    · go_simp
                      refine upon_conv_back (xs := [UInt8.ofNat kd, UInt8.ofNat cs.length]) r90 rfl ?_
                      refine hK.out _ _ t89 (fun t91 => ?_)
                      clear hK K
                      refine take_at (i := 12) (d := 65) (v := .string (strOf ([UInt8.ofNat kd, UInt8.ofNat cs.length] ++ four no))) rfl rfl (by kernel_rfl) (by kernel_rfl) (by kernel_rfl) (fun _ _ _ h => h) (Or.inl ⟨by rfl, ?_⟩) (by assumption) ?_
                      · intro wy hSw; go_simp
                      simp only [Act.put]
                      refine take_at (i := 16) (d := 69) (v := .string (strOf ([UInt8.ofNat kd, UInt8.ofNat cs.length] ++ four no ++ four ep))) rfl rfl (by kernel_rfl) (by kernel_rfl) (by kernel_rfl) (fun _ _ _ h => h) (Or.inl ⟨by rfl, ?_⟩) (by assumption) ?_
                      · intro wy hSw; go_simp
                      simp only [Act.put]
                      refine take_at (i := 20) (d := 73) (v := .string (strOf ([UInt8.ofNat kd, UInt8.ofNat cs.length] ++ four no ++ four ep ++ four lk))) rfl rfl (by kernel_rfl) (by kernel_rfl) (by kernel_rfl) (fun _ _ _ h => h) (Or.inl ⟨by rfl, ?_⟩) (by assumption) ?_
                      · intro wy hSw; go_simp
                      simp only [Act.put]
                      refine take_at (i := 21) (d := 5) (v := .string (strOf ([UInt8.ofNat kd, UInt8.ofNat cs.length] ++ four no ++ four ep ++ four lk))) rfl rfl (by kernel_rfl) (by kernel_rfl) (by kernel_rfl) (fun _ _ _ h => h) (Or.inl ⟨by rfl, ?_⟩) (by assumption) ?_
                      · intro wy hSw; go_simp
                      simp only [Act.put]
                      refine wpAnyH_done (by kernel_rfl) ?_ _
                      go_wp2_with fail
                      go_meet
                      exact ⟨rfl, t91⟩
                    exact AllReadyH.nil
                exact AllReadyH.nil
            exact AllReadyH.nil
        exact AllReadyH.nil
    exact AllReadyH.nil
  case rest =>
    obtain ⟨rfl, hrp⟩ := hcut
    have RP0 := hide hrp
    clear hrp RD R0 z1 z2 z3 z4
    go_wp2_with fail
    go_loopw [5, 6, 7] (fun s t i wr => ∃ k : Nat, k ≤ cs.length ∧ i = .int .i64 k ∧ s = .string (strOf (hdr kd no ep lk cs.length ++ tb (bytesOf cs) k)) ∧ t = .string (strOf (tl ((bytesOf cs).take k))) ∧ RP w wr kd no ep lk (.slice A cs.length c)) (fun _ _ i _ => cs.length - (intOf i).toNat)
    case atStart => exact ⟨0, by omega, rfl, by rw [tb, List.append_nil], rfl, RP0.out⟩
    case round =>
      obtain ⟨k, hk, rfl, rfl, rfl, hrp⟩ := hrel
      have HP := hide hrp
      have k4 := hrp.k4
      clear hrp
      by_cases hlt : k < cs.length
      · obtain ⟨cb, co, rfl, _, hcell⟩ := (HR.out.below HP.out.below).at_ hlt
        obtain ⟨he1, he2, he3⟩ := end_step cs k hlt HRM.out
        obtain ⟨x, hx⟩ : ∃ x, x = cs[k] := ⟨_, rfl⟩
        rw [← hx] at hcell he1
        have hz2 : x.size ≤ 235 := by rw [hx]; exact HSL.out _ (List.getElem_mem hlt)
        have xl : x.data.toList.length = x.size := by simp
        have ht := tl_take (bytesOf cs) k (by rw [bytesOf_length]; exact hlt)
        rw [bytes_at cs k hlt, ← hx] at ht
        have htb : tb (bytesOf cs) (k + 1) = tb (bytesOf cs) k ++ [UInt8.ofNat (endAt cs (k + 1)), UInt8.ofNat x.size] := by
          rw [tb]
          unfold endAt
          rw [List.getD_eq_getElem?_getD, List.getElem?_eq_getElem (by rw [bytesOf_length]; exact hlt), Option.getD_some, bytes_at cs k hlt, ← hx, xl]
        have hl0 : (hdr kd no ep lk cs.length ++ tb (bytesOf cs) k).length = 14 + 2 * k := by rw [List.length_append, hdr_length, tb_length]
        have hl1 : (tl ((bytesOf cs).take (k + 1))).length = 252 - endAt cs (k + 1) := by unfold endAt; unfold endAt at he3; omega
        obtain ⟨S0, hS0⟩ : ∃ S0, S0 = hdr kd no ep lk cs.length ++ tb (bytesOf cs) k := ⟨_, rfl⟩
        obtain ⟨T0, hT0⟩ : ∃ T0, T0 = tl ((bytesOf cs).take k) := ⟨_, rfl⟩
        obtain ⟨T1, hT1⟩ : ∃ T1, T1 = tl ((bytesOf cs).take (k + 1)) := ⟨_, rfl⟩
        obtain ⟨e1, hE1⟩ : ∃ e1, e1 = endAt cs (k + 1) := ⟨_, rfl⟩
        rw [← hE1] at he1 he3 htb hl1
        rw [← hT1] at hl1 ht
        rw [← hT0] at ht ⊢
        rw [← hS0] at hl0 ⊢
        have e5 : x ++ strOf T0 = strOf T1 := by rw [str_cat, ht]
        obtain ⟨t1, ht1⟩ : ∃ t1, t1 = T1.length := ⟨_, rfl⟩
        have zT1 : (strOf T1).size = t1 := by rw [strOf_size, ht1]
        have zx : x.size + (strOf T0).size = t1 := by rw [strOf_size, ht1, ht, List.length_append, xl]
        have hei : (252 : Int) - (t1 : Int) = (e1 : Int) := by omega
        have zS : (strOf S0).size = 14 + 2 * k := by rw [strOf_size, hl0]
        have zP : (strOf [UInt8.ofNat e1, UInt8.ofNat x.size]).size = 2 := by rw [strOf_size]; rfl
        have e6 := strOf_cat S0 [UInt8.ofNat e1, UInt8.ofNat x.size]
        have cv := conv_back (c := 2) (row_two' wr e1 x.size (by omega) (by omega)) (n := 2) rfl
        have G1 := hide hT1
        have G2 := hide hS0
        have G3 := hide htb
        have G4 := hide hx
        have hls := hl0
        have hlt1 : t1 ≤ 252 := by omega
        have NW := hide (fun v1 v2 => HP.out.low ((Below.refl wr.heap.size wr).alloc (Nat.le_refl _) (.cells #[v1, v2] 5)))
        clear ht hT1 hS0 htb hx hT0 hE1 hl1 ht1 he2 xl hl0 RP0
        go_wp2_with fail
        go_roundw
        case rel => exact ⟨k + 1, by omega, by go_num, by rw [G3.out, ← List.append_assoc, ← G2.out], by rw [← G1.out], NW.out _ _⟩
        case measure => simp [intOf]; omega
      · obtain rfl : k = cs.length := by omega
        have hl0 : (hdr kd no ep lk cs.length ++ tb (bytesOf cs) cs.length).length = 14 + 2 * cs.length := by rw [List.length_append, hdr_length, tb_length]
        have hr := HRM.out
        rw [← roomL_of] at hr
        unfold roomL at hr
        have htt := tl_take_le (bytesOf cs) cs.length
        rw [bytesOf_length] at hr
        have hb0 : bodyOf kd no ep lk cs = hdr kd no ep lk cs.length ++ tb (bytesOf cs) cs.length ++ List.replicate (238 - 2 * cs.length - (tl ((bytesOf cs).take cs.length)).length) 0 ++ tl ((bytesOf cs).take cs.length) := by
          unfold bodyOf bodyTo
          simp only [List.append_assoc]
        obtain ⟨X, hX⟩ : ∃ X, X = hdr kd no ep lk cs.length ++ tb (bytesOf cs) cs.length := ⟨_, rfl⟩
        obtain ⟨T, hT⟩ : ∃ T, T = tl ((bytesOf cs).take cs.length) := ⟨_, rfl⟩
        obtain ⟨Y, hY⟩ : ∃ Y, Y = bodyOf kd no ep lk cs := ⟨_, rfl⟩
        have hYl := body_len kd no ep lk cs HRM.out
        rw [← hX] at hl0 ⊢
        rw [← hT] at htt ⊢
        rw [← hX, ← hT, ← hY] at hb0
        rw [← hY] at hYl
        obtain ⟨t, ht⟩ : ∃ t, t = T.length := ⟨_, rfl⟩
        have zT : (strOf T).size = t := by rw [strOf_size, ht]
        rw [← ht] at hb0 htt
        obtain ⟨m, hm⟩ : ∃ m, m = 238 - 2 * cs.length - t := ⟨_, rfl⟩
        rw [← hm] at hb0
        have hm2 : 14 + 2 * cs.length + m + t = 252 := by omega
        have zY : (strOf Y).size = 252 := by rw [strOf_size, hYl]
        have zZ : ∀ j, (strOf (X ++ List.replicate j 0)).size = 14 + 2 * cs.length + j := fun j => by rw [strOf_size, List.length_append, hl0, List.length_replicate]
        have e8 : strOf (X ++ List.replicate m 0) ++ strOf T = strOf Y := by rw [strOf_cat, hb0]
        have OF := ref_of (strOf Y) 
        rw [strOf_data] at OF
        have hq := Crc.crc_lt Y
        have hpg : pageOf kd no ep lk cs = Y ++ four (Crc.crc Y) := by unfold pageOf; rw [hY]
        obtain ⟨q, hqe⟩ : ∃ q, q = Crc.crc Y := ⟨_, rfl⟩
        rw [← hqe] at OF hq hpg
        have e9 := strOf_cat Y (four q)
        rw [← hpg] at e9
        have z4 : (strOf (four q)).size = 4 := by rw [strOf_size, four_length]
        have OF' := hide OF
        have ZZ := hide zZ
        have HL := hide HP.out.below
        clear OF zZ hX hT hY ht hb0 hm hYl htt hr hl0 hpg hqe RP0 HR HSL HRM HP
        go_wp2_with fail
        go_loop [5] (fun s => ∃ j, j ≤ m ∧ s = .string (strOf (X ++ List.replicate j 0))) (fun s => 252 - (match s with | .string x => x.size | _ => 0))
        case atStart => exact ⟨0, by omega, by simp⟩
        case round =>
          obtain ⟨j, hj, rfl⟩ := hrel
          have zS := ZZ.out j
          have zS1 := hide (ZZ.out (j + 1))
          have e7 := pad_step X j
          by_cases hjm : j < m
          · clear e8
            go_wp2_with fail
            go_round
            case rel => exact ⟨j + 1, by omega, rfl⟩
            case measure => show 252 - (strOf (X ++ List.replicate (j + 1) 0)).size < 252 - (strOf (X ++ List.replicate j 0)).size; rw [zS1.out, zS]; omega
          · obtain rfl : j = m := by omega
            clear e7
            go_wp2_with fail
            refine (OF'.out _ (by omega)).mono ?_
            rintro e w5 ⟨rfl, hb⟩
            have HL5 := hide (HL.out.trans (hb.mono HL.out.size))
            clear hb
            go_wp2_with fail
            refine (ref_four q _ (by omega)).mono ?_
            rintro e w6 ⟨rfl, hb⟩
            have HL6 := hide (HL5.out.trans (hb.mono HL5.out.size))
            clear hb
            go_wp2_with fail
            go_ret2
            exact ⟨rfl, HL6.out⟩
end Go.Proofs.Ytljfomgcoodjkaa
