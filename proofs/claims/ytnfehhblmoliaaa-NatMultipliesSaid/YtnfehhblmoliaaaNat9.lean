/- Layer 1 (nat): by. -/
import Derived.Test.YtnfehhblmoliaaaNat8
namespace Go.Proofs.Ytnfehhblmoliaaa
open Go.RowKit Go.Maps Go.WideMaps
set_option maxRecDepth 100000
set_option linter.unusedVariables false
set_option linter.unusedSimpArgs false

theorem vl_take_le (b : Nat) (l : List Nat) (k : Nat) : vl b (l.take k) ≤ vl b l := by
  rcases Nat.lt_or_ge k l.length with h | h
  · rw [vl_take_drop b l k (by omega)]; exact Nat.le_add_right _ _
  · rw [List.take_of_length_le h]; exact Nat.le_refl _
theorem four_cells (w : World) (a b c d : Obj) :
    ((((w.alloc a).alloc b).alloc c).alloc d).heap[w.heap.size]? = some a ∧ ((((w.alloc a).alloc b).alloc c).alloc d).heap[w.heap.size + 1]? = some b ∧ ((((w.alloc a).alloc b).alloc c).alloc d).heap[w.heap.size + 2]? = some c ∧ ((((w.alloc a).alloc b).alloc c).alloc d).heap[w.heap.size + 3]? = some d ∧ Below w.heap.size w ((((w.alloc a).alloc b).alloc c).alloc d) := by
  obtain ⟨h1, h2, h3, h4, h5⟩ := three_cells w a b c
  refine ⟨blk_alloc h1 d, blk_alloc h2 d, blk_alloc h3 d, ?_, h4.alloc (by rw [h5]; omega) _⟩
  have := blk_new (((w.alloc a).alloc b).alloc c) d
  rwa [h5] at this
structure ByIs (w W : World) (r : Nat) (a : Value) (s : Value) (acc : Nat) : Prop where
  below : Below w.heap.size w W
  c0 : W.heap[r]? = some (.cells #[a] 26)
  c2 : W.heap[r + 2]? = some (.cells #[.slice none 0 0] 26)
  c3 : W.heap[r + 3]? = some (.cells #[s] 26)
  sl : ∀ x : Nat, s ≠ u32V x
  nat : NatIs W (.agg #[s]) acc
theorem ByIs.step {w W V : World} {r : Nat} {a s : Value} {acc : Nat} (h : ByIs w W r a s acc) (hr : w.heap.size = r) (hb : Below W.heap.size W V) : ByIs w V r a s acc :=
  ⟨h.below.trans (hb.mono h.below.size), blk_below hb (blk_lt h.c0) h.c0, blk_below hb (blk_lt h.c2) h.c2, blk_below hb (blk_lt h.c3) h.c3, h.sl, h.nat.below hb (Nat.le_refl _)⟩

set_option maxHeartbeats 8000000 in
theorem by_any (v1 v2 : Value) (n1 n2 : Nat) (w : World) (h1 : NatIs w v1 n1) (h2 : NatIs w v2 n2) (hl1 : (dg B32 n1).length ≤ 100000) (hl2 : (dg B32 n2).length ≤ 100000) (hl3 : (dg B32 (n1 * n2)).length ≤ 100000) :
    Calls Try.prog 40 #[v1, v2] w fun e w' => ∃ v, e = .returned v ∧ NatIs w' v (n1 * n2) ∧ Below w.heap.size w w' := by
  have HTM : Hid (∀ (V : World) (x : Nat), Below w.heap.size w V → x < 4294967296 → Calls Try.prog 26 #[v1, .int .u32 (x : Int)] V fun e w' => ∃ v, e = .returned v ∧ NatIs w' v (x * n1) ∧ Below V.heap.size V w') := Lib.hid (fun V x hV hx => times_any v1 n1 x V (h1.below hV (Nat.le_refl _)) hx hl1)
  obtain ⟨A1, c1, rfl, s1, k1⟩ := h1
  obtain ⟨A2, c2, rfl, s2, k2⟩ := h2
  have h4 := four_cells w (.cells #[.slice A1 (dg B32 n1).length c1] 26) (.cells #[.slice A2 (dg B32 n2).length c2] 26) (.cells #[.slice none 0 0] 26) (.cells #[.slice none 0 0] 26)
  have HD := Lib.hid (dg_lt (b := B32) (by decide) n2)
  have HV := Lib.hid (vl_dg (b := B32) (by decide) n2)
  have HSL := Lib.hid (show ∀ V, Below w.heap.size w V → Sl1 V A2 u32V (dg B32 n2) from fun V hV => s2.below hV (Nat.le_refl _))
  have HI : Hid (ByIs w ((((w.alloc (.cells #[.slice A1 (dg B32 n1).length c1] 26)).alloc (.cells #[.slice A2 (dg B32 n2).length c2] 26)).alloc (.cells #[.slice none 0 0] 26)).alloc (.cells #[.slice none 0 0] 26)) w.heap.size (.slice A1 (dg B32 n1).length c1) (.slice none 0 0) 0) :=
    Lib.hid ⟨h4.2.2.2.2, h4.1, h4.2.2.1, h4.2.2.2.1, sl_ne_u32 _ _ _, none, 0, by rw [dg_zero]; rfl, by rw [dg_zero]; exact Sl1.nil _ _ _, by rw [dg_zero]; exact Nat.le_refl _⟩
  obtain ⟨f0, _⟩ := cell_facts h4.2.1
  have HLM := Lib.hid (fun z (h : z ≤ n1 * n2) => Nat.le_trans (dg_len_mono (b := B32) (by decide) h) hl3)
  clear s1 s2 k1 k2 h4 hl3
  generalize dg B32 n1 = l1 at *
  generalize dg B32 n2 = l2 at *
  go_enter Try.func40, Try.ntmps40
  go_upto_region 2 with fail
  generalize (((w.alloc (.cells #[.slice A1 l1.length c1] 26)).alloc (.cells #[.slice A2 l2.length c2] 26)).alloc (.cells #[.slice none 0 0] 26)).alloc (.cells #[.slice none 0 0] 26) = W0 at *
  have HR0 : Hid (w.heap.size = w.heap.size) := Lib.hid rfl
  generalize hr : w.heap.size = r at HI f0 ⊢
  have HR := Lib.hid hr
  clear hr HR0
  go_wp2_with fail
  clear f0
  go_loopg [11] l2.length (fun n v11 W => ∃ (k : Nat) (s : Value), k + n = l2.length ∧ v11 = .int .i64 (k : Int) ∧ ByIs w W r (.slice A1 l1.length c1) s (n1 * vl B32 (l2.take k)))
  case atStart => exact ⟨0, _, by omega, rfl, HI.out⟩
  case round =>
    obtain ⟨k, s, hk, rfl, hW⟩ := hrel
    rename World => W
    clear HI
    have HW := Lib.hid hW
    clear hW
    by_cases hlt : k < l2.length
    · have hlt' : (k : Int) < (l2.length : Int) := by omega
      have k0 : (0 : Int) ≤ (k : Int) := by omega
      obtain ⟨b1, o1, rfl, hcc1⟩ := (HSL.out _ HW.out.below).at k hlt
      have hxe := atL_get hlt
      have hx : l2[k] < 4294967296 := HD.out _ (List.getElem_mem _)
      have htk := vl_take_succ B32 l2 k
      rw [hxe] at htk
      have hle := vl_take_le B32 l2 (k + 1)
      rw [HV.out] at hle
      generalize l2[k] = x at *
      unfold u32V at hcc1
      obtain ⟨acc, hacc⟩ : ∃ acc, n1 * vl B32 (l2.take k) = acc := ⟨_, rfl⟩
      have hsum : n1 * vl B32 (l2.take (k + 1)) = acc + x * n1 * B32 ^ k := by
        rw [htk, Nat.mul_add, hacc]
        congr 1
        rw [Nat.mul_comm (B32 ^ k) x, ← Nat.mul_assoc, Nat.mul_comm n1 x]
      have hsle : acc + x * n1 * B32 ^ k ≤ n1 * n2 := by rw [← hsum]; exact Nat.mul_le_mul_left _ hle
      have hxle : x * n1 ≤ x * n1 * B32 ^ k := Nat.le_mul_of_pos_right _ (Nat.pow_pos (by decide))
      have HL1 := Lib.hid (HLM.out (x * n1) (by omega))
      have HL2 := Lib.hid (HLM.out (x * n1 * B32 ^ k) (by omega))
      have HL3 := Lib.hid (HLM.out acc (by omega))
      have HSUM := Lib.hid hsum
      rw [hacc] at HW
      have HW1 : Hid (ByIs w W.drew r (.slice A1 l1.length c1) s acc) := Lib.hid ⟨HW.out.below.drew, blk_drew HW.out.c0, blk_drew HW.out.c2, blk_drew HW.out.c3, HW.out.sl, HW.out.nat⟩
      have HF := Lib.hid (show ∀ V, ByIs w V r (.slice A1 l1.length c1) s acc → V.cell? ⟨r, 0, none⟩ = some (.slice A1 l1.length c1) ∧ V.cell? ⟨r + 3, 0, none⟩ = some s from fun V hV => ⟨(cell_facts hV.c0).1, (cell_facts hV.c3).1⟩)
      have hk9 : k ≤ 100000 := by omega
      clear hxe htk hle hsum hsle hxle hacc HW
      go_wp2_with fail
      refine wp_region_G (D := 7) (S := fun V => V.cell? ⟨r, 0, none⟩ = some (.slice A1 l1.length c1) ∧ V.cell? ⟨r + 3, 0, none⟩ = some s) (by kernel_rfl) (by exact HF.out _ HW1.out) (fun hHeld => ?_)
      generalize W.drew = W5 at *
      refine wpAnyG_takeD (i := 0) (oi := { dst := some 16, op := Op.load 26 (Operand.tmp 5), type := 26, pos := "nat.go:126", after := #[], guard := none }) (d := 16) (v := ?_) rfl rfl (by kernel_rfl) (by kernel_rfl) (by kernel_rfl) (by kernel_rfl) (fun _ _ _ h => h) (Or.inl ⟨by rfl, ?_⟩) hHeld ?_
      rotate_left
      · (intro w' hSw; (try dsimp only at hSw); go_simp; (try with_reducible rfl))
      simp only [List.setIfInBounds_toArray, List.set_cons_zero, List.set_cons_succ]
      refine wpAnyG_takeD (i := 1) (oi := { dst := some 17, op := Op.load 26 (Operand.tmp 2), type := 26, pos := "nat.go:126", after := #[], guard := none }) (d := 17) (v := ?_) rfl rfl (by kernel_rfl) (by kernel_rfl) (by kernel_rfl) (by kernel_rfl) (fun _ _ _ h => h) (Or.inl ⟨by rfl, ?_⟩) hHeld ?_
      rotate_left
      · (intro w' hSw; (try dsimp only at hSw); go_simp; (try with_reducible rfl))
      simp only [List.setIfInBounds_toArray, List.set_cons_zero, List.set_cons_succ]
      refine wpAnyG_takeD (i := 2) (oi := { dst := some 18, op := Op.move (Operand.tmp 7), type := 50, pos := "nat.go:126", after := #[], guard := none }) (d := 18) (v := ?_) rfl rfl (by kernel_rfl) (by kernel_rfl) (by kernel_rfl) (by kernel_rfl) (fun _ _ _ h => h) (Or.inl ⟨by rfl, ?_⟩) hHeld ?_
      rotate_left
      · (intro w' hSw; (try dsimp only at hSw); go_simp; (try with_reducible rfl))
      simp only [List.setIfInBounds_toArray, List.set_cons_zero, List.set_cons_succ]
      refine wpAnyG_takeD (i := 4) (oi := { dst := some 20, op := Op.move (Operand.tmp 6), type := 3, pos := "nat.go:126", after := #[], guard := none }) (d := 20) (v := ?_) rfl rfl (by kernel_rfl) (by kernel_rfl) (by kernel_rfl) (by kernel_rfl) (fun _ _ _ h => h) (Or.inl ⟨by rfl, ?_⟩) hHeld ?_
      rotate_left
      · (intro w' hSw; (try dsimp only at hSw); go_simp; (try with_reducible rfl))
      simp only [List.setIfInBounds_toArray, List.set_cons_zero, List.set_cons_succ]
      refine wpAnyG_one (i := 3) (o := { dst := some 19, op := Op.call { callee := Callee.value (Operand.func 26), args := #[Operand.tmp 17, Operand.tmp 18], argTypes := #[26, 50] }, type := 26, pos := "nat.go:126", after := #[{ on := 1, ground := Ground.data }, { on := 2, ground := Ground.data }], guard := none }) (by kernel_rfl) rfl (by rfl) (fun K hK => ?_)
      go_simp; refine (HTM.out W5 x HW1.out.below hx).mono ?_; rintro e w3 ⟨v3, rfl, hn3, hb3⟩; have HW3 := Lib.hid (HW1.out.step HR.out hb3); have HN3 := Lib.hid hn3; have h := HF.out _ HW3.out; clear hn3 hb3
      refine hK.out _ _ h (fun hHeld => ?_)
      clear hK K
      try simp only [Act.put, List.setIfInBounds_toArray, List.set_cons_zero, List.set_cons_succ]
      refine wpAnyG_one (i := 5) (o := { dst := some 21, op := Op.call { callee := Callee.value (Operand.func 43), args := #[Operand.tmp 19, Operand.tmp 20], argTypes := #[26, 3] }, type := 26, pos := "nat.go:126", after := #[{ on := 3, ground := Ground.data }, { on := 4, ground := Ground.data }, { on := 3, ground := Ground.chain }], guard := none }) (by kernel_rfl) rfl (by rfl) (fun K hK => ?_)
      go_simp; refine (shifted_any v3 (x * n1) k w3 HN3.out hk9 HL1.out).mono ?_; rintro e w4 ⟨v4, rfl, hn4, hb4⟩; have HW4 := Lib.hid (HW3.out.step HR.out hb4); have HN4 := Lib.hid hn4; have h := HF.out _ HW4.out; clear hn4 hb4
      refine hK.out _ _ h (fun hHeld => ?_)
      clear hK K
      try simp only [Act.put, List.setIfInBounds_toArray, List.set_cons_zero, List.set_cons_succ]
      refine wpAnyG_one (i := 6) (o := { dst := some 22, op := Op.call { callee := Callee.value (Operand.func 39), args := #[Operand.tmp 16, Operand.tmp 21], argTypes := #[26, 26] }, type := 26, pos := "nat.go:126", after := #[{ on := 0, ground := Ground.data }, { on := 5, ground := Ground.data }, { on := 5, ground := Ground.chain }], guard := none }) (by kernel_rfl) rfl (by rfl) (fun K hK => ?_)
      go_simp; refine (plus_any (.agg #[s]) v4 acc (x * n1 * B32 ^ k) w4 HW4.out.nat HN4.out HL3.out HL2.out).mono ?_; rintro e w6 ⟨v6, rfl, hn6, hb6⟩; have HW6 := Lib.hid (HW4.out.step HR.out hb6); obtain ⟨A6, c6, rfl, hs6, hc6⟩ := hn6; have HN6 : Hid (NatIs w6 _ _) := Lib.hid ⟨A6, c6, rfl, hs6, hc6⟩; have h := HF.out _ HW6.out; clear hs6 hc6 hb6
      refine hK.out _ _ h (fun hHeld => ?_)
      clear hK K
      try simp only [Act.put, List.setIfInBounds_toArray, List.set_cons_zero, List.set_cons_succ]
      refine wpAnyG_last (o := { dst := none, op := Op.store 26 (Operand.tmp 5) (Operand.tmp 22), type := 0, pos := "nat.go:126", after := #[{ on := 6, ground := Ground.data }, { on := 6, ground := Ground.chain }, { on := 0, ground := Ground.phase }, { on := 1, ground := Ground.phase }, { on := 2, ground := Ground.phase }, { on := 3, ground := Ground.phase }, { on := 4, ground := Ground.phase }, { on := 5, ground := Ground.phase }, { on := 6, ground := Ground.phase }], guard := none }) (by kernel_rfl) rfl (by rfl) (fun K hK => ?_)
      obtain ⟨z0, z1⟩ := cell_facts HW6.out.c3; go_simp
      refine hK.out _ _ ?_
      clear hK K
      try simp only [Act.put, List.setIfInBounds_toArray, List.set_cons_zero, List.set_cons_succ]
      refine wpAnyG_done (by kernel_rfl) ?_ _
      have HNX : Hid (ByIs w (w6.setCell ⟨r + 3, 0, none⟩ (.slice A6 (dg B32 (acc + x * n1 * B32 ^ k)).length c6)) r (.slice A1 l1.length c1) (.slice A6 (dg B32 (acc + x * n1 * B32 ^ k)).length c6) (n1 * vl B32 (l2.take (k + 1)))) := Lib.hid (by
        have h := HW6.out
        refine ⟨h.below.setCell (p := ⟨r + 3, 0, none⟩) (by rw [HR.out]; show r ≤ r + 3; omega) _, blk_far (p := ⟨r + 3, 0, none⟩) h.c0 (by show r ≠ r + 3; omega) _, blk_far (p := ⟨r + 3, 0, none⟩) h.c2 (by show r + 2 ≠ r + 3; omega) _, cell_put h.c3 _, sl_ne_u32 _ _ _, ?_⟩
        rw [HSUM.out]
        exact NatIs.put HN6.out h.c3 h.sl _)
      have wk : IntKind.i64.wrap ((k : Int) + 1) = (k : Int) + 1 := IntWalk.i64_in _ (by omega)
      clear hHeld
      generalize Value.slice A6 (dg B32 (acc + x * n1 * B32 ^ k)).length c6 = s6 at *
      go_wp2_with fail
      go_roundg (gk - 1)
      case measure => omega
      case rel => exact ⟨k + 1, s6, by omega, by simp, HNX.out⟩
    · have hke : k = l2.length := by omega
      have hlt' : ¬ (k : Int) < (l2.length : Int) := by omega
      have HE : Hid (n1 * vl B32 (l2.take k) = n1 * n2) := Lib.hid (by rw [hke, List.take_length, HV.out])
      rw [HE.out] at HW
      clear hke
      obtain ⟨A, c, hs, h1, h2⟩ := HW.out.nat
      simp only [Value.agg.injEq, List.cons.injEq, Array.mk.injEq, and_true] at hs
      subst hs
      have HQ := Lib.hid (NatIs.put HW.out.nat HW.out.c2 (sl_ne_u32 _ _ _) (.slice A (dg B32 (n1 * n2)).length c))
      have HP := Lib.hid (cell_put HW.out.c2 (.slice A (dg B32 (n1 * n2)).length c))
      have HB := Lib.hid (HW.out.below.setCell (p := ⟨r + 2, 0, none⟩) (by rw [HR.out]; show r ≤ r + 2; omega) (.slice A (dg B32 (n1 * n2)).length c))
      obtain ⟨z0, z1⟩ := cell_facts HW.out.c2
      obtain ⟨y0, y1⟩ := cell_facts HW.out.c3
      clear h1 h2
      go_wp2_with fail
      refine ret_cell1 rfl rfl (load_nat HP.out) ?_
      exact ⟨_, rfl, HQ.out, HB.out⟩
end Go.Proofs.Ytnfehhblmoliaaa
