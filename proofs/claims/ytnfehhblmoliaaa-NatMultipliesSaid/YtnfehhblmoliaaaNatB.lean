/- Layer 1 (nat): Uint64; Divide by 0. -/
import Derived.Test.YtnfehhblmoliaaaNatA
namespace Go.Proofs.Ytnfehhblmoliaaa
open Go.RowKit Go.Maps Go.WideMaps
set_option maxRecDepth 100000
set_option linter.unusedVariables false
set_option linter.unusedSimpArgs false

theorem divide_zero (v1 : Value) (n1 : Nat) (w : World) (h1 : NatIs w v1 n1) :
    Calls Try.prog 28 #[v1, .int .u32 0] w fun e w' => ∃ v, e = .returned (.tuple #[v, .int .u32 0]) ∧ NatIs w' v 0 ∧ Below w.heap.size w w' := by
  obtain ⟨A1, c1, rfl, s1, k1⟩ := h1
  have h3 := two_cells w (.cells #[.slice A1 (dg B32 n1).length c1] 26) (.cells #[.slice none 0 0] 26)
  have H3 := Lib.hid h3
  clear s1 k1 h3
  generalize dg B32 n1 = l1 at *
  obtain ⟨f0, f1⟩ := cell_facts H3.out.2.1
  go_enter Try.func28, Try.ntmps28
  go_upto_region 1 with fail
  generalize (w.alloc (.cells #[.slice A1 l1.length c1] 26)).alloc (.cells #[.slice none 0 0] 26) = W0 at *
  generalize hr : w.heap.size = r at *
  have HR := Lib.hid hr
  clear hr
  have HP := Lib.hid (cell_put H3.out.2.1 (.slice none 0 0))
  have HB := Lib.hid (H3.out.2.2.1.setCell (p := ⟨r + 1, 0, none⟩) (by show r ≤ r + 1; omega) (.slice none 0 0))
  go_wp2_with fail
  refine ret_cells_bool (x := .int .u32 0) rfl rfl rfl (load_nat HP.out) ?_
  exact ⟨_, rfl, ⟨none, 0, by rw [dg_zero]; rfl, by rw [dg_zero]; exact Sl1.nil _ _ _, by rw [dg_zero]; exact Nat.le_refl _⟩, by rw [HR.out]; exact HB.out⟩

theorem two_limbs {n : Nat} (h : (dg B32 n).length ≤ 2) : atL (dg B32 n) 1 * 4294967296 + atL (dg B32 n) 0 = n := by
  have h1 := vl_take_succ B32 (dg B32 n) 1
  have h2 := vl_take_succ B32 (dg B32 n) 0
  rw [List.take_of_length_le h, vl_dg (by decide)] at h1
  simp only [List.take_zero, vl, Nat.pow_zero, Nat.pow_one, Nat.zero_add, Nat.one_mul] at h1 h2
  have e : B32 * atL (dg B32 n) 1 = atL (dg B32 n) 1 * 4294967296 := Nat.mul_comm _ _
  rw [e] at h1
  omega
set_option maxHeartbeats 2000000 in
theorem uint64_any (v1 : Value) (n : Nat) (w : World) (h1 : NatIs w v1 n) (hl : (dg B32 n).length ≤ 100000) :
    Calls Try.prog 22 #[v1] w fun e w' => e = .returned (.tuple #[.int .u64 (if n < 18446744073709551616 then (n : Int) else 0), .bool (decide (n < 18446744073709551616))]) ∧ Below w.heap.size w w' := by
  obtain ⟨A1, c1, rfl, s1, k1⟩ := h1
  have hb0 := (Below.refl w.heap.size w).alloc (Nat.le_refl _) (.cells #[.slice A1 (dg B32 n).length c1] 26)
  have HX := Lib.hid (blk_new w (.cells #[.slice A1 (dg B32 n).length c1] 26))
  have HS := Lib.hid (s1.below hb0 (Nat.le_refl _))
  have HB := Lib.hid hb0
  have HD := Lib.hid (dg_lt (b := B32) (by decide) n)
  have hbig : 2 < (dg B32 n).length → ¬ n < 18446744073709551616 := by
    intro h h2
    have h4 : (dg B32 n).length ≤ 2 := dg_len_le (by decide) (show n < B32 ^ 2 from h2)
    omega
  have HBIG := Lib.hid hbig
  have HSM : Hid ((dg B32 n).length ≤ 2 → n < 18446744073709551616 ∧ atL (dg B32 n) 1 * 4294967296 + atL (dg B32 n) 0 = n) := Lib.hid (fun h => ⟨by
    have h2 := lt_pow_dg (b := B32) (by decide) n
    have h3 : B32 ^ (dg B32 n).length ≤ B32 ^ 2 := Nat.pow_le_pow_right (by decide) h
    exact Nat.lt_of_lt_of_le h2 h3, two_limbs h⟩)
  clear s1 k1 hb0 hbig
  generalize dg B32 n = l at *
  obtain ⟨f0, f1⟩ := cell_facts HX.out
  by_cases hlen : 2 < l.length
  · have hlen' : (2 : Int) < (l.length : Int) := by omega
    have hn := HBIG.out hlen
    rw [if_neg hn, decide_eq_false hn]
    clear hn
    go_enter Try.func22, Try.ntmps22
    go_wp2_with fail
    refine bodyPost_ret (results_tmp2 rfl _ _ _) rfl ?_
    exact ⟨rfl, HB.out⟩
  · have hlen' : ¬ (2 : Int) < (l.length : Int) := by omega
    obtain ⟨hn, hv⟩ := HSM.out (by omega)
    rw [if_pos hn, decide_eq_true hn]
    have hx : atL l 1 < 4294967296 := atL_lt (by decide) HD.out 1
    have hy : atL l 0 < 4294967296 := atL_lt (by decide) HD.out 0
    have HR1 : Hid (∀ V, Below (w.alloc (.cells #[.slice A1 l.length c1] 26)).heap.size (w.alloc (.cells #[.slice A1 l.length c1] 26)) V → Calls Try.prog 34 #[.agg #[.slice A1 l.length c1], .int .i64 1] V fun e w' => e = .returned (.int .u32 ((atL l 1 : Nat) : Int)) ∧ Below V.heap.size V w') := Lib.hid (fun V hV => at_any l A1 c1 1 V (HS.out.below hV (Nat.le_refl _)) (by omega))
    have HR0 : Hid (∀ V, Below (w.alloc (.cells #[.slice A1 l.length c1] 26)).heap.size (w.alloc (.cells #[.slice A1 l.length c1] 26)) V → Calls Try.prog 34 #[.agg #[.slice A1 l.length c1], .int .i64 0] V fun e w' => e = .returned (.int .u32 ((atL l 0 : Nat) : Int)) ∧ Below V.heap.size V w') := Lib.hid (fun V hV => at_any l A1 c1 0 V (HS.out.below hV (Nat.le_refl _)) (by omega))
    generalize atL l 1 = x at *
    generalize atL l 0 = y at *
    subst hv
    have wx : IntKind.u64.wrap (x : Int) = (x : Int) := IntWalk.u64_in _ (by omega)
    have wy : IntKind.u64.wrap (y : Int) = (y : Int) := IntWalk.u64_in _ (by omega)
    have wsh : IntKind.u64.wrap ((x : Int) * 4294967296) = (x : Int) * 4294967296 := IntWalk.u64_in _ (by omega)
    have wo := or_u64 x y hx hy
    have HF := Lib.hid (show ∀ V, Below (w.alloc (.cells #[.slice A1 l.length c1] 26)).heap.size (w.alloc (.cells #[.slice A1 l.length c1] 26)) V → V.cell? ⟨w.heap.size, 0, none⟩ = some (.slice A1 l.length c1) from fun V hV => below_cell hV (Nat.le_refl _) f0)
    have HSZ : Hid (w.heap.size ≤ (w.alloc (.cells #[.slice A1 l.length c1] 26)).heap.size) := Lib.hid HB.out.size
    obtain ⟨t, ht⟩ : ∃ t, x * 4294967296 + y = t := ⟨_, rfl⟩
    rw [ht] at wo ⊢
    clear ht HBIG HSM hn
    go_enter Try.func22, Try.ntmps22
    go_upto_region 3 with fail
    generalize w.alloc (.cells #[.slice A1 l.length c1] 26) = W0 at *
    have HBD : Hid (Below W0.heap.size W0 W0.drew) := Lib.hid (Below.refl W0.heap.size W0).drew
    generalize hr : w.heap.size = r at HF HSZ f0 f1 ⊢
    have HR := Lib.hid hr
    clear hr
    refine wp_region_held_drew (S := fun V => V.cell? ⟨r, 0, none⟩ = some (.slice A1 l.length c1)) (by kernel_rfl) (by exact HF.out _ HBD.out) (fun hHeld => ?_)
    refine wpAnyH_takeD (i := 0) (oi := { dst := some 8, op := Op.load 26 (Operand.tmp 1), type := 26, pos := "nat.go:159", after := #[], guard := none }) (d := 8) (v := ?_) rfl rfl (by kernel_rfl) (by kernel_rfl) (by kernel_rfl) (fun _ _ _ h => h) (Or.inl ⟨by rfl, ?_⟩) hHeld ?_
    rotate_left
    · (intro w' hSw; (try dsimp only at hSw); go_simp; (try with_reducible rfl))
    simp only [List.setIfInBounds_toArray, List.set_cons_zero, List.set_cons_succ]
    refine wpAnyH_takeD (i := 4) (oi := { dst := some 12, op := Op.load 26 (Operand.tmp 1), type := 26, pos := "nat.go:159", after := #[], guard := none }) (d := 12) (v := ?_) rfl rfl (by kernel_rfl) (by kernel_rfl) (by kernel_rfl) (fun _ _ _ h => h) (Or.inl ⟨by rfl, ?_⟩) hHeld ?_
    rotate_left
    · (intro w' hSw; (try dsimp only at hSw); go_simp; (try with_reducible rfl))
    simp only [List.setIfInBounds_toArray, List.set_cons_zero, List.set_cons_succ]
    refine wpAnyH_ready (rs := [1]) (by kernel_rfl) (by simp) ?_
    refine AllReadyH.cons (o := { dst := some 9, op := Op.call { callee := Callee.value (Operand.func 34), args := #[Operand.tmp 8, Operand.const (Value.int IntKind.i64 1)], argTypes := #[26, 3] }, type := 50, pos := "nat.go:159", after := #[{ on := 0, ground := Ground.data }], guard := none }) rfl (fun K hK => ?_) AllReadyH.nil
    (try go_simp)
    refine (HR1.out _ HBD.out).mono ?_; rintro e w7 ⟨rfl, hb7⟩; have HB7 := Lib.hid (HBD.out.trans (hb7.mono HBD.out.size)); have h := HF.out _ HB7.out; clear hb7
    go_wp2_with fail
    refine hK.out _ _ h (fun hHeld => ?_)
    clear hK K
    try simp only [Act.put, List.setIfInBounds_toArray, List.set_cons_zero, List.set_cons_succ]
    refine wpAnyH_takeD (i := 2) (oi := { dst := some 10, op := Op.convert 50 39 (Operand.tmp 9), type := 39, pos := "nat.go:159", after := #[{ on := 1, ground := Ground.data }], guard := none }) (d := 10) (v := ?_) rfl rfl (by kernel_rfl) (by kernel_rfl) (by kernel_rfl) (fun _ _ _ h => h) (Or.inl ⟨by rfl, ?_⟩) hHeld ?_
    rotate_left
    · (intro w' hSw; (try dsimp only at hSw); go_simp; (try with_reducible rfl))
    simp only [List.setIfInBounds_toArray, List.set_cons_zero, List.set_cons_succ]
    refine wpAnyH_takeD (i := 3) (oi := { dst := some 11, op := Op.binOp BinOp.shl 39 (Operand.tmp 10) (Operand.const (Value.int IntKind.u64 32)) 65, type := 39, pos := "nat.go:159", after := #[{ on := 2, ground := Ground.data }], guard := none }) (d := 11) (v := ?_) rfl rfl (by kernel_rfl) (by kernel_rfl) (by kernel_rfl) (fun _ _ _ h => h) (Or.inl ⟨by rfl, ?_⟩) hHeld ?_
    rotate_left
    · (intro w' hSw; (try dsimp only at hSw); go_simp; (try with_reducible rfl))
    simp only [List.setIfInBounds_toArray, List.set_cons_zero, List.set_cons_succ]
    refine wpAnyH_ready (rs := [5]) (by kernel_rfl) (by simp) ?_
    refine AllReadyH.cons (o := { dst := some 13, op := Op.call { callee := Callee.value (Operand.func 34), args := #[Operand.tmp 12, Operand.const (Value.int IntKind.i64 0)], argTypes := #[26, 3] }, type := 50, pos := "nat.go:159", after := #[{ on := 4, ground := Ground.data }, { on := 1, ground := Ground.chain }], guard := none }) rfl (fun K hK => ?_) AllReadyH.nil
    (try go_simp)
    refine (HR0.out _ HB7.out).mono ?_; rintro e w8 ⟨rfl, hb8⟩; have HB8 := Lib.hid (HB7.out.trans (hb8.mono HB7.out.size)); have h := HF.out _ HB8.out; clear hb8
    go_wp2_with fail
    refine hK.out _ _ h (fun hHeld => ?_)
    clear hK K
    try simp only [Act.put, List.setIfInBounds_toArray, List.set_cons_zero, List.set_cons_succ]
    refine wpAnyH_takeD (i := 6) (oi := { dst := some 14, op := Op.convert 50 39 (Operand.tmp 13), type := 39, pos := "nat.go:159", after := #[{ on := 5, ground := Ground.data }], guard := none }) (d := 14) (v := ?_) rfl rfl (by kernel_rfl) (by kernel_rfl) (by kernel_rfl) (fun _ _ _ h => h) (Or.inl ⟨by rfl, ?_⟩) hHeld ?_
    rotate_left
    · (intro w' hSw; (try dsimp only at hSw); go_simp; (try with_reducible rfl))
    simp only [List.setIfInBounds_toArray, List.set_cons_zero, List.set_cons_succ]
    refine wpAnyH_takeD (i := 7) (oi := { dst := some 15, op := Op.binOp BinOp.or 39 (Operand.tmp 11) (Operand.tmp 14) 39, type := 39, pos := "nat.go:159", after := #[{ on := 3, ground := Ground.data }, { on := 6, ground := Ground.data }], guard := none }) (d := 15) (v := ?_) rfl rfl (by kernel_rfl) (by kernel_rfl) (by kernel_rfl) (fun _ _ _ h => h) (Or.inl ⟨by rfl, ?_⟩) hHeld ?_
    rotate_left
    · (intro w' hSw; (try dsimp only at hSw); go_simp; (try with_reducible rfl))
    simp only [List.setIfInBounds_toArray, List.set_cons_zero, List.set_cons_succ]
    refine wpAnyH_takeD (i := 8) (oi := { dst := some 2, op := Op.assign (Operand.tmp 15), type := 39, pos := "nat.go:159", after := #[{ on := 7, ground := Ground.data }, { on := 5, ground := Ground.chain }, { on := 0, ground := Ground.phase }, { on := 1, ground := Ground.phase }, { on := 2, ground := Ground.phase }, { on := 3, ground := Ground.phase }, { on := 4, ground := Ground.phase }, { on := 5, ground := Ground.phase }, { on := 6, ground := Ground.phase }, { on := 7, ground := Ground.phase }], guard := none }) (d := 2) (v := ?_) rfl rfl (by kernel_rfl) (by kernel_rfl) (by kernel_rfl) (fun _ _ _ h => h) (Or.inl ⟨by rfl, ?_⟩) hHeld ?_
    rotate_left
    · (intro w' hSw; (try dsimp only at hSw); go_simp; (try with_reducible rfl))
    simp only [List.setIfInBounds_toArray, List.set_cons_zero, List.set_cons_succ]
    refine wpAnyH_takeD (i := 9) (oi := { dst := some 3, op := Op.assign (Operand.const (Value.bool true)), type := 4, pos := "nat.go:159", after := #[{ on := 8, ground := Ground.chain }, { on := 0, ground := Ground.phase }, { on := 1, ground := Ground.phase }, { on := 2, ground := Ground.phase }, { on := 3, ground := Ground.phase }, { on := 4, ground := Ground.phase }, { on := 5, ground := Ground.phase }, { on := 6, ground := Ground.phase }, { on := 7, ground := Ground.phase }, { on := 8, ground := Ground.phase }], guard := none }) (d := 3) (v := ?_) rfl rfl (by kernel_rfl) (by kernel_rfl) (by kernel_rfl) (fun _ _ _ h => h) (Or.inl ⟨by rfl, ?_⟩) hHeld ?_
    rotate_left
    · (intro w' hSw; (try dsimp only at hSw); go_simp; (try with_reducible rfl))
    simp only [List.setIfInBounds_toArray, List.set_cons_zero, List.set_cons_succ]
    refine wpAnyH_done (by kernel_rfl) ?_ _
    go_wp2_with fail
    refine bodyPost_ret (results_tmp2 rfl _ _ _) rfl ?_
    exact ⟨rfl, HB.out.trans (HB8.out.mono (by rw [HR.out]; exact HSZ.out))⟩
end Go.Proofs.Ytnfehhblmoliaaa
