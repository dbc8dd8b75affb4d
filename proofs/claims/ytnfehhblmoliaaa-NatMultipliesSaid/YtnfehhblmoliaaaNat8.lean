/- Layer 1 (nat): shifted, by. -/
import Derived.Test.YtnfehhblmoliaaaNat7
namespace Go.Proofs.Ytnfehhblmoliaaa
open Go.RowKit Go.Maps Go.WideMaps
set_option maxRecDepth 100000
set_option linter.unusedVariables false
set_option linter.unusedSimpArgs false

theorem dg_len_mono {b m n : Nat} (hb : 1 < b) (h : m ≤ n) : (dg b m).length ≤ (dg b n).length := by
  rcases Nat.lt_or_ge (dg b n).length (dg b m).length with h2 | h2
  · have := dg_len_lt hb h2; omega
  · exact h2
theorem dg_shift {b : Nat} (hb : 1 < b) (n : Nat) (hn : 0 < n) (k : Nat) : dg b (n * b ^ k) = List.replicate k 0 ++ dg b n := by
  induction k with
  | zero => simp
  | succ k ih =>
    have hp : 0 < n * b ^ (k + 1) := Nat.mul_pos hn (Nat.pow_pos (by omega))
    rw [dg_pos hb hp, show n * b ^ (k + 1) = b * (n * b ^ k) by rw [Nat.pow_succ, Nat.mul_comm (b ^ k) b, Nat.mul_left_comm], Nat.mul_mod_right, Nat.mul_div_cancel_left _ (by omega), ih]
    rfl
theorem make_zcap (k n : Nat) (w : World) (hkn : k ≤ n) (hn : n ≤ 1000000) : ∃ w', (Instr.makeSlice 22 (.int .i64 (k : Int)) (.int .i64 (n : Int))).run Try.prog w = .ok (.slice (some ⟨w.heap.size, 0, none⟩) k n) w' ∧
    w'.ownsRow w.heap.size 50 1 (.slice (some ⟨w.heap.size, 0, none⟩) k n) k ((List.replicate k 0).map u32V) ∧ Below w.heap.size w w' := by
  obtain ⟨i, hi, hz0, hz1, hz2⟩ := info_parts info_u32
  have hr := run_makeSlice (P := Try.prog) w 22 50 i (.int .u32 0) Try.underlying22 hi hz0 .i64 .i64 k n (by omega) (by omega) (by rw [hz1]; simp; omega) (by rw [hz2]; omega) (by omega)
  rw [hz1] at hr
  simp only [Int.toNat_natCast] at hr
  refine ⟨_, hr, ?_, (Below.refl w.heap.size w).alloc (Nat.le_refl _) _⟩
  refine ⟨by simp, .inr ⟨w.heap.size, n, _, rfl, Nat.le_refl _, blk_new w _, hkn, by unfold maxLen; omega, by simp [madeCells], ?_⟩⟩
  rw [made_u32z, ← List.map_take, List.take_replicate]
  simp
  omega

theorem shift_rows (n1 k : Nat) (hn : 0 < n1) : dg B32 (n1 * B32 ^ k) = List.replicate k 0 ++ dg B32 n1 := dg_shift (by decide) n1 hn k
set_option maxHeartbeats 8000000 in
theorem shifted_any (v1 : Value) (n1 k : Nat) (w : World) (h1 : NatIs w v1 n1) (hk : k ≤ 100000) (hl1 : (dg B32 n1).length ≤ 100000) :
    Calls Try.prog 43 #[v1, .int .i64 (k : Int)] w fun e w' => ∃ v, e = .returned v ∧ NatIs w' v (n1 * B32 ^ k) ∧ Below w.heap.size w w' := by
  obtain ⟨A1, c1, rfl, s1, k1⟩ := h1
  have h3 := two_cells w (.cells #[.slice A1 (dg B32 n1).length c1] 26) (.cells #[.slice none 0 0] 26)
  have H3 := Lib.hid h3
  have HN := Lib.hid (show ∀ V, Below w.heap.size w V → NatIs V (.agg #[.slice A1 (dg B32 n1).length c1]) n1 from fun V hV => NatIs.below ⟨A1, c1, rfl, s1, k1⟩ hV (Nat.le_refl _))
  have HSL := Lib.hid (show ∀ V, Below w.heap.size w V → Sl1 V A1 u32V (dg B32 n1) from fun V hV => s1.below hV (Nat.le_refl _))
  clear s1 k1 h3
  obtain ⟨f0, f1⟩ := cell_facts H3.out.1
  go_enter Try.func43, Try.ntmps43
  go_upto_region 1 with fail
  generalize (w.alloc (.cells #[.slice A1 (dg B32 n1).length c1] 26)).alloc (.cells #[.slice none 0 0] 26) = W0 at *
  generalize hr : w.heap.size = r at *
  have HR := Lib.hid hr
  clear hr
  have HRS : Hid (r ≤ W0.heap.size) := Lib.hid (by rw [H3.out.2.2.2]; omega)
  go_wp2_with fail
  refine (zero_any _ n1 W0 (HN.out _ H3.out.2.2.1)).mono ?_
  rintro e W1 ⟨rfl, hb1⟩
  have HB1 := Lib.hid (H3.out.2.2.1.trans (hb1.mono HRS.out))
  have HX1 := Lib.hid (blk_below hb1 (blk_lt H3.out.1) H3.out.1)
  have HX2 := Lib.hid (blk_below hb1 (blk_lt H3.out.2.1) H3.out.2.1)
  have HRS1 : Hid (r < W1.heap.size ∧ r + 1 < W1.heap.size) := Lib.hid ⟨blk_lt HX1.out, blk_lt HX2.out⟩
  have HN1 := Lib.hid (HN.out _ HB1.out)
  clear hb1 f0 f1
  obtain ⟨f0, f1⟩ := cell_facts HX1.out
  obtain ⟨g0, g1⟩ := cell_facts HX2.out
  by_cases hz : n1 = 0
  · subst hz
    have hd : decide ((0 : Nat) = 0) = true := rfl
    rw [hd]
    have HP := Lib.hid (cell_put HX2.out (.slice A1 (dg B32 0).length c1))
    have HQ := Lib.hid (NatIs.put HN1.out HX2.out (sl_ne_u32 _ _ _) (.slice A1 (dg B32 0).length c1))
    have HB := Lib.hid (HB1.out.setCell (p := ⟨r + 1, 0, none⟩) (by show r ≤ r + 1; omega) (.slice A1 (dg B32 0).length c1))
    clear hd
    go_wp2_with fail
    refine ret_cell1 rfl rfl (load_nat HP.out) ?_
    refine ⟨_, rfl, by rw [Nat.zero_mul]; exact HQ.out, by rw [HR.out]; exact HB.out⟩
  · have hd : decide (n1 = 0) = false := by simp [hz]
    rw [hd]
    clear hd
    have HSH := Lib.hid (shift_rows n1 k (Nat.pos_of_ne_zero hz))
    have hpos : 0 < (dg B32 n1).length := List.length_pos_iff.2 (dg_ne_nil (by decide) (Nat.pos_of_ne_zero hz))
    have HFIN : Hid (∀ (V : World) (A : Option Addr) (c : Nat), (k + (dg B32 n1).length) ≤ c → Sl1 V A u32V (List.replicate k 0 ++ dg B32 n1) → NatIs V (.agg #[.slice A (k + (dg B32 n1).length) c]) (n1 * B32 ^ k)) := Lib.hid (fun V A c hc hs => ⟨A, c, by rw [HSH.out]; simp, by rw [HSH.out]; exact hs, by rw [HSH.out]; simpa using hc⟩)
    clear HSH HN1 HN
    generalize dg B32 n1 = l1 at *
    obtain ⟨W2, hmk, hown, hbel⟩ := make_zcap k (k + l1.length) W1.drew (by omega) (by omega)
    have HO := Lib.hid hown
    have HB2 := Lib.hid (HB1.out.drew.trans (hbel.mono (by show r ≤ W1.heap.size; have := HRS1.out; omega)))
    have HY1 := Lib.hid (blk_below hbel (show r < W1.drew.heap.size from HRS1.out.1) (blk_drew HX1.out))
    have HY2 := Lib.hid (blk_below hbel (show r + 1 < W1.drew.heap.size from HRS1.out.2) (blk_drew HX2.out))
    have HSL2 := Lib.hid (HSL.out _ HB2.out)
    have HLE : Hid (W1.drew.heap.size ≤ W2.heap.size) := Lib.hid hbel.size
    have HRS2 : Hid (r + 1 < W1.drew.heap.size) := Lib.hid HRS1.out.2
    rw [show ((k + l1.length : Nat) : Int) = (k : Int) + (l1.length : Int) by omega] at hmk
    have wk : IntKind.i64.wrap ((k : Int) + (l1.length : Int)) = (k : Int) + (l1.length : Int) := IntWalk.i64_in _ (by omega)
    obtain ⟨b1, o1, rfl, _⟩ := HSL2.out.at 0 hpos
    have HCC : Hid (∀ j u, (l1.map u32V)[j]? = some u → W2.cell? ((⟨b1, o1, none⟩ : Addr).add j) = some u) := Lib.hid (by
      intro j u hu
      rw [List.getElem?_map] at hu
      obtain ⟨x, hx, rfl⟩ := Option.map_eq_some_iff.1 hu
      obtain ⟨b, o, e, hc⟩ := HSL2.out j x hx
      cases e
      rw [add_plain]
      exact hc)
    clear hown hbel
    go_wp2_with fail
    refine wp_region_G (D := 11) (S := fun V => V.cell? ⟨r, 0, none⟩ = some (.slice (some ⟨b1, o1, none⟩) l1.length c1)) (by kernel_rfl) (by exact f0) (fun hHeld => ?_)
    generalize W1.drew = W1d at *
    refine wpAnyG_takeD (i := 0) (oi := { dst := some 8, op := Op.move (Operand.tmp 1), type := 3, pos := "nat.go:119", after := #[], guard := none }) (d := 8) (v := ?_) rfl rfl (by kernel_rfl) (by kernel_rfl) (by kernel_rfl) (by kernel_rfl) (fun _ _ _ h => h) (Or.inl ⟨by rfl, ?_⟩) hHeld ?_
    rotate_left
    · (intro w' hSw; (try dsimp only at hSw); go_simp; (try with_reducible rfl))
    simp only [List.setIfInBounds_toArray, List.set_cons_zero, List.set_cons_succ]
    refine wpAnyG_takeD (i := 1) (oi := { dst := some 9, op := Op.move (Operand.tmp 1), type := 3, pos := "nat.go:119", after := #[], guard := none }) (d := 9) (v := ?_) rfl rfl (by kernel_rfl) (by kernel_rfl) (by kernel_rfl) (by kernel_rfl) (fun _ _ _ h => h) (Or.inl ⟨by rfl, ?_⟩) hHeld ?_
    rotate_left
    · (intro w' hSw; (try dsimp only at hSw); go_simp; (try with_reducible rfl))
    simp only [List.setIfInBounds_toArray, List.set_cons_zero, List.set_cons_succ]
    refine wpAnyG_takeD (i := 2) (oi := { dst := some 10, op := Op.fieldAddr 26 (Operand.tmp 2) 0, type := 0, pos := "nat.go:119", after := #[], guard := none }) (d := 10) (v := ?_) rfl rfl (by kernel_rfl) (by kernel_rfl) (by kernel_rfl) (by kernel_rfl) (fun _ _ _ h => h) (Or.inl ⟨by rfl, ?_⟩) hHeld ?_
    rotate_left
    · (intro w' hSw; (try dsimp only at hSw); go_simp; (try with_reducible rfl))
    simp only [List.setIfInBounds_toArray, List.set_cons_zero, List.set_cons_succ]
    refine wpAnyG_takeD (i := 3) (oi := { dst := some 11, op := Op.load 22 (Operand.tmp 10), type := 22, pos := "nat.go:119", after := #[{ on := 2, ground := Ground.data }], guard := none }) (d := 11) (v := ?_) rfl rfl (by kernel_rfl) (by kernel_rfl) (by kernel_rfl) (by kernel_rfl) (fun _ _ _ h => h) (Or.inl ⟨by rfl, ?_⟩) hHeld ?_
    rotate_left
    · (intro w' hSw; (try dsimp only at hSw); go_simp; (try with_reducible rfl))
    simp only [List.setIfInBounds_toArray, List.set_cons_zero, List.set_cons_succ]
    refine wpAnyG_takeD (i := 4) (oi := { dst := some 12, op := Op.call { callee := Callee.builtin Builtin.len, args := #[Operand.tmp 11], argTypes := #[22] }, type := 3, pos := "nat.go:119", after := #[{ on := 3, ground := Ground.data }], guard := none }) (d := 12) (v := ?_) rfl rfl (by kernel_rfl) (by kernel_rfl) (by kernel_rfl) (by kernel_rfl) (fun _ _ _ h => h) (Or.inl ⟨by rfl, ?_⟩) hHeld ?_
    rotate_left
    · (intro w' hSw; (try dsimp only at hSw); go_simp; (try with_reducible rfl))
    simp only [List.setIfInBounds_toArray, List.set_cons_zero, List.set_cons_succ]
    refine wpAnyG_takeD (i := 5) (oi := { dst := some 13, op := Op.binOp BinOp.add 3 (Operand.tmp 9) (Operand.tmp 12) 3, type := 3, pos := "nat.go:119", after := #[{ on := 1, ground := Ground.data }, { on := 4, ground := Ground.data }], guard := none }) (d := 13) (v := ?_) rfl rfl (by kernel_rfl) (by kernel_rfl) (by kernel_rfl) (by kernel_rfl) (fun _ _ _ h => h) (Or.inl ⟨by rfl, ?_⟩) hHeld ?_
    rotate_left
    · (intro w' hSw; (try dsimp only at hSw); go_simp; (try with_reducible rfl))
    simp only [List.setIfInBounds_toArray, List.set_cons_zero, List.set_cons_succ]
    refine wpAnyG_takeD (i := 7) (oi := { dst := some 15, op := Op.fieldAddr 26 (Operand.tmp 2) 0, type := 0, pos := "nat.go:119", after := #[], guard := none }) (d := 15) (v := ?_) rfl rfl (by kernel_rfl) (by kernel_rfl) (by kernel_rfl) (by kernel_rfl) (fun _ _ _ h => h) (Or.inl ⟨by rfl, ?_⟩) hHeld ?_
    rotate_left
    · (intro w' hSw; (try dsimp only at hSw); go_simp; (try with_reducible rfl))
    simp only [List.setIfInBounds_toArray, List.set_cons_zero, List.set_cons_succ]
    refine wpAnyG_takeD (i := 8) (oi := { dst := some 16, op := Op.load 22 (Operand.tmp 15), type := 22, pos := "nat.go:119", after := #[{ on := 7, ground := Ground.data }], guard := none }) (d := 16) (v := ?_) rfl rfl (by kernel_rfl) (by kernel_rfl) (by kernel_rfl) (by kernel_rfl) (fun _ _ _ h => h) (Or.inl ⟨by rfl, ?_⟩) hHeld ?_
    rotate_left
    · (intro w' hSw; (try dsimp only at hSw); go_simp; (try with_reducible rfl))
    simp only [List.setIfInBounds_toArray, List.set_cons_zero, List.set_cons_succ]
    refine wpAnyG_one (i := 6) (o := { dst := some 14, op := Op.makeSlice 22 (Operand.tmp 8) (Operand.tmp 13), type := 22, pos := "nat.go:119", after := #[{ on := 0, ground := Ground.data }, { on := 5, ground := Ground.data }], guard := none }) (by kernel_rfl) rfl (by rfl) (fun K hK => ?_)
    go_simp; have h := (cell_facts HY1.out).1
    refine hK.out _ _ h (fun hHeld => ?_)
    clear hK K
    try simp only [Act.put, List.setIfInBounds_toArray, List.set_cons_zero, List.set_cons_succ]
    refine wpAnyG_one (i := 9) (o := { dst := some 17, op := Op.call { callee := Callee.builtin Builtin.append, args := #[Operand.tmp 14, Operand.tmp 16], argTypes := #[22, 22] }, type := 22, pos := "nat.go:119", after := #[{ on := 6, ground := Ground.data }, { on := 8, ground := Ground.data }], guard := none }) (by kernel_rfl) rfl (by rfl) (fun K hK => ?_)
    refine wp_app_list W1d.heap.size 22 50 (.int .u32 0) 1 4 (l1.map u32V) _ l1.length ⟨b1, o1, none⟩ _ _ rfl Try.underlying22 info_u32 rfl (by decide) _ k _ rfl rfl (by simp) HCC.out (one_u32 _) HO.out (by omega) (by omega) HLE.out ?_; intro v' w9 hown hg9 _; obtain ⟨A9, c9, rfl⟩ := own_slice hown; have hk9 : Keep (fun g => (Value.slice (some ⟨W1d.heap.size, 0, none⟩) k (k + l1.length)).ownBlock = some g) W2 w9 := Keep.of_grown hg9 (fun g hg => hg); have HR1 := Lib.hid (hk9.blk HY1.out (fun hg => by simp [Value.ownBlock] at hg; have := HRS2.out; omega)); have HR2 := Lib.hid (hk9.blk HY2.out (fun hg => by simp [Value.ownBlock] at hg; have := HRS2.out; omega)); have h := (cell_facts HR1.out).1
    refine hK.out _ _ h (fun hHeld => ?_)
    clear hK K
    try simp only [Act.put, List.setIfInBounds_toArray, List.set_cons_zero, List.set_cons_succ]
    refine wpAnyG_takeD (i := 10) (oi := { dst := some 18, op := Op.build 26 #[(0, Operand.tmp 17)], type := 26, pos := "nat.go:119", after := #[{ on := 9, ground := Ground.data }], guard := none }) (d := 18) (v := ?_) rfl rfl (by kernel_rfl) (by kernel_rfl) (by kernel_rfl) (by kernel_rfl) (fun _ _ _ h => h) (Or.inl ⟨by rfl, ?_⟩) hHeld ?_
    rotate_left
    · (intro w' hSw; (try dsimp only at hSw); go_simp; (try with_reducible rfl))
    simp only [List.setIfInBounds_toArray, List.set_cons_zero, List.set_cons_succ]
    refine wpAnyG_last (o := { dst := none, op := Op.store 26 (Operand.tmp 4) (Operand.tmp 18), type := 0, pos := "nat.go:119", after := #[{ on := 10, ground := Ground.data }, { on := 9, ground := Ground.chain }, { on := 0, ground := Ground.phase }, { on := 1, ground := Ground.phase }, { on := 2, ground := Ground.phase }, { on := 3, ground := Ground.phase }, { on := 4, ground := Ground.phase }, { on := 5, ground := Ground.phase }, { on := 6, ground := Ground.phase }, { on := 7, ground := Ground.phase }, { on := 8, ground := Ground.phase }, { on := 9, ground := Ground.phase }, { on := 10, ground := Ground.phase }], guard := none }) (by kernel_rfl) rfl (by rfl) (fun K hK => ?_)
    obtain ⟨z0, z1⟩ := cell_facts HR2.out; go_simp
    refine hK.out _ _ ?_
    clear hK K
    try simp only [Act.put, List.setIfInBounds_toArray, List.set_cons_zero, List.set_cons_succ]
    refine wpAnyG_done (by kernel_rfl) ?_ _
    have hrl : (k + l1.length) ≤ c9 := own_len hown
    have hsl : Sl1 w9 A9 u32V (List.replicate k 0 ++ l1) := by
      refine own_sl1 (base := W1d.heap.size) (e := 50) (c := c9) (n := k + l1.length) ?_
      rw [List.map_append]; exact hown
    have hb9 := HB2.out.trans (hk9.below (B := r) (by have := HRS2.out; have := HLE.out; omega) (fun g hg => by simp [Value.ownBlock] at hg; have := HRS2.out; omega))
    have HP := Lib.hid (cell_put HR2.out (.slice A9 (k + l1.length) c9))
    have HQ := Lib.hid (HFIN.out _ A9 c9 hrl (sl1_put HR2.out (sl_ne_u32 _ _ _) hsl (.slice A9 (k + l1.length) c9)))
    have HB := Lib.hid (hb9.setCell (p := ⟨r + 1, 0, none⟩) (by show r ≤ r + 1; omega) (.slice A9 (k + l1.length) c9))
    clear hown hg9 hk9 hrl hsl hb9
    go_wp2_with fail
    refine ret_cell1 rfl rfl (load_nat HP.out) ?_
    exact ⟨_, rfl, HQ.out, by rw [HR.out]; exact HB.out⟩
end Go.Proofs.Ytnfehhblmoliaaa
