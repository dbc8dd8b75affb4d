/- Layer 1 (nat): Sub. -/
import Derived.Test.YtnfehhblmoliaaaNat4
import Derived.Laws.Bits64b
namespace Go.Proofs.Ytnfehhblmoliaaa
open Go.RowKit Go.Maps Go.WideMaps
set_option maxRecDepth 100000
set_option linter.unusedVariables false
set_option linter.unusedSimpArgs false

theorem sub_op (x y c : Nat) (hx : x < 4294967296) (hy : y < 4294967296) (hc : c ≤ 1) : ∃ d xm q c' : Nat, IntKind.u64.wrap (IntKind.u64.wrap ((x : Int) - (y : Int)) - (c : Int)) = (d : Int) ∧ (d : Int) % 4294967296 = (xm : Int) ∧ (d : Int) / 4294967296 = (q : Int) ∧ bits .and .u64 (q : Int) 1 = (c' : Int) ∧ c' ≤ 1 ∧ xm < 4294967296 ∧ xm + y + c = x + 4294967296 * c' := by
  by_cases h : y + c ≤ x
  · refine ⟨x - y - c, x - y - c, 0, 0, ?_, ?_, ?_, ?_, by omega, by omega, by omega⟩
    · rw [IntKind.wrap_u64, IntKind.wrap_u64]; omega
    · omega
    · omega
    · exact bits_and_u64_nat 0 1 (by decide) (by decide)
  · refine ⟨18446744073709551616 + x - y - c, 4294967296 + x - y - c, 4294967295, 1, ?_, ?_, ?_, ?_, by omega, by omega, by omega⟩
    · rw [IntKind.wrap_u64, IntKind.wrap_u64]; omega
    · omega
    · omega
    · exact bits_and_u64_nat 4294967295 1 (by decide) (by decide)
theorem sub_step {B k c x y xm c' : Nat} {va vb vo : Nat} (hs : xm + y + c = x + B * c') (h : vo + vb = va + B ^ k * c) : (vo + B ^ k * xm) + (vb + B ^ k * y) = (va + B ^ k * x) + B ^ (k + 1) * c' := by
  have e : B ^ k * (xm + y + c) = B ^ k * (x + B * c') := by rw [hs]
  rw [Nat.mul_add, Nat.mul_add, Nat.mul_add, ← Nat.mul_assoc, ← Nat.pow_succ] at e
  generalize B ^ k * xm = a1 at *
  generalize B ^ k * y = a2 at *
  generalize B ^ k * x = a3 at *
  generalize B ^ k * c = a4 at *
  generalize B ^ (k + 1) * c' = a5 at *
  omega
structure SubIs (W0 W : World) (l1 l2 out : List Nat) (A : Option Addr) (c k cy : Nat) : Prop where
  row : W.ownsRow W0.heap.size 50 1 (.slice A k c) k (out.map u32V)
  below : Below W0.heap.size W0 W
  len : out.length = k
  lt : ∀ x ∈ out, x < B32
  cy1 : cy ≤ 1
  val : vl B32 out + vl B32 (l2.take k) = vl B32 (l1.take k) + B32 ^ k * cy
theorem ret_cells_bool {P : Program} {fn : Func} {R : Ending → World → Prop} {tmps : Array Value} {w : World} {r : Nat} {p u : Tmp} {ty : TypeId} {v x : Value}
    (h : fn.results = #[.cell p ty, .tmp u]) (hp : tmps.getD p undef = .pointer (some ⟨r, 0, none⟩)) (hu : tmps.getD u undef = x)
    (hl : (loadVar ty ⟨r, 0, none⟩).run P w = .ok v w) (hR : R (.returned (.tuple #[v, x])) w) : bodyPost P fn R .ret ⟨tmps, []⟩ w := ret_cell_tmp1 h hp hu hl hR

set_option maxHeartbeats 8000000 in
theorem sub_any (v1 v2 : Value) (n1 n2 : Nat) (w : World) (h1 : NatIs w v1 n1) (h2 : NatIs w v2 n2) (hl1 : (dg B32 n1).length ≤ 100000) (hl2 : (dg B32 n2).length ≤ 100000) :
    Calls Try.prog 15 #[v1, v2] w fun e w' => ∃ v, e = .returned (.tuple #[v, .bool (decide (n2 ≤ n1))]) ∧ NatIs w' v (n1 - n2) ∧ Below w.heap.size w w' := by
  have HC := Lib.hid (fun (V : World) (hV : Below w.heap.size w V) => compare_any v1 v2 n1 n2 V (h1.below hV (Nat.le_refl _)) (h2.below hV (Nat.le_refl _)) hl1 hl2)
  obtain ⟨A1, c1, rfl, s1, k1⟩ := h1
  obtain ⟨A2, c2, rfl, s2, k2⟩ := h2
  have h3 := three_cells w (.cells #[.slice A1 (dg B32 n1).length c1] 26) (.cells #[.slice A2 (dg B32 n2).length c2] 26) (.cells #[.slice none 0 0] 26)
  have H3 := Lib.hid h3
  have HD := Lib.hid (And.intro (dg_lt (b := B32) (by decide) n1) (dg_lt (b := B32) (by decide) n2))
  have HV := Lib.hid (And.intro (vl_dg (b := B32) (by decide) n1) (vl_dg (b := B32) (by decide) n2))
  have HS1 := Lib.hid (s1.below h3.2.2.2.1 (Nat.le_refl _))
  have HS2 := Lib.hid (s2.below h3.2.2.2.1 (Nat.le_refl _))
  have HLT1 := Lib.hid (fun h => dg_len_lt (b := B32) (m := n1) (n := n2) (by decide) h)
  clear s1 s2 k1 k2 h3
  generalize dg B32 n1 = l1 at *
  generalize dg B32 n2 = l2 at *
  obtain ⟨f0, _⟩ := cell_facts H3.out.1
  obtain ⟨g0, _⟩ := cell_facts H3.out.2.1
  go_enter Try.func15, Try.ntmps15
  go_upto_region 1 with fail
  have HC0 := Lib.hid (HC.out _ H3.out.2.2.2.1)
  clear HC
  generalize ((w.alloc (.cells #[.slice A1 l1.length c1] 26)).alloc (.cells #[.slice A2 l2.length c2] 26)).alloc (.cells #[.slice none 0 0] 26) = Wp at *
  generalize hr : w.heap.size = r at *
  have HR := Lib.hid hr
  clear hr
  go_wp2_with fail
  refine HC0.out.mono ?_
  rintro e W0 ⟨rfl, hb0⟩
  have HB0 := Lib.hid (H3.out.2.2.2.1.trans (hb0.mono (by rw [H3.out.2.2.2.2]; omega)))
  have HS1' := Lib.hid (HS1.out.below hb0 (Nat.le_refl _))
  have HS2' := Lib.hid (HS2.out.below hb0 (Nat.le_refl _))
  have HX1 := Lib.hid (blk_below hb0 (blk_lt H3.out.1) H3.out.1)
  have HX2 := Lib.hid (blk_below hb0 (blk_lt H3.out.2.1) H3.out.2.1)
  have HX3 := Lib.hid (blk_below hb0 (blk_lt H3.out.2.2.1) H3.out.2.2.1)
  have HRS : Hid (r ≤ W0.heap.size) := Lib.hid (Nat.le_trans (by rw [H3.out.2.2.2.2]; omega) hb0.size)
  clear HC0 hb0 HS1 HS2 f0 g0 H3
  obtain ⟨f0, _⟩ := cell_facts HX1.out
  obtain ⟨g0, _⟩ := cell_facts HX2.out
  obtain ⟨q0, q1⟩ := cell_facts HX3.out
  by_cases hn : n1 < n2
  · have hc : cmpN n1 n2 = -1 := by unfold cmpN; rw [if_pos hn]
    rw [hc]
    have hd : decide (n2 ≤ n1) = false := by simp; exact hn
    have hz : n1 - n2 = 0 := by omega
    have HP := Lib.hid (cell_put HX3.out (.slice none 0 0))
    have HB := Lib.hid (HB0.out.setCell (p := ⟨r + 2, 0, none⟩) (by show r ≤ r + 2; omega) (.slice none 0 0))
    have HDD := Lib.hid hd
    have HZ := Lib.hid hz
    clear hc hd hz
    go_wp2_with fail
    refine ret_cells_bool (x := .bool false) rfl rfl rfl (load_nat HP.out) ?_
    refine ⟨_, by rw [HDD.out], ⟨none, 0, by rw [HZ.out, dg_zero]; rfl, by rw [HZ.out, dg_zero]; exact Sl1.nil _ _ _, by rw [HZ.out, dg_zero]; exact Nat.le_refl _⟩, by rw [HR.out]; exact HB.out⟩
  · have hc : ∃ z : Int, cmpN n1 n2 = z ∧ ¬ z < 0 := ⟨_, rfl, by unfold cmpN; rw [if_neg hn]; split <;> omega⟩
    obtain ⟨z, hz, hz0⟩ := hc
    rw [hz]
    have hd : decide (n2 ≤ n1) = true := by simp; omega
    have HDD := Lib.hid hd
    have HN : Hid (l2.length ≤ l1.length ∧ l1.length ≤ 100000) := Lib.hid ⟨by
      rcases Nat.lt_or_ge l1.length l2.length with h | h
      · exact absurd (HLT1.out h) hn
      · exact h, hl1⟩
    obtain ⟨W1, hmk, hown, hbel⟩ := make_u32 l1.length W0 (by omega)
    have HI : Hid (SubIs W0 W1 l1 l2 [] (some ⟨W0.heap.size, 0, none⟩) l1.length 0 0) := Lib.hid ⟨hown, hbel, rfl, by simp, by omega, by simp [vl]⟩
    have HB1 := Lib.hid hbel
    have f0' := below_cell hbel (Nat.le_refl _) f0
    clear hown hbel hz hd
    go_wp2_with fail
    clear hmk
    have F0 := Lib.hid (show ∀ V, Below W0.heap.size W0 V → V.cell? ⟨r, 0, none⟩ = some (.slice A1 l1.length c1) ∧ V.cell? ⟨r + 1, 0, none⟩ = some (.slice A2 l2.length c2) from fun V hV => ⟨below_cell hV (Nat.le_refl _) f0, below_cell hV (Nat.le_refl _) g0⟩)
    clear f0 g0 f0'
    go_loopg [6, 7, 22] l1.length (fun n v6 v7 v22 W => ∃ (k : Nat) (out : List Nat) (cy : Nat) (A : Option Addr) (c : Nat), k + n = l1.length ∧ v22 = .int .i64 (k : Int) ∧ v6 = .slice A k c ∧ v7 = .int .u64 (cy : Int) ∧ SubIs W0 W l1 l2 out A c k cy)
    case atStart => exact ⟨0, [], 0, _, _, by omega, rfl, rfl, rfl, HI.out⟩
    case round =>
      obtain ⟨k, out, cy, A, c, hk, rfl, rfl, rfl, hW⟩ := hrel
      rename World => W
      clear HI
      have HW := Lib.hid hW
      clear hW
      by_cases hlt : k < l1.length
      · have hlt' : (k : Int) < (l1.length : Int) := by omega
        have k0 : (0 : Int) ≤ (k : Int) := by omega
        have HBD := Lib.hid HW.out.below.drew
        obtain ⟨b1, o1, rfl, hcc1⟩ := HS1'.out.at k hlt
        have hxe := atL_get hlt
        have hx : l1[k] < 4294967296 := HD.out.1 _ (List.getElem_mem _)
        have hy : atL l2 k < 4294967296 := atL_lt (by decide) HD.out.2 k
        have hcy := HW.out.cy1
        obtain ⟨y, hye⟩ : ∃ y, atL l2 k = y := ⟨_, rfl⟩
        have HY := Lib.hid hye
        rw [hye] at hy
        generalize l1[k] = x at *
        have HX := Lib.hid hxe
        have hK9 : k < 9000000000000000000 := by omega
        have F1 := Lib.hid (show ∀ V, Below W0.heap.size W0 V → V.cell? ⟨r, 0, none⟩ = some (.slice (some ⟨b1, o1, none⟩) l1.length c1) ∧ V.cell? ⟨r + 1, 0, none⟩ = some (.slice A2 l2.length c2) ∧ V.cell? ⟨b1, o1 + k, none⟩ = some (.int .u32 (x : Int)) from fun V hV => ⟨(F0.out V hV).1, (F0.out V hV).2, below_cell hV (Nat.le_refl _) hcc1⟩)
        have HR2 : Hid (∀ V, Below W0.heap.size W0 V → Calls Try.prog 34 #[.agg #[.slice A2 l2.length c2], .int .i64 (k : Int)] V fun e w' => e = .returned (.int .u32 (y : Int)) ∧ Below V.heap.size V w') := Lib.hid (fun V hV => by rw [← hye]; exact at_any l2 A2 c2 k V (HS2'.out.below hV (Nat.le_refl _)) hK9)
        have wx : IntKind.u64.wrap (x : Int) = (x : Int) := IntWalk.u64_in _ (by omega)
        have wy : IntKind.u64.wrap (y : Int) = (y : Int) := IntWalk.u64_in _ (by omega)
        obtain ⟨d, xm, q, c', wd, e0, e1, e2, hcy', hxm, hsum⟩ := sub_op x y cy hx hy hcy
        have HSUM := Lib.hid hsum
        clear hxe hye hcc1 hsum
        go_wp2_with fail
        refine wp_region_held_drew (S := fun V => V.cell? ⟨r, 0, none⟩ = some (.slice (some ⟨b1, o1, none⟩) l1.length c1) ∧ V.cell? ⟨r + 1, 0, none⟩ = some (.slice A2 l2.length c2) ∧ V.cell? ⟨b1, o1 + k, none⟩ = some (.int .u32 (x : Int))) (by kernel_rfl) (by exact F1.out _ HBD.out) (fun hHeld => ?_)
        refine wpAnyH_takeD (i := 0) (oi := { dst := some 25, op := Op.fieldAddr 26 (Operand.tmp 2) 0, type := 0, pos := "nat.go:95", after := #[], guard := none }) (d := 25) (v := ?_) rfl rfl (by kernel_rfl) (by kernel_rfl) (by kernel_rfl) (fun _ _ _ h => h) (Or.inl ⟨by rfl, ?_⟩) hHeld ?_
        rotate_left
        · (intro w' hSw; (try dsimp only at hSw); go_simp; (try with_reducible rfl))
        simp only [List.setIfInBounds_toArray, List.set_cons_zero, List.set_cons_succ]
        refine wpAnyH_takeD (i := 1) (oi := { dst := some 26, op := Op.load 22 (Operand.tmp 25), type := 22, pos := "nat.go:95", after := #[{ on := 0, ground := Ground.data }], guard := none }) (d := 26) (v := ?_) rfl rfl (by kernel_rfl) (by kernel_rfl) (by kernel_rfl) (fun _ _ _ h => h) (Or.inl ⟨by rfl, ?_⟩) hHeld ?_
        rotate_left
        · (intro w' hSw; (try dsimp only at hSw); go_simp; (try with_reducible rfl))
        simp only [List.setIfInBounds_toArray, List.set_cons_zero, List.set_cons_succ]
        refine wpAnyH_takeD (i := 2) (oi := { dst := some 27, op := Op.move (Operand.tmp 8), type := 3, pos := "nat.go:95", after := #[], guard := none }) (d := 27) (v := ?_) rfl rfl (by kernel_rfl) (by kernel_rfl) (by kernel_rfl) (fun _ _ _ h => h) (Or.inl ⟨by rfl, ?_⟩) hHeld ?_
        rotate_left
        · (intro w' hSw; (try dsimp only at hSw); go_simp; (try with_reducible rfl))
        simp only [List.setIfInBounds_toArray, List.set_cons_zero, List.set_cons_succ]
        refine wpAnyH_takeD (i := 3) (oi := { dst := some 28, op := Op.indexAddr 22 (Operand.tmp 26) (Operand.tmp 27), type := 0, pos := "nat.go:95", after := #[{ on := 1, ground := Ground.data }, { on := 2, ground := Ground.data }], guard := none }) (d := 28) (v := ?_) rfl rfl (by kernel_rfl) (by kernel_rfl) (by kernel_rfl) (fun _ _ _ h => h) (Or.inl ⟨by rfl, ?_⟩) hHeld ?_
        rotate_left
        · (intro w' hSw; (try dsimp only at hSw); go_simp; (try with_reducible rfl))
        simp only [List.setIfInBounds_toArray, List.set_cons_zero, List.set_cons_succ]
        refine wpAnyH_takeD (i := 4) (oi := { dst := some 29, op := Op.load 50 (Operand.tmp 28), type := 50, pos := "nat.go:95", after := #[{ on := 3, ground := Ground.data }], guard := none }) (d := 29) (v := ?_) rfl rfl (by kernel_rfl) (by kernel_rfl) (by kernel_rfl) (fun _ _ _ h => h) (Or.inl ⟨by rfl, ?_⟩) hHeld ?_
        rotate_left
        · (intro w' hSw; (try dsimp only at hSw); go_simp; (try with_reducible rfl))
        simp only [List.setIfInBounds_toArray, List.set_cons_zero, List.set_cons_succ]
        refine wpAnyH_takeD (i := 5) (oi := { dst := some 30, op := Op.convert 50 39 (Operand.tmp 29), type := 39, pos := "nat.go:95", after := #[{ on := 4, ground := Ground.data }], guard := none }) (d := 30) (v := ?_) rfl rfl (by kernel_rfl) (by kernel_rfl) (by kernel_rfl) (fun _ _ _ h => h) (Or.inl ⟨by rfl, ?_⟩) hHeld ?_
        rotate_left
        · (intro w' hSw; (try dsimp only at hSw); go_simp; (try with_reducible rfl))
        simp only [List.setIfInBounds_toArray, List.set_cons_zero, List.set_cons_succ]
        refine wpAnyH_takeD (i := 6) (oi := { dst := some 31, op := Op.load 26 (Operand.tmp 3), type := 26, pos := "nat.go:95", after := #[], guard := none }) (d := 31) (v := ?_) rfl rfl (by kernel_rfl) (by kernel_rfl) (by kernel_rfl) (fun _ _ _ h => h) (Or.inl ⟨by rfl, ?_⟩) hHeld ?_
        rotate_left
        · (intro w' hSw; (try dsimp only at hSw); go_simp; (try with_reducible rfl))
        simp only [List.setIfInBounds_toArray, List.set_cons_zero, List.set_cons_succ]
        refine wpAnyH_takeD (i := 7) (oi := { dst := some 32, op := Op.move (Operand.tmp 8), type := 3, pos := "nat.go:95", after := #[], guard := none }) (d := 32) (v := ?_) rfl rfl (by kernel_rfl) (by kernel_rfl) (by kernel_rfl) (fun _ _ _ h => h) (Or.inl ⟨by rfl, ?_⟩) hHeld ?_
        rotate_left
        · (intro w' hSw; (try dsimp only at hSw); go_simp; (try with_reducible rfl))
        simp only [List.setIfInBounds_toArray, List.set_cons_zero, List.set_cons_succ]
        refine wpAnyH_takeD (i := 11) (oi := { dst := some 36, op := Op.move (Operand.tmp 7), type := 39, pos := "nat.go:95", after := #[], guard := none }) (d := 36) (v := ?_) rfl rfl (by kernel_rfl) (by kernel_rfl) (by kernel_rfl) (fun _ _ _ h => h) (Or.inl ⟨by rfl, ?_⟩) hHeld ?_
        rotate_left
        · (intro w' hSw; (try dsimp only at hSw); go_simp; (try with_reducible rfl))
        simp only [List.setIfInBounds_toArray, List.set_cons_zero, List.set_cons_succ]
        refine wpAnyH_ready (rs := [8]) (by kernel_rfl) (by simp) ?_
        refine AllReadyH.cons (o := { dst := some 33, op := Op.call { callee := Callee.value (Operand.func 34), args := #[Operand.tmp 31, Operand.tmp 32], argTypes := #[26, 3] }, type := 50, pos := "nat.go:95", after := #[{ on := 6, ground := Ground.data }, { on := 7, ground := Ground.data }], guard := none }) rfl (fun K hK => ?_) AllReadyH.nil
        (try go_simp)
        refine (HR2.out _ HBD.out).mono ?_; rintro e w8 ⟨rfl, hb8⟩; have HB8 := Lib.hid (HBD.out.trans (hb8.mono HBD.out.size)); have HR8 := Lib.hid (own_below (own_drew HW.out.row) hb8 (Nat.le_refl _)); have h := F1.out _ HB8.out; clear hb8
        go_wp2_with fail
        refine hK.out _ _ h (fun hHeld => ?_)
        clear hK K
        try simp only [Act.put, List.setIfInBounds_toArray, List.set_cons_zero, List.set_cons_succ]
        refine wpAnyH_takeD (i := 9) (oi := { dst := some 34, op := Op.convert 50 39 (Operand.tmp 33), type := 39, pos := "nat.go:95", after := #[{ on := 8, ground := Ground.data }], guard := none }) (d := 34) (v := ?_) rfl rfl (by kernel_rfl) (by kernel_rfl) (by kernel_rfl) (fun _ _ _ h => h) (Or.inl ⟨by rfl, ?_⟩) hHeld ?_
        rotate_left
        · (intro w' hSw; (try dsimp only at hSw); go_simp; (try with_reducible rfl))
        simp only [List.setIfInBounds_toArray, List.set_cons_zero, List.set_cons_succ]
        refine wpAnyH_takeD (i := 10) (oi := { dst := some 35, op := Op.binOp BinOp.sub 39 (Operand.tmp 30) (Operand.tmp 34) 39, type := 39, pos := "nat.go:95", after := #[{ on := 5, ground := Ground.data }, { on := 9, ground := Ground.data }], guard := none }) (d := 35) (v := ?_) rfl rfl (by kernel_rfl) (by kernel_rfl) (by kernel_rfl) (fun _ _ _ h => h) (Or.inl ⟨by rfl, ?_⟩) hHeld ?_
        rotate_left
        · (intro w' hSw; (try dsimp only at hSw); go_simp; (try with_reducible rfl))
        simp only [List.setIfInBounds_toArray, List.set_cons_zero, List.set_cons_succ]
        refine wpAnyH_takeD (i := 12) (oi := { dst := some 37, op := Op.binOp BinOp.sub 39 (Operand.tmp 35) (Operand.tmp 36) 39, type := 39, pos := "nat.go:95", after := #[{ on := 10, ground := Ground.data }, { on := 11, ground := Ground.data }], guard := none }) (d := 37) (v := ?_) rfl rfl (by kernel_rfl) (by kernel_rfl) (by kernel_rfl) (fun _ _ _ h => h) (Or.inl ⟨by rfl, ?_⟩) hHeld ?_
        rotate_left
        · (intro w' hSw; (try dsimp only at hSw); go_simp; (try with_reducible rfl))
        simp only [List.setIfInBounds_toArray, List.set_cons_zero, List.set_cons_succ]
        refine wpAnyH_takeD (i := 13) (oi := { dst := some 9, op := Op.assign (Operand.tmp 37), type := 39, pos := "nat.go:95", after := #[{ on := 12, ground := Ground.data }, { on := 8, ground := Ground.chain }, { on := 0, ground := Ground.phase }, { on := 1, ground := Ground.phase }, { on := 2, ground := Ground.phase }, { on := 3, ground := Ground.phase }, { on := 4, ground := Ground.phase }, { on := 5, ground := Ground.phase }, { on := 6, ground := Ground.phase }, { on := 7, ground := Ground.phase }, { on := 8, ground := Ground.phase }, { on := 9, ground := Ground.phase }, { on := 10, ground := Ground.phase }, { on := 11, ground := Ground.phase }, { on := 12, ground := Ground.phase }], guard := none }) (d := 9) (v := ?_) rfl rfl (by kernel_rfl) (by kernel_rfl) (by kernel_rfl) (fun _ _ _ h => h) (Or.inl ⟨by rfl, ?_⟩) hHeld ?_
        rotate_left
        · (intro w' hSw; (try dsimp only at hSw); go_simp; (try with_reducible rfl))
        simp only [List.setIfInBounds_toArray, List.set_cons_zero, List.set_cons_succ]
        refine wpAnyH_done (by kernel_rfl) ?_ _
        have HSZ := Lib.hid HB8.out.size
        have HN' := HN.out.2
        go_wp2_with (at_builtin; refine app_one (W0.heap.size) 22 50 (.int .u32 0) 1 4 [_] 1 _ _ rfl rfl Try.underlying22 info_u32 rfl (by decide) _ _ _ rfl rfl rfl (by intro u hu; simp at hu; subst hu; rfl) HR8.out (by omega) (by omega) HSZ.out ?_)
        intro v' w9 hown hg9
        have hk9 : Keep (fun g => (Value.slice A k c).ownBlock = some g) w8 w9 := Keep.of_grown hg9 (fun g hg => hg)
        obtain ⟨A9, c9, rfl⟩ := own_slice hown
        have HN9 : Hid (SubIs W0 w9 l1 l2 (out ++ [xm]) A9 c9 (k + 1) c') := Lib.hid (by
          refine ⟨by rw [List.map_append]; exact hown, HB8.out.trans (hk9.below HB8.out.size (own_base HR8.out)), by rw [List.length_append, HW.out.len]; rfl, ?_, hcy', ?_⟩
          · intro z hz
            rcases List.mem_append.1 hz with hz | hz
            · exact HW.out.lt z hz
            · simp at hz; subst hz; exact hxm
          · rw [vl_snoc, HW.out.len, vl_take_succ, vl_take_succ, HX.out, HY.out]
            exact sub_step (B := B32) HSUM.out HW.out.val)
        clear hown hg9 hk9
        have wk : IntKind.i64.wrap ((k : Int) + 1) = (k : Int) + 1 := IntWalk.i64_in _ (by omega)
        go_wp2_with fail
        go_roundg (gk - 1)
        case measure => omega
        case rel => exact ⟨k + 1, _, _, A9, c9, by omega, by simp, rfl, rfl, HN9.out⟩
      · have hke : k = l1.length := by omega
        have hlt' : ¬ (k : Int) < (l1.length : Int) := by omega
        have hv : vl B32 out = n1 - n2 := by
          have h := HW.out.val
          rw [hke, List.take_of_length_le HN.out.1, List.take_length, HV.out.1, HV.out.2] at h
          have h2 := vl_lt (b := B32) (by decide) HW.out.lt
          rw [HW.out.len, hke] at h2
          have h4 := HW.out.cy1
          rcases Nat.eq_zero_or_pos cy with h5 | h5
          · rw [h5] at h; omega
          · rw [show cy = 1 by omega, Nat.mul_one] at h; omega
        have hlen9 : k = out.length := HW.out.len.symm
        have HTR : Hid (Calls Try.prog 32 #[.slice A out.length c] W fun e w' => ∃ v, e = .returned v ∧ NatIs w' v (vl B32 out) ∧ Below W.heap.size W w') := Lib.hid (by
          refine trim_any out A c _ ?_ (by rw [← hlen9]; exact own_len HW.out.row) HW.out.lt (by rw [← hlen9]; omega)
          exact own_sl1 (base := W0.heap.size) (e := 50) (c := c) (n := k) HW.out.row)
        rw [← hlen9] at HTR
        have HVV := Lib.hid hv
        clear hlen9 hke hv
        go_wp2_with fail
        refine HTR.out.mono ?_
        rintro e w2 ⟨v, rfl, h2, b2⟩
        rw [HVV.out] at h2
        obtain ⟨A2', c2', rfl, h2, h3⟩ := h2
        have hR2 := blk_below (HW.out.below.trans (b2.mono HW.out.below.size)) (blk_lt HX3.out) HX3.out
        obtain ⟨f0, f1⟩ := cell_facts hR2
        have HP := Lib.hid (cell_put hR2 (.slice A2' (dg B32 (n1 - n2)).length c2'))
        have HQ := Lib.hid (NatIs.put ⟨A2', c2', rfl, h2, h3⟩ hR2 (sl_ne_u32 _ _ _) (.slice A2' (dg B32 (n1 - n2)).length c2'))
        have HB := Lib.hid ((HB0.out.trans ((HW.out.below.trans (b2.mono HW.out.below.size)).mono HRS.out)).setCell (p := ⟨r + 2, 0, none⟩) (by show r ≤ r + 2; omega) (.slice A2' (dg B32 (n1 - n2)).length c2'))
        clear h2 h3 b2 hR2
        go_wp2_with fail
        refine ret_cells_bool (x := .bool true) rfl rfl rfl (load_nat HP.out) ?_
        exact ⟨_, by rw [HDD.out], HQ.out, by rw [HR.out]; exact HB.out⟩
end Go.Proofs.Ytnfehhblmoliaaa
