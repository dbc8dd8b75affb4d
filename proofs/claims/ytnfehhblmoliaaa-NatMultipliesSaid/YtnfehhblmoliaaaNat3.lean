/- Layer 1 (nat): plus. -/
import Derived.Test.YtnfehhblmoliaaaNat2
import Derived.Laws.OwnMore
import Derived.Laws.MakeOwn
namespace Go.Proofs.Ytnfehhblmoliaaa
open Go.RowKit Go.Maps Go.WideMaps
set_option maxRecDepth 100000
set_option linter.unusedVariables false
set_option linter.unusedSimpArgs false

theorem plus_step {B k s c x c' : Nat} {va vb a b vo : Nat} (hs : s = a + b + c) (hx : x = s % B) (hc : c' = s / B) (h : vo + B ^ k * c = va + vb) : vo + B ^ k * x + B ^ (k + 1) * c' = (va + B ^ k * a) + (vb + B ^ k * b) := by
  have e : x + B * c' = s := by subst hx; subst hc; exact Nat.mod_add_div s B
  have e2 : B ^ k * x + B ^ (k + 1) * c' = B ^ k * (x + B * c') := by rw [Nat.mul_add, Nat.pow_succ, Nat.mul_assoc]
  rw [Nat.add_assoc, e2, e, hs, Nat.mul_add, Nat.mul_add]
  omega
/-- the worlds behind three new cells -/
theorem three_cells (w : World) (a b c : Obj) :
    (((w.alloc a).alloc b).alloc c).heap[w.heap.size]? = some a ∧ (((w.alloc a).alloc b).alloc c).heap[w.heap.size + 1]? = some b ∧ (((w.alloc a).alloc b).alloc c).heap[w.heap.size + 2]? = some c ∧ Below w.heap.size w (((w.alloc a).alloc b).alloc c) ∧ (((w.alloc a).alloc b).alloc c).heap.size = w.heap.size + 3 := by
  refine ⟨blk_alloc (blk_alloc (blk_new w a) b) c, ?_, ?_, (((Below.refl _ _).alloc (Nat.le_refl _) _).alloc (by simp) _).alloc (by simp; omega) _, by simp⟩
  · have := blk_alloc (blk_new (w.alloc a) b) c
    rwa [size_alloc] at this
  · have := blk_new ((w.alloc a).alloc b) c
    rwa [size_alloc, size_alloc] at this

theorem make_u32 (n : Nat) (w : World) (hn : n ≤ 1000000) : ∃ w', (Instr.makeSlice 22 (.int .i64 0) (.int .i64 (n : Int))).run Try.prog w = .ok (.slice (some ⟨w.heap.size, 0, none⟩) 0 n) w' ∧
    w'.ownsRow w.heap.size 50 1 (.slice (some ⟨w.heap.size, 0, none⟩) 0 n) 0 [] ∧ Below w.heap.size w w' := by
  obtain ⟨i, hi, hz0, hz1, hz2⟩ := info_parts info_u32
  obtain ⟨w', h1, h2, h3⟩ := run_makeSlice_owned (P := Try.prog) w w.heap.size 22 50 i (.int .u32 0) 1 Try.underlying22 hi hz0 hz1 .i64 .i64 n (by omega) (by rw [hz2]; omega) (by unfold maxLen; omega) (Nat.le_refl _)
  exact ⟨w', h1, h2, (Keep.of_grown (F := fun _ => False) h3 (fun k hk => by cases hk)).below (Nat.le_refl _) (fun x hx => hx.elim)⟩
structure PlusIs (W0 W : World) (l1 l2 out : List Nat) (A : Option Addr) (c k cy : Nat) : Prop where
  row : W.ownsRow W0.heap.size 50 1 (.slice A k c) k (out.map u32V)
  below : Below W0.heap.size W0 W
  len : out.length = k
  lt : ∀ x ∈ out, x < B32
  cy1 : cy ≤ 1
  val : vl B32 out + B32 ^ k * cy = vl B32 (l1.take k) + vl B32 (l2.take k)
set_option maxHeartbeats 8000000 in
theorem plus_any (v1 v2 : Value) (n1 n2 : Nat) (w : World) (h1 : NatIs w v1 n1) (h2 : NatIs w v2 n2) (hl1 : (dg B32 n1).length ≤ 100000) (hl2 : (dg B32 n2).length ≤ 100000) :
    Calls Try.prog 39 #[v1, v2] w fun e w' => ∃ v, e = .returned v ∧ NatIs w' v (n1 + n2) ∧ Below w.heap.size w w' := by
  obtain ⟨A1, c1, rfl, s1, k1⟩ := h1
  obtain ⟨A2, c2, rfl, s2, k2⟩ := h2
  have h3 := three_cells w (.cells #[.slice A1 (dg B32 n1).length c1] 26) (.cells #[.slice A2 (dg B32 n2).length c2] 26) (.cells #[.slice none 0 0] 26)
  have H3 := Lib.hid h3
  have hd1 := dg_lt (b := B32) (by decide) n1
  have hd2 := dg_lt (b := B32) (by decide) n2
  have hv1 := vl_dg (b := B32) (by decide) n1
  have hv2 := vl_dg (b := B32) (by decide) n2
  have HD := Lib.hid (And.intro hd1 hd2)
  have HV := Lib.hid (And.intro hv1 hv2)
  have HS1 := Lib.hid (s1.below h3.2.2.2.1 (Nat.le_refl _))
  have HS2 := Lib.hid (s2.below h3.2.2.2.1 (Nat.le_refl _))
  clear hd1 hd2 hv1 hv2 s1 s2 k1 k2 h3
  generalize dg B32 n1 = l1 at *
  generalize dg B32 n2 = l2 at *
  obtain ⟨N, hN⟩ : ∃ N, (if l1.length < l2.length then l2.length else l1.length) = N := ⟨_, rfl⟩
  have hmx : (if l1.length < l2.length then (l2.length : Int) else (l1.length : Int)) = (N : Int) := by rw [← hN]; split <;> rfl
  have HN : Hid (l1.length ≤ N ∧ l2.length ≤ N ∧ N ≤ 100000) := Lib.hid (by rw [← hN]; split <;> omega)
  clear hN
  obtain ⟨W1, hmk, hown, hbel⟩ := make_u32 (N + 1) (((w.alloc (.cells #[.slice A1 l1.length c1] 26)).alloc (.cells #[.slice A2 l2.length c2] 26)).alloc (.cells #[.slice none 0 0] 26)) (by have := HN.out; omega)
  rw [show ((N + 1 : Nat) : Int) = (N : Int) + 1 by omega] at hmk
  have HO := Lib.hid hown
  have HB := Lib.hid hbel
  clear hown hbel
  obtain ⟨f0, _⟩ := cell_facts H3.out.1
  obtain ⟨g0, _⟩ := cell_facts H3.out.2.1
  have wN : IntKind.i64.wrap ((N : Int) + 1) = (N : Int) + 1 := IntWalk.i64_in _ (by have := HN.out; omega)
  go_enter Try.func39, Try.ntmps39
  go_upto_region 1 with fail
  generalize ((w.alloc (.cells #[.slice A1 l1.length c1] 26)).alloc (.cells #[.slice A2 l2.length c2] 26)).alloc (.cells #[.slice none 0 0] 26) = W0 at *
  generalize hr : w.heap.size = r at *
  have HR := Lib.hid hr
  clear hr
  go_wp2_with fail
  have HI : Hid (PlusIs W0 W1 l1 l2 [] (some ⟨W0.heap.size, 0, none⟩) (N + 1) 0 0) := Lib.hid ⟨HO.out, HB.out, rfl, by simp, by omega, by simp [vl]⟩
  clear HO HB hmk hmx wN
  have F0 := Lib.hid (show ∀ V, Below W0.heap.size W0 V → V.cell? ⟨r, 0, none⟩ = some (.slice A1 l1.length c1) ∧ V.cell? ⟨r + 1, 0, none⟩ = some (.slice A2 l2.length c2) from fun V hV => ⟨below_cell hV (Nat.le_refl _) f0, below_cell hV (Nat.le_refl _) g0⟩)
  clear f0 g0
  go_loopg [6, 7, 21] N (fun n v6 v7 v21 W => ∃ (k : Nat) (out : List Nat) (cy : Nat) (A : Option Addr) (c : Nat), k + n = N ∧ v21 = .int .i64 (k : Int) ∧ v6 = .slice A k c ∧ v7 = .int .u64 (cy : Int) ∧ PlusIs W0 W l1 l2 out A c k cy)
  case atStart => exact ⟨0, [], 0, _, _, by omega, rfl, rfl, rfl, HI.out⟩
  case round =>
    obtain ⟨k, out, cy, A, c, hk, rfl, rfl, rfl, hW⟩ := hrel
    rename World => W
    clear HI
    have HW := Lib.hid hW
    clear hW
    by_cases hlt : k < N
    · have hlt' : (k : Int) < (N : Int) := by omega
      have HBD := Lib.hid HW.out.below.drew
      have hx : atL l1 k < 4294967296 := atL_lt (by decide) HD.out.1 k
      have hy : atL l2 k < 4294967296 := atL_lt (by decide) HD.out.2 k
      have hcy := HW.out.cy1
      obtain ⟨x, hxe⟩ : ∃ x, atL l1 k = x := ⟨_, rfl⟩
      obtain ⟨y, hye⟩ : ∃ y, atL l2 k = y := ⟨_, rfl⟩
      have HX := Lib.hid hxe
      have HY := Lib.hid hye
      rw [hxe] at hx
      rw [hye] at hy
      have hK9 : k < 9000000000000000000 := by have := HN.out; omega
      have HR1 : Hid (∀ V, Below W0.heap.size W0 V → Calls Try.prog 34 #[.agg #[.slice A1 l1.length c1], .int .i64 (k : Int)] V fun e w' => e = .returned (.int .u32 (x : Int)) ∧ Below V.heap.size V w') := Lib.hid (fun V hV => by rw [← hxe]; exact at_any l1 A1 c1 k V (HS1.out.below hV (Nat.le_refl _)) hK9)
      have HR2 : Hid (∀ V, Below W0.heap.size W0 V → Calls Try.prog 34 #[.agg #[.slice A2 l2.length c2], .int .i64 (k : Int)] V fun e w' => e = .returned (.int .u32 (y : Int)) ∧ Below V.heap.size V w') := Lib.hid (fun V hV => by rw [← hye]; exact at_any l2 A2 c2 k V (HS2.out.below hV (Nat.le_refl _)) hK9)
      clear hxe hye
      have wx : IntKind.u64.wrap (x : Int) = (x : Int) := IntWalk.u64_in _ (by omega)
      have wy : IntKind.u64.wrap (y : Int) = (y : Int) := IntWalk.u64_in _ (by omega)
      have ws : IntKind.u64.wrap ((x : Int) + (y : Int)) = (x : Int) + (y : Int) := IntWalk.u64_in _ (by omega)
      have wt : IntKind.u64.wrap ((x : Int) + (y : Int) + (cy : Int)) = ((x + y + cy : Nat) : Int) := by rw [IntWalk.u64_in _ (by omega)]; omega
      go_wp2_with fail
      refine wp_region_held_drew (S := fun V => V.cell? ⟨r, 0, none⟩ = some (.slice A1 l1.length c1) ∧ V.cell? ⟨r + 1, 0, none⟩ = some (.slice A2 l2.length c2)) (by kernel_rfl) (by exact F0.out _ HBD.out) (fun hHeld => ?_)
      refine wpAnyH_takeD (i := 0) (oi := { dst := some 24, op := Op.load 26 (Operand.tmp 2), type := 26, pos := "nat.go:59", after := #[], guard := none }) (d := 24) (v := ?_) rfl rfl (by kernel_rfl) (by kernel_rfl) (by kernel_rfl) (fun _ _ _ h => h) (Or.inl ⟨by rfl, ?_⟩) hHeld ?_
      rotate_left
      · (intro w' hSw; (try dsimp only at hSw); go_simp; (try with_reducible rfl))
      simp only [List.setIfInBounds_toArray, List.set_cons_zero, List.set_cons_succ]
      refine wpAnyH_takeD (i := 1) (oi := { dst := some 25, op := Op.move (Operand.tmp 8), type := 3, pos := "nat.go:59", after := #[], guard := none }) (d := 25) (v := ?_) rfl rfl (by kernel_rfl) (by kernel_rfl) (by kernel_rfl) (fun _ _ _ h => h) (Or.inl ⟨by rfl, ?_⟩) hHeld ?_
      rotate_left
      · (intro w' hSw; (try dsimp only at hSw); go_simp; (try with_reducible rfl))
      simp only [List.setIfInBounds_toArray, List.set_cons_zero, List.set_cons_succ]
      refine wpAnyH_takeD (i := 4) (oi := { dst := some 28, op := Op.load 26 (Operand.tmp 3), type := 26, pos := "nat.go:59", after := #[], guard := none }) (d := 28) (v := ?_) rfl rfl (by kernel_rfl) (by kernel_rfl) (by kernel_rfl) (fun _ _ _ h => h) (Or.inl ⟨by rfl, ?_⟩) hHeld ?_
      rotate_left
      · (intro w' hSw; (try dsimp only at hSw); go_simp; (try with_reducible rfl))
      simp only [List.setIfInBounds_toArray, List.set_cons_zero, List.set_cons_succ]
      refine wpAnyH_takeD (i := 5) (oi := { dst := some 29, op := Op.move (Operand.tmp 8), type := 3, pos := "nat.go:59", after := #[], guard := none }) (d := 29) (v := ?_) rfl rfl (by kernel_rfl) (by kernel_rfl) (by kernel_rfl) (fun _ _ _ h => h) (Or.inl ⟨by rfl, ?_⟩) hHeld ?_
      rotate_left
      · (intro w' hSw; (try dsimp only at hSw); go_simp; (try with_reducible rfl))
      simp only [List.setIfInBounds_toArray, List.set_cons_zero, List.set_cons_succ]
      refine wpAnyH_takeD (i := 9) (oi := { dst := some 33, op := Op.move (Operand.tmp 7), type := 39, pos := "nat.go:59", after := #[], guard := none }) (d := 33) (v := ?_) rfl rfl (by kernel_rfl) (by kernel_rfl) (by kernel_rfl) (fun _ _ _ h => h) (Or.inl ⟨by rfl, ?_⟩) hHeld ?_
      rotate_left
      · (intro w' hSw; (try dsimp only at hSw); go_simp; (try with_reducible rfl))
      simp only [List.setIfInBounds_toArray, List.set_cons_zero, List.set_cons_succ]
      refine wpAnyH_ready (rs := [2]) (by kernel_rfl) (by simp) ?_
      refine AllReadyH.cons (o := { dst := some 26, op := Op.call { callee := Callee.value (Operand.func 34), args := #[Operand.tmp 24, Operand.tmp 25], argTypes := #[26, 3] }, type := 50, pos := "nat.go:59", after := #[{ on := 0, ground := Ground.data }, { on := 1, ground := Ground.data }], guard := none }) rfl (fun K hK => ?_) AllReadyH.nil
      (try go_simp)
      refine (HR1.out _ HBD.out).mono ?_; rintro e w7 ⟨rfl, hb7⟩; have HB7 := Lib.hid (HBD.out.trans (hb7.mono HBD.out.size)); have HR7 := Lib.hid (own_below (own_drew HW.out.row) hb7 (Nat.le_refl _)); have h := F0.out _ HB7.out; clear hb7
      go_wp2_with fail
      refine hK.out _ _ h (fun hHeld => ?_)
      clear hK K
      try simp only [Act.put, List.setIfInBounds_toArray, List.set_cons_zero, List.set_cons_succ]
      refine wpAnyH_takeD (i := 3) (oi := { dst := some 27, op := Op.convert 50 39 (Operand.tmp 26), type := 39, pos := "nat.go:59", after := #[{ on := 2, ground := Ground.data }], guard := none }) (d := 27) (v := ?_) rfl rfl (by kernel_rfl) (by kernel_rfl) (by kernel_rfl) (fun _ _ _ h => h) (Or.inl ⟨by rfl, ?_⟩) hHeld ?_
      rotate_left
      · (intro w' hSw; (try dsimp only at hSw); go_simp; (try with_reducible rfl))
      simp only [List.setIfInBounds_toArray, List.set_cons_zero, List.set_cons_succ]
      refine wpAnyH_ready (rs := [6]) (by kernel_rfl) (by simp) ?_
      refine AllReadyH.cons (o := { dst := some 30, op := Op.call { callee := Callee.value (Operand.func 34), args := #[Operand.tmp 28, Operand.tmp 29], argTypes := #[26, 3] }, type := 50, pos := "nat.go:59", after := #[{ on := 4, ground := Ground.data }, { on := 5, ground := Ground.data }, { on := 2, ground := Ground.chain }], guard := none }) rfl (fun K hK => ?_) AllReadyH.nil
      (try go_simp)
      refine (HR2.out _ HB7.out).mono ?_; rintro e w8 ⟨rfl, hb8⟩; have HB8 := Lib.hid (HB7.out.trans (hb8.mono HB7.out.size)); have HR8 := Lib.hid (own_below HR7.out hb8 (Nat.le_refl _)); have h := F0.out _ HB8.out; clear hb8
      go_wp2_with fail
      refine hK.out _ _ h (fun hHeld => ?_)
      clear hK K
      try simp only [Act.put, List.setIfInBounds_toArray, List.set_cons_zero, List.set_cons_succ]
      refine wpAnyH_takeD (i := 7) (oi := { dst := some 31, op := Op.convert 50 39 (Operand.tmp 30), type := 39, pos := "nat.go:59", after := #[{ on := 6, ground := Ground.data }], guard := none }) (d := 31) (v := ?_) rfl rfl (by kernel_rfl) (by kernel_rfl) (by kernel_rfl) (fun _ _ _ h => h) (Or.inl ⟨by rfl, ?_⟩) hHeld ?_
      rotate_left
      · (intro w' hSw; (try dsimp only at hSw); go_simp; (try with_reducible rfl))
      simp only [List.setIfInBounds_toArray, List.set_cons_zero, List.set_cons_succ]
      refine wpAnyH_takeD (i := 8) (oi := { dst := some 32, op := Op.binOp BinOp.add 39 (Operand.tmp 27) (Operand.tmp 31) 39, type := 39, pos := "nat.go:59", after := #[{ on := 3, ground := Ground.data }, { on := 7, ground := Ground.data }], guard := none }) (d := 32) (v := ?_) rfl rfl (by kernel_rfl) (by kernel_rfl) (by kernel_rfl) (fun _ _ _ h => h) (Or.inl ⟨by rfl, ?_⟩) hHeld ?_
      rotate_left
      · (intro w' hSw; (try dsimp only at hSw); go_simp; (try with_reducible rfl))
      simp only [List.setIfInBounds_toArray, List.set_cons_zero, List.set_cons_succ]
      refine wpAnyH_takeD (i := 10) (oi := { dst := some 34, op := Op.binOp BinOp.add 39 (Operand.tmp 32) (Operand.tmp 33) 39, type := 39, pos := "nat.go:59", after := #[{ on := 8, ground := Ground.data }, { on := 9, ground := Ground.data }], guard := none }) (d := 34) (v := ?_) rfl rfl (by kernel_rfl) (by kernel_rfl) (by kernel_rfl) (fun _ _ _ h => h) (Or.inl ⟨by rfl, ?_⟩) hHeld ?_
      rotate_left
      · (intro w' hSw; (try dsimp only at hSw); go_simp; (try with_reducible rfl))
      simp only [List.setIfInBounds_toArray, List.set_cons_zero, List.set_cons_succ]
      refine wpAnyH_takeD (i := 11) (oi := { dst := some 9, op := Op.assign (Operand.tmp 34), type := 39, pos := "nat.go:59", after := #[{ on := 10, ground := Ground.data }, { on := 6, ground := Ground.chain }, { on := 0, ground := Ground.phase }, { on := 1, ground := Ground.phase }, { on := 2, ground := Ground.phase }, { on := 3, ground := Ground.phase }, { on := 4, ground := Ground.phase }, { on := 5, ground := Ground.phase }, { on := 6, ground := Ground.phase }, { on := 7, ground := Ground.phase }, { on := 8, ground := Ground.phase }, { on := 9, ground := Ground.phase }, { on := 10, ground := Ground.phase }], guard := none }) (d := 9) (v := ?_) rfl rfl (by kernel_rfl) (by kernel_rfl) (by kernel_rfl) (fun _ _ _ h => h) (Or.inl ⟨by rfl, ?_⟩) hHeld ?_
      rotate_left
      · (intro w' hSw; (try dsimp only at hSw); go_simp; (try with_reducible rfl))
      simp only [List.setIfInBounds_toArray, List.set_cons_zero, List.set_cons_succ]
      refine wpAnyH_done (by kernel_rfl) ?_ _
      go_upto_region 8 with fail
      clear wt ws wx wy
      obtain ⟨s, hs⟩ : ∃ s, x + y + cy = s := ⟨_, rfl⟩
      rw [show ((x : Int) + (y : Int) + (cy : Int)) = (s : Int) by omega]
      obtain ⟨xm, hxme⟩ : ∃ xm, s % 4294967296 = xm := ⟨_, rfl⟩
      obtain ⟨cq, hcqe⟩ : ∃ cq, s / 4294967296 = cq := ⟨_, rfl⟩
      have e0 : (s : Int) % 4294967296 = (xm : Int) := by omega
      have e1 : (s : Int) / 4294967296 = (cq : Int) := by omega
      have hcy' : cq ≤ 1 := by omega
      have hxm : xm < 4294967296 := by omega
      have HXQ := Lib.hid (And.intro hxme hcqe)
      clear hxme hcqe
      have HSS := Lib.hid hs
      clear hs
      have HSZ := Lib.hid HB8.out.size
      have HN' := HN.out
      go_wp2_with (at_builtin; refine app_one (W0.heap.size) 22 50 (.int .u32 0) 1 4 [_] 1 _ _ rfl rfl Try.underlying22 info_u32 rfl (by decide) _ _ _ rfl rfl rfl (by intro u hu; simp at hu; subst hu; rfl) HR8.out (by omega) (by omega) HSZ.out ?_)
      intro v' w9 hown hg9

      have hk9 : Keep (fun g => (Value.slice A k c).ownBlock = some g) w8 w9 := Keep.of_grown hg9 (fun g hg => hg)
      obtain ⟨A9, c9, rfl⟩ := own_slice hown
      have HN9 : Hid (PlusIs W0 w9 l1 l2 (out ++ [xm]) A9 c9 (k + 1) cq) := Lib.hid (by
        refine ⟨by rw [List.map_append]; exact hown, HB8.out.trans (hk9.below HB8.out.size (own_base HR8.out)), by rw [List.length_append, HW.out.len]; rfl, ?_, hcy', ?_⟩
        · intro z hz
          rcases List.mem_append.1 hz with hz | hz
          · exact HW.out.lt z hz
          · simp at hz; subst hz; exact hxm
        · rw [vl_snoc, HW.out.len, vl_take_succ, vl_take_succ, HX.out, HY.out]
          exact plus_step (B := B32) HSS.out.symm HXQ.out.1.symm HXQ.out.2.symm HW.out.val)
      clear hown hg9 hk9
      have wk : IntKind.i64.wrap ((k : Int) + 1) = (k : Int) + 1 := IntWalk.i64_in _ (by omega)
      go_wp2_with fail
      go_roundg (gk - 1)
      case measure => omega
      case rel => exact ⟨k + 1, _, _, A9, c9, by omega, by simp, rfl, rfl, HN9.out⟩
    · have hke : k = N := by omega
      subst hke
      have hlt' : ¬ (k : Int) < (k : Int) := by omega
      have hcy1 := HW.out.cy1
      have e2 : (cy : Int) % 4294967296 = (cy : Int) := by omega
      have HN' := HN.out
      have HSZ := Lib.hid HW.out.below.size
      have HRW := Lib.hid HW.out.row
      have hv : vl B32 (out ++ [cy]) = n1 + n2 := by
        rw [vl_snoc, HW.out.len, HW.out.val, List.take_of_length_le HN'.1, List.take_of_length_le HN'.2.1, HV.out.1, HV.out.2]
      have HVV := Lib.hid hv
      clear hv
      go_wp2_with (at_builtin; refine app_one (W0.heap.size) 22 50 (.int .u32 0) 1 4 [_] 1 _ _ rfl rfl Try.underlying22 info_u32 rfl (by decide) _ _ _ rfl rfl rfl (by intro u hu; simp at hu; subst hu; rfl) HRW.out (by omega) (by omega) HSZ.out ?_)
      intro v' w9 hown hg9
      have hk9 : Keep (fun g => (Value.slice A k c).ownBlock = some g) W w9 := Keep.of_grown hg9 (fun g hg => hg)
      obtain ⟨A9, c9, rfl⟩ := own_slice hown
      have hb9 := HW.out.below.trans (hk9.below HW.out.below.size (own_base HRW.out))
      have hlen9 : k + 1 = (out ++ [cy]).length := by rw [List.length_append, HW.out.len]; rfl
      have HOW : Hid (Sl1 w9 A9 u32V (out ++ [cy])) := Lib.hid (by
        refine own_sl1 (base := W0.heap.size) (e := 50) (c := c9) (n := k + 1) ?_
        rw [List.map_append]; exact hown)
      have HCP := Lib.hid (own_len hown)
      have HB9 := Lib.hid hb9
      clear hown hg9 hk9 hb9
      have HTR : Hid (Calls Try.prog 32 #[.slice A9 (out ++ [cy]).length c9] w9 fun e w' => ∃ v, e = .returned v ∧ NatIs w' v (vl B32 (out ++ [cy])) ∧ Below w9.heap.size w9 w') := Lib.hid (by
        refine trim_any (out ++ [cy]) A9 c9 _ HOW.out (by rw [← hlen9]; exact HCP.out) ?_ (by rw [← hlen9]; omega)
        intro z hz
        rcases List.mem_append.1 hz with hz | hz
        · exact HW.out.lt z hz
        · simp at hz; subst hz; show z < 4294967296; omega)
      rw [← hlen9] at HTR
      clear hlen9
      go_wp2_with fail
      refine (HTR.out).mono ?_
      rintro e w2 ⟨v, rfl, h2, b2⟩
      rw [HVV.out] at h2
      obtain ⟨A2', c2', rfl, h2, h3⟩ := h2
      have hR2 := blk_below (HB9.out.trans (b2.mono HB9.out.size)) (blk_lt H3.out.2.2.1) H3.out.2.2.1
      obtain ⟨f0, f1⟩ := cell_facts hR2
      have HP := Lib.hid (cell_put hR2 (.slice A2' (dg B32 (n1 + n2)).length c2'))
      have HQ := Lib.hid (NatIs.put ⟨A2', c2', rfl, h2, h3⟩ hR2 (sl_ne_u32 _ _ _) (.slice A2' (dg B32 (n1 + n2)).length c2'))
      have HB := Lib.hid ((H3.out.2.2.2.1.trans ((HB9.out.trans (b2.mono HB9.out.size)).mono (by rw [H3.out.2.2.2.2]; omega))).setCell (p := ⟨r + 2, 0, none⟩) (by show r ≤ r + 2; omega) (.slice A2' (dg B32 (n1 + n2)).length c2'))
      clear h2 h3 b2 hR2 e2
      go_wp2_with fail
      refine ret_cell1 rfl rfl (load_nat HP.out) ?_
      exact ⟨_, rfl, HQ.out, by rw [HR.out]; exact HB.out⟩
end Go.Proofs.Ytnfehhblmoliaaa
