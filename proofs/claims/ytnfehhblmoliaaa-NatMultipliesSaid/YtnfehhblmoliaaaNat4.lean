/- Layer 1 (nat): Compare. -/
import Derived.Test.YtnfehhblmoliaaaNat3
namespace Go.Proofs.Ytnfehhblmoliaaa
open Go.RowKit Go.Maps Go.WideMaps
set_option maxRecDepth 100000
set_option linter.unusedVariables false
set_option linter.unusedSimpArgs false

def cmpN (a b : Nat) : Int := if a < b then -1 else if b < a then 1 else 0
theorem nan_int (a : Int) (w : World) : Calls Try.prog 41 #[.int .i64 a] w fun e w' => e = .returned (.bool false) ∧ w' = w := by
  go_enter Try.func41, Try.ntmps41
  go_wp2_with fail
  go_ret
  exact ⟨by simp, rfl⟩
theorem nan_u32 (a : Int) (w : World) : Calls Try.prog 42 #[.int .u32 a] w fun e w' => e = .returned (.bool false) ∧ w' = w := by
  go_enter Try.func42, Try.ntmps42
  go_wp2_with fail
  go_ret
  exact ⟨by simp, rfl⟩
theorem cmp_int (a b : Nat) (w : World) : Calls Try.prog 35 #[.int .i64 (a : Int), .int .i64 (b : Int)] w fun e w' => e = .returned (.int .i64 (cmpN a b)) ∧ w' = w := by
  go_enter Try.func35, Try.ntmps35
  go_wp2_with fail
  refine (nan_int _ _).mono ?_
  rintro e w1 ⟨rfl, rfl⟩
  go_wp2_with fail
  refine (nan_int _ _).mono ?_
  rintro e w2 ⟨rfl, rfl⟩
  by_cases h1 : a < b
  · have h1' : (a : Int) < (b : Int) := by omega
    have HC : Hid (cmpN a b = -1) := Lib.hid (by unfold cmpN; rw [if_pos h1])
    go_wp2_with fail
    go_ret
    exact ⟨by rw [HC.out]; rfl, rfl⟩
  · have h1' : ¬ (a : Int) < (b : Int) := by omega
    by_cases h2 : b < a
    · have h2' : (b : Int) < (a : Int) := by omega
      have HC : Hid (cmpN a b = 1) := Lib.hid (by unfold cmpN; rw [if_neg h1, if_pos h2])
      go_wp2_with fail
      go_ret
      exact ⟨by rw [HC.out]; rfl, rfl⟩
    · have h2' : ¬ (b : Int) < (a : Int) := by omega
      have HC : Hid (cmpN a b = 0) := Lib.hid (by unfold cmpN; rw [if_neg h1, if_neg h2])
      go_wp2_with fail
      go_ret
      exact ⟨by rw [HC.out]; rfl, rfl⟩
theorem cmp_u32 (a b : Nat) (w : World) : Calls Try.prog 36 #[.int .u32 (a : Int), .int .u32 (b : Int)] w fun e w' => e = .returned (.int .i64 (cmpN a b)) ∧ w' = w := by
  go_enter Try.func36, Try.ntmps36
  go_wp2_with fail
  refine (nan_u32 _ _).mono ?_
  rintro e w1 ⟨rfl, rfl⟩
  go_wp2_with fail
  refine (nan_u32 _ _).mono ?_
  rintro e w2 ⟨rfl, rfl⟩
  by_cases h1 : a < b
  · have h1' : (a : Int) < (b : Int) := by omega
    have HC : Hid (cmpN a b = -1) := Lib.hid (by unfold cmpN; rw [if_pos h1])
    go_wp2_with fail
    go_ret
    exact ⟨by rw [HC.out]; rfl, rfl⟩
  · have h1' : ¬ (a : Int) < (b : Int) := by omega
    by_cases h2 : b < a
    · have h2' : (b : Int) < (a : Int) := by omega
      have HC : Hid (cmpN a b = 1) := Lib.hid (by unfold cmpN; rw [if_neg h1, if_pos h2])
      go_wp2_with fail
      go_ret
      exact ⟨by rw [HC.out]; rfl, rfl⟩
    · have h2' : ¬ (b : Int) < (a : Int) := by omega
      have HC : Hid (cmpN a b = 0) := Lib.hid (by unfold cmpN; rw [if_neg h1, if_neg h2])
      go_wp2_with fail
      go_ret
      exact ⟨by rw [HC.out]; rfl, rfl⟩
theorem two_cells (w : World) (a b : Obj) :
    ((w.alloc a).alloc b).heap[w.heap.size]? = some a ∧ ((w.alloc a).alloc b).heap[w.heap.size + 1]? = some b ∧ Below w.heap.size w ((w.alloc a).alloc b) ∧ ((w.alloc a).alloc b).heap.size = w.heap.size + 2 := by
  refine ⟨blk_alloc (blk_new w a) b, ?_, ((Below.refl _ _).alloc (Nat.le_refl _) _).alloc (by simp) _, by simp⟩
  have := blk_new (w.alloc a) b
  rwa [size_alloc] at this

set_option maxHeartbeats 4000000 in
theorem compare_any (v1 v2 : Value) (n1 n2 : Nat) (w : World) (h1 : NatIs w v1 n1) (h2 : NatIs w v2 n2) (hl1 : (dg B32 n1).length ≤ 100000) (hl2 : (dg B32 n2).length ≤ 100000) :
    Calls Try.prog 16 #[v1, v2] w fun e w' => e = .returned (.int .i64 (cmpN n1 n2)) ∧ Below w.heap.size w w' := by
  obtain ⟨A1, c1, rfl, s1, k1⟩ := h1
  obtain ⟨A2, c2, rfl, s2, k2⟩ := h2
  have h3 := two_cells w (.cells #[.slice A1 (dg B32 n1).length c1] 26) (.cells #[.slice A2 (dg B32 n2).length c2] 26)
  have H3 := Lib.hid h3
  have HD1 := Lib.hid (dg_lt (b := B32) (by decide) n1)
  have HD2 := Lib.hid (dg_lt (b := B32) (by decide) n2)
  have HV1 := Lib.hid (vl_dg (b := B32) (by decide) n1)
  have HV2 := Lib.hid (vl_dg (b := B32) (by decide) n2)
  have HS1 := Lib.hid (s1.below h3.2.2.1 (Nat.le_refl _))
  have HS2 := Lib.hid (s2.below h3.2.2.1 (Nat.le_refl _))
  have HLT1 := Lib.hid (fun h => dg_len_lt (b := B32) (m := n1) (n := n2) (by decide) h)
  have HLT2 := Lib.hid (fun h => dg_len_lt (b := B32) (m := n2) (n := n1) (by decide) h)
  clear s1 s2 k1 k2 h3
  generalize dg B32 n1 = l1 at *
  generalize dg B32 n2 = l2 at *
  obtain ⟨f0, _⟩ := cell_facts H3.out.1
  obtain ⟨g0, _⟩ := cell_facts H3.out.2.1
  go_enter Try.func16, Try.ntmps16
  go_upto_region 1 with fail
  generalize (w.alloc (.cells #[.slice A1 l1.length c1] 26)).alloc (.cells #[.slice A2 l2.length c2] 26) = W0 at *
  generalize hr : w.heap.size = r at *
  have HR := Lib.hid hr
  clear hr
  have HBW := Lib.hid H3.out.2.2.1
  have HRS : Hid (r ≤ W0.heap.size) := Lib.hid (by have := H3.out.2.2.2; omega)
  have F0 := Lib.hid (show ∀ V, Below W0.heap.size W0 V → V.cell? ⟨r, 0, none⟩ = some (.slice A1 l1.length c1) ∧ V.cell? ⟨r + 1, 0, none⟩ = some (.slice A2 l2.length c2) from fun V hV => ⟨below_cell hV (Nat.le_refl _) f0, below_cell hV (Nat.le_refl _) g0⟩)
  go_wp2_with fail
  refine (cmp_int l1.length l2.length _).mono ?_
  rintro e w1 ⟨rfl, rfl⟩
  rename World => W0
  rcases Nat.lt_trichotomy l1.length l2.length with hlen | hlen | hlen
  · have hc : cmpN l1.length l2.length = -1 := by unfold cmpN; rw [if_pos hlen]
    rw [hc]
    have hn := HLT1.out hlen
    have hc2 : cmpN n1 n2 = -1 := by unfold cmpN; rw [if_pos hn]
    have HC := Lib.hid hc2
    clear hc hc2
    go_wp2_with fail
    go_ret
    exact ⟨by rw [HC.out]; rfl, by rw [HR.out]; exact HBW.out⟩
  · have hc : cmpN l1.length l2.length = 0 := by unfold cmpN; rw [if_neg (by omega), if_neg (by omega)]
    rw [hc]
    clear hc
    have HLN := Lib.hid hlen
    have hl : (l2.length : Int) = (l1.length : Int) := by omega
    clear hlen
    have wl : IntKind.i64.wrap ((l1.length : Int) - 1) = (l1.length : Int) - 1 := IntWalk.i64_in _ (by omega)
    have HI := Lib.hid (Below.refl W0.heap.size W0)
    go_wp2_with fail
    clear wl f0 g0 hl
    go_loopg [6] l1.length (fun m v W => ∃ (j : Nat) (i : Int), j = m ∧ v = .int .i64 i ∧ i = (j : Int) - 1 ∧ j ≤ l1.length ∧ vl B32 (l1.drop j) = vl B32 (l2.drop j) ∧ Below W0.heap.size W0 W)
    case atStart => exact ⟨l1.length, _, rfl, rfl, rfl, Nat.le_refl _, by rw [List.drop_length, HLN.out, List.drop_length], HI.out⟩
    case round =>
      obtain ⟨j, i, rfl, rfl, hi, hj, hv, hB⟩ := hrel
      rename World => W
      have HV := Lib.hid hv
      have HB := Lib.hid hB
      clear hv hB
      rcases Nat.eq_zero_or_pos j with rfl | hj0
      · obtain rfl : i = -1 := by omega
        clear hi
        have hc2 : cmpN n1 n2 = 0 := by
          have e := HV.out
          rw [List.drop_zero, List.drop_zero, HV1.out, HV2.out] at e
          unfold cmpN; rw [if_neg (by omega), if_neg (by omega)]
        have HC := Lib.hid hc2
        clear hc2
        go_wp2_with fail
        go_ret
        exact ⟨by rw [HC.out]; rfl, by rw [HR.out]; exact HBW.out.trans (HB.out.mono HRS.out)⟩
      · obtain ⟨q, rfl⟩ : ∃ q, j = q + 1 := ⟨j - 1, by omega⟩
        obtain rfl : i = (q : Int) := by omega
        clear hi
        have q0 : (0 : Int) ≤ (q : Int) := by omega
        have q1 : (q : Int) < (l1.length : Int) := by omega
        have hq1 : q < l1.length := by omega
        have q2 : (q : Int) < (l2.length : Int) := by have := HLN.out; omega
        have hq2 : q < l2.length := by have := HLN.out; omega
        obtain ⟨b1, o1, rfl, hcc1⟩ := HS1.out.at q hq1
        obtain ⟨b2, o2, rfl, hcc2⟩ := HS2.out.at q hq2
        have hx := atL_get hq1
        have hy := atL_get hq2
        have hlt := vl_lt_at (b := B32) (l := l1) (r := l2) (i := q) (by decide) HD1.out HD2.out hq1 hq2 HV.out
        have hgt := vl_lt_at (b := B32) (l := l2) (r := l1) (i := q) (by decide) HD2.out HD1.out hq2 hq1 HV.out.symm
        have heq : atL l1 q = atL l2 q → vl B32 (l1.drop q) = vl B32 (l2.drop q) := by
          intro e
          rw [vl_drop _ _ _ hq1, vl_drop _ _ _ hq2, HV.out, e]
        rw [hx, hy] at hlt hgt heq
        rw [HV1.out, HV2.out] at hlt hgt
        generalize l1[q] = x at *
        generalize l2[q] = y at *
        have HLT := Lib.hid hlt
        have HGT := Lib.hid hgt
        have HEQ := Lib.hid heq
        have HBD := Lib.hid HB.out.drew
        have F1 := Lib.hid (show ∀ V, Below W0.heap.size W0 V → V.cell? ⟨r, 0, none⟩ = some (.slice (some ⟨b1, o1, none⟩) l1.length c1) ∧ V.cell? ⟨r + 1, 0, none⟩ = some (.slice (some ⟨b2, o2, none⟩) l2.length c2) ∧ V.cell? ⟨b1, o1 + q, none⟩ = some (.int .u32 (x : Int)) ∧ V.cell? ⟨b2, o2 + q, none⟩ = some (.int .u32 (y : Int)) from fun V hV => ⟨(F0.out V hV).1, (F0.out V hV).2, below_cell hV (Nat.le_refl _) hcc1, below_cell hV (Nat.le_refl _) hcc2⟩)
        clear hx hy hlt hgt heq hcc1 hcc2
        go_wp2_with fail
        refine wp_region_held_drew (S := fun V => V.cell? ⟨r, 0, none⟩ = some (.slice (some ⟨b1, o1, none⟩) l1.length c1) ∧ V.cell? ⟨r + 1, 0, none⟩ = some (.slice (some ⟨b2, o2, none⟩) l2.length c2) ∧ V.cell? ⟨b1, o1 + q, none⟩ = some (.int .u32 (x : Int)) ∧ V.cell? ⟨b2, o2 + q, none⟩ = some (.int .u32 (y : Int))) (by kernel_rfl) (by exact F1.out _ HBD.out) (fun hHeld => ?_)
        refine wpAnyH_takeD (i := 0) (oi := { dst := some 26, op := Op.fieldAddr 26 (Operand.tmp 2) 0, type := 0, pos := "nat.go:80", after := #[], guard := none }) (d := 26) (v := ?_) rfl rfl (by kernel_rfl) (by kernel_rfl) (by kernel_rfl) (fun _ _ _ h => h) (Or.inl ⟨by rfl, ?_⟩) hHeld ?_
        rotate_left
        · (intro w' hSw; (try dsimp only at hSw); go_simp; (try with_reducible rfl))
        simp only [List.setIfInBounds_toArray, List.set_cons_zero, List.set_cons_succ]
        refine wpAnyH_takeD (i := 1) (oi := { dst := some 27, op := Op.load 22 (Operand.tmp 26), type := 22, pos := "nat.go:80", after := #[{ on := 0, ground := Ground.data }], guard := none }) (d := 27) (v := ?_) rfl rfl (by kernel_rfl) (by kernel_rfl) (by kernel_rfl) (fun _ _ _ h => h) (Or.inl ⟨by rfl, ?_⟩) hHeld ?_
        rotate_left
        · (intro w' hSw; (try dsimp only at hSw); go_simp; (try with_reducible rfl))
        simp only [List.setIfInBounds_toArray, List.set_cons_zero, List.set_cons_succ]
        refine wpAnyH_takeD (i := 2) (oi := { dst := some 28, op := Op.move (Operand.tmp 6), type := 3, pos := "nat.go:80", after := #[], guard := none }) (d := 28) (v := ?_) rfl rfl (by kernel_rfl) (by kernel_rfl) (by kernel_rfl) (fun _ _ _ h => h) (Or.inl ⟨by rfl, ?_⟩) hHeld ?_
        rotate_left
        · (intro w' hSw; (try dsimp only at hSw); go_simp; (try with_reducible rfl))
        simp only [List.setIfInBounds_toArray, List.set_cons_zero, List.set_cons_succ]
        refine wpAnyH_takeD (i := 3) (oi := { dst := some 29, op := Op.indexAddr 22 (Operand.tmp 27) (Operand.tmp 28), type := 0, pos := "nat.go:80", after := #[{ on := 1, ground := Ground.data }, { on := 2, ground := Ground.data }], guard := none }) (d := 29) (v := ?_) rfl rfl (by kernel_rfl) (by kernel_rfl) (by kernel_rfl) (fun _ _ _ h => h) (Or.inl ⟨by rfl, ?_⟩) hHeld ?_
        rotate_left
        · (intro w' hSw; (try dsimp only at hSw); go_simp; (try with_reducible rfl))
        simp only [List.setIfInBounds_toArray, List.set_cons_zero, List.set_cons_succ]
        refine wpAnyH_takeD (i := 4) (oi := { dst := some 30, op := Op.load 50 (Operand.tmp 29), type := 50, pos := "nat.go:80", after := #[{ on := 3, ground := Ground.data }], guard := none }) (d := 30) (v := ?_) rfl rfl (by kernel_rfl) (by kernel_rfl) (by kernel_rfl) (fun _ _ _ h => h) (Or.inl ⟨by rfl, ?_⟩) hHeld ?_
        rotate_left
        · (intro w' hSw; (try dsimp only at hSw); go_simp; (try with_reducible rfl))
        simp only [List.setIfInBounds_toArray, List.set_cons_zero, List.set_cons_succ]
        refine wpAnyH_takeD (i := 5) (oi := { dst := some 31, op := Op.fieldAddr 26 (Operand.tmp 3) 0, type := 0, pos := "nat.go:80", after := #[], guard := none }) (d := 31) (v := ?_) rfl rfl (by kernel_rfl) (by kernel_rfl) (by kernel_rfl) (fun _ _ _ h => h) (Or.inl ⟨by rfl, ?_⟩) hHeld ?_
        rotate_left
        · (intro w' hSw; (try dsimp only at hSw); go_simp; (try with_reducible rfl))
        simp only [List.setIfInBounds_toArray, List.set_cons_zero, List.set_cons_succ]
        refine wpAnyH_takeD (i := 6) (oi := { dst := some 32, op := Op.load 22 (Operand.tmp 31), type := 22, pos := "nat.go:80", after := #[{ on := 5, ground := Ground.data }], guard := none }) (d := 32) (v := ?_) rfl rfl (by kernel_rfl) (by kernel_rfl) (by kernel_rfl) (fun _ _ _ h => h) (Or.inl ⟨by rfl, ?_⟩) hHeld ?_
        rotate_left
        · (intro w' hSw; (try dsimp only at hSw); go_simp; (try with_reducible rfl))
        simp only [List.setIfInBounds_toArray, List.set_cons_zero, List.set_cons_succ]
        refine wpAnyH_takeD (i := 7) (oi := { dst := some 33, op := Op.move (Operand.tmp 6), type := 3, pos := "nat.go:80", after := #[], guard := none }) (d := 33) (v := ?_) rfl rfl (by kernel_rfl) (by kernel_rfl) (by kernel_rfl) (fun _ _ _ h => h) (Or.inl ⟨by rfl, ?_⟩) hHeld ?_
        rotate_left
        · (intro w' hSw; (try dsimp only at hSw); go_simp; (try with_reducible rfl))
        simp only [List.setIfInBounds_toArray, List.set_cons_zero, List.set_cons_succ]
        refine wpAnyH_takeD (i := 8) (oi := { dst := some 34, op := Op.indexAddr 22 (Operand.tmp 32) (Operand.tmp 33), type := 0, pos := "nat.go:80", after := #[{ on := 6, ground := Ground.data }, { on := 7, ground := Ground.data }], guard := none }) (d := 34) (v := ?_) rfl rfl (by kernel_rfl) (by kernel_rfl) (by kernel_rfl) (fun _ _ _ h => h) (Or.inl ⟨by rfl, ?_⟩) hHeld ?_
        rotate_left
        · (intro w' hSw; (try dsimp only at hSw); go_simp; (try with_reducible rfl))
        simp only [List.setIfInBounds_toArray, List.set_cons_zero, List.set_cons_succ]
        refine wpAnyH_takeD (i := 9) (oi := { dst := some 35, op := Op.load 50 (Operand.tmp 34), type := 50, pos := "nat.go:80", after := #[{ on := 8, ground := Ground.data }], guard := none }) (d := 35) (v := ?_) rfl rfl (by kernel_rfl) (by kernel_rfl) (by kernel_rfl) (fun _ _ _ h => h) (Or.inl ⟨by rfl, ?_⟩) hHeld ?_
        rotate_left
        · (intro w' hSw; (try dsimp only at hSw); go_simp; (try with_reducible rfl))
        simp only [List.setIfInBounds_toArray, List.set_cons_zero, List.set_cons_succ]
        refine wpAnyH_ready (rs := [10]) (by kernel_rfl) (by simp) ?_
        refine AllReadyH.cons (o := { dst := some 36, op := Op.call { callee := Callee.value (Operand.func 36), args := #[Operand.tmp 30, Operand.tmp 35], argTypes := #[50, 50] }, type := 3, pos := "nat.go:80", after := #[{ on := 4, ground := Ground.data }, { on := 9, ground := Ground.data }], guard := none }) rfl (fun K hK => ?_) AllReadyH.nil
        (try go_simp)
        refine (cmp_u32 x y _).mono ?_; rintro e w7 ⟨rfl, hw7⟩; subst hw7; have h := F1.out _ HBD.out
        go_wp2_with fail
        refine hK.out _ _ h (fun hHeld => ?_)
        clear hK K
        try simp only [Act.put, List.setIfInBounds_toArray, List.set_cons_zero, List.set_cons_succ]
        refine wpAnyH_takeD (i := 11) (oi := { dst := some 7, op := Op.assign (Operand.tmp 36), type := 3, pos := "nat.go:80", after := #[{ on := 10, ground := Ground.data }, { on := 10, ground := Ground.chain }, { on := 0, ground := Ground.phase }, { on := 1, ground := Ground.phase }, { on := 2, ground := Ground.phase }, { on := 3, ground := Ground.phase }, { on := 4, ground := Ground.phase }, { on := 5, ground := Ground.phase }, { on := 6, ground := Ground.phase }, { on := 7, ground := Ground.phase }, { on := 8, ground := Ground.phase }, { on := 9, ground := Ground.phase }, { on := 10, ground := Ground.phase }], guard := none }) (d := 7) (v := ?_) rfl rfl (by kernel_rfl) (by kernel_rfl) (by kernel_rfl) (fun _ _ _ h => h) (Or.inl ⟨by rfl, ?_⟩) hHeld ?_
        rotate_left
        · (intro w' hSw; (try dsimp only at hSw); go_simp; (try with_reducible rfl))
        simp only [List.setIfInBounds_toArray, List.set_cons_zero, List.set_cons_succ]
        refine wpAnyH_done (by kernel_rfl) ?_ _
        rcases Nat.lt_trichotomy x y with hxy | hxy | hxy
        · have hc : cmpN x y = -1 := by unfold cmpN; rw [if_pos hxy]
          rw [hc]
          have hn := HLT.out hxy
          have hc2 : cmpN n1 n2 = -1 := by unfold cmpN; rw [if_pos hn]
          have HC := Lib.hid hc2
          clear hc hc2
          go_wp2_with fail
          go_ret
          exact ⟨by rw [HC.out]; rfl, by rw [HR.out]; exact HBW.out.trans (HBD.out.mono HRS.out)⟩
        · have hc : cmpN x y = 0 := by unfold cmpN; rw [if_neg (by omega), if_neg (by omega)]
          rw [hc]
          clear hc
          have HE := Lib.hid (HEQ.out hxy)
          clear hxy
          have wq : IntKind.i64.wrap ((q : Int) - 1) = (q : Int) - 1 := IntWalk.i64_in _ (by omega)
          go_wp2_with fail
          go_roundg q
          case measure => omega
          case rel => exact ⟨q, _, rfl, rfl, rfl, by omega, HE.out, HBD.out⟩
        · have hc : cmpN x y = 1 := by unfold cmpN; rw [if_neg (by omega), if_pos hxy]
          rw [hc]
          have hn := HGT.out hxy
          have hc2 : cmpN n1 n2 = 1 := by unfold cmpN; rw [if_neg (by omega), if_pos hn]
          have HC := Lib.hid hc2
          clear hc hc2
          go_wp2_with fail
          go_ret
          exact ⟨by rw [HC.out]; rfl, by rw [HR.out]; exact HBW.out.trans (HBD.out.mono HRS.out)⟩
  · have hc : cmpN l1.length l2.length = 1 := by unfold cmpN; rw [if_neg (by omega), if_pos hlen]
    rw [hc]
    have hn := HLT2.out hlen
    have hc2 : cmpN n1 n2 = 1 := by unfold cmpN; rw [if_neg (by omega), if_pos hn]
    have HC := Lib.hid hc2
    clear hc hc2
    go_wp2_with fail
    go_ret
    exact ⟨by rw [HC.out]; rfl, by rw [HR.out]; exact HBW.out⟩
end Go.Proofs.Ytnfehhblmoliaaa
