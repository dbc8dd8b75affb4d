/- Layer 1 (nat), the document's answer: Compare, Print. -/
import Derived.Test.YtnfehhblmoliaaaNatG
namespace Go.Proofs.Ytnfehhblmoliaaa
open Go.RowKit Go.Maps Go.WideMaps
set_option maxRecDepth 100000
set_option linter.unusedVariables false
set_option linter.unusedSimpArgs false

set_option maxHeartbeats 4000000 in
theorem rcompare_any (v1 v2 : Value) (n1 n2 : Nat) (w : World) (h1 : DecIs w v1 n1) (h2 : DecIs w v2 n2) (hl1 : (dg 10 n1).length ≤ 1000000000) (hl2 : (dg 10 n2).length ≤ 1000000000) :
    Calls Try.prog 13 #[v1, v2] w fun e w' => e = .returned (.int .i64 (cmpN n1 n2)) ∧ ∃ m, w' = w.drewN m := by
  obtain ⟨A1, c1, rfl, s1, k1⟩ := h1
  obtain ⟨A2, c2, rfl, s2, k2⟩ := h2
  have HD1 := Lib.hid (dg_lt (b := 10) (by decide) n1)
  have HD2 := Lib.hid (dg_lt (b := 10) (by decide) n2)
  have HV1 := Lib.hid (vl_dg (b := 10) (by decide) n1)
  have HV2 := Lib.hid (vl_dg (b := 10) (by decide) n2)
  have HS1 := Lib.hid s1
  have HS2 := Lib.hid s2
  have HLT1 := Lib.hid (fun h => dg_len_lt (b := 10) (m := n1) (n := n2) (by decide) h)
  have HLT2 := Lib.hid (fun h => dg_len_lt (b := 10) (m := n2) (n := n1) (by decide) h)
  clear s1 s2 k1 k2
  generalize dg 10 n1 = l1 at *
  generalize dg 10 n2 = l2 at *
  go_enter Try.func13, Try.ntmps13
  rcases Nat.lt_trichotomy l1.length l2.length with hlen | hlen | hlen
  · have hn := HLT1.out hlen
    have HC : Hid (cmpN n1 n2 = -1) := Lib.hid (by unfold cmpN; rw [if_pos hn])
    have h1 : (l1.length : Int) < (l2.length : Int) := by omega
    have h2 : ¬ (l1.length : Int) = (l2.length : Int) := by omega
    have h3 : ((l1.length : Int) != (l2.length : Int)) = true := by simp; omega
    clear hn
    go_wp2_with fail
    go_ret
    exact ⟨by rw [HC.out]; rfl, 0, rfl⟩
  · have HLN := Lib.hid hlen
    have h2 : (l1.length : Int) = (l2.length : Int) := by omega
    have wl : IntKind.i64.wrap ((l2.length : Int) - 1) = (l2.length : Int) - 1 := IntWalk.i64_in _ (by omega)
    clear hlen
    go_wp2_with fail
    clear wl h2
    go_loopg [5] l1.length (fun m v W => ∃ (j : Nat) (i : Int), j = m ∧ v = .int .i64 i ∧ i = (j : Int) - 1 ∧ j ≤ l1.length ∧ vl 10 (l1.drop j) = vl 10 (l2.drop j) ∧ ∃ d, W = w.drewN d)
    case atStart => exact ⟨l1.length, _, rfl, by rw [HLN.out], rfl, Nat.le_refl _, by rw [List.drop_length, HLN.out, List.drop_length], 0, rfl⟩
    case round =>
      obtain ⟨j, i, rfl, rfl, hi, hj, hv, d, rfl⟩ := hrel
      have HV := Lib.hid hv
      clear hv
      rcases Nat.eq_zero_or_pos j with rfl | hj0
      · obtain rfl : i = -1 := by omega
        clear hi
        have HC : Hid (cmpN n1 n2 = 0) := Lib.hid (by
          have e := HV.out
          rw [List.drop_zero, List.drop_zero, HV1.out, HV2.out] at e
          unfold cmpN; rw [if_neg (by omega), if_neg (by omega)])
        go_wp2_with fail
        go_ret
        exact ⟨by rw [HC.out]; rfl, d, rfl⟩
      · obtain ⟨q, rfl⟩ : ∃ q, j = q + 1 := ⟨j - 1, by omega⟩
        obtain rfl : i = (q : Int) := by omega
        clear hi
        have q0 : (0 : Int) ≤ (q : Int) := by omega
        have q1 : (q : Int) < (l1.length : Int) := by omega
        have q2 : (q : Int) < (l2.length : Int) := by have := HLN.out; omega
        have hq1 : q < l1.length := by omega
        have hq2 : q < l2.length := by have := HLN.out; omega
        obtain ⟨b1, o1, rfl, hcc1⟩ := HS1.out.at q hq1
        obtain ⟨b2, o2, rfl, hcc2⟩ := HS2.out.at q hq2
        have hx := atL_get hq1
        have hy := atL_get hq2
        have hlt := vl_lt_at (b := 10) (l := l1) (r := l2) (i := q) (by decide) HD1.out HD2.out hq1 hq2 HV.out
        have hgt := vl_lt_at (b := 10) (l := l2) (r := l1) (i := q) (by decide) HD2.out HD1.out hq2 hq1 HV.out.symm
        have heq : atL l1 q = atL l2 q → vl 10 (l1.drop q) = vl 10 (l2.drop q) := by
          intro e
          rw [vl_drop _ _ _ hq1, vl_drop _ _ _ hq2, HV.out, e]
        rw [hx, hy] at hlt hgt heq
        rw [HV1.out, HV2.out] at hlt hgt
        unfold u8V at hcc1 hcc2
        generalize l1[q] = x at *
        generalize l2[q] = y at *
        have HLT := Lib.hid hlt
        have HGT := Lib.hid hgt
        have HEQ := Lib.hid heq
        have F0 := Lib.hid (show ∀ m, (w.drewN m).cell? ⟨b1, o1 + q, none⟩ = some (.int .u8 (x : Int)) ∧ (w.drewN m).cell? ⟨b2, o2 + q, none⟩ = some (.int .u8 (y : Int)) from fun m => ⟨hcc1, hcc2⟩)
        clear hx hy hlt hgt heq hcc1 hcc2
        have wq : IntKind.i64.wrap ((q : Int) - 1) = (q : Int) - 1 := IntWalk.i64_in _ (by omega)
        rcases Nat.lt_trichotomy x y with hxy | hxy | hxy
        · have hxy' : (x : Int) < (y : Int) := by omega
          have HC : Hid (cmpN n1 n2 = -1) := Lib.hid (by unfold cmpN; rw [if_pos (HLT.out hxy)])
          go_wp2_with fail
          refine wp_region_held_drew (S := fun V => V.cell? ⟨b1, o1 + q, none⟩ = some (.int .u8 (x : Int)) ∧ V.cell? ⟨b2, o2 + q, none⟩ = some (.int .u8 (y : Int))) (by kernel_rfl) (by exact F0.out (d + 1)) (fun hHeld => ?_)
          refine wpAnyH_takeD (i := 0) (oi := { dst := some 23, op := Op.move (Operand.tmp 0), type := 30, pos := "ref.go:75", after := #[], guard := none }) (d := 23) (v := ?_) rfl rfl (by kernel_rfl) (by kernel_rfl) (by kernel_rfl) (fun _ _ _ h => h) (Or.inl ⟨by rfl, ?_⟩) hHeld ?_
          rotate_left
          · (intro w' hSw; (try dsimp only at hSw); go_simp; (try with_reducible rfl))
          simp only [List.setIfInBounds_toArray, List.set_cons_zero, List.set_cons_succ]
          refine wpAnyH_takeD (i := 1) (oi := { dst := some 24, op := Op.move (Operand.tmp 5), type := 3, pos := "ref.go:75", after := #[], guard := none }) (d := 24) (v := ?_) rfl rfl (by kernel_rfl) (by kernel_rfl) (by kernel_rfl) (fun _ _ _ h => h) (Or.inl ⟨by rfl, ?_⟩) hHeld ?_
          rotate_left
          · (intro w' hSw; (try dsimp only at hSw); go_simp; (try with_reducible rfl))
          simp only [List.setIfInBounds_toArray, List.set_cons_zero, List.set_cons_succ]
          refine wpAnyH_takeD (i := 2) (oi := { dst := some 25, op := Op.indexAddr 30 (Operand.tmp 23) (Operand.tmp 24), type := 0, pos := "ref.go:75", after := #[{ on := 0, ground := Ground.data }, { on := 1, ground := Ground.data }], guard := none }) (d := 25) (v := ?_) rfl rfl (by kernel_rfl) (by kernel_rfl) (by kernel_rfl) (fun _ _ _ h => h) (Or.inl ⟨by rfl, ?_⟩) hHeld ?_
          rotate_left
          · (intro w' hSw; (try dsimp only at hSw); go_simp; (try with_reducible rfl))
          simp only [List.setIfInBounds_toArray, List.set_cons_zero, List.set_cons_succ]
          refine wpAnyH_takeD (i := 3) (oi := { dst := some 26, op := Op.load 5 (Operand.tmp 25), type := 5, pos := "ref.go:75", after := #[{ on := 2, ground := Ground.data }], guard := none }) (d := 26) (v := ?_) rfl rfl (by kernel_rfl) (by kernel_rfl) (by kernel_rfl) (fun _ _ _ h => h) (Or.inl ⟨by rfl, ?_⟩) hHeld ?_
          rotate_left
          · (intro w' hSw; (try dsimp only at hSw); go_simp; (try with_reducible rfl))
          simp only [List.setIfInBounds_toArray, List.set_cons_zero, List.set_cons_succ]
          refine wpAnyH_takeD (i := 4) (oi := { dst := some 27, op := Op.move (Operand.tmp 1), type := 30, pos := "ref.go:75", after := #[], guard := none }) (d := 27) (v := ?_) rfl rfl (by kernel_rfl) (by kernel_rfl) (by kernel_rfl) (fun _ _ _ h => h) (Or.inl ⟨by rfl, ?_⟩) hHeld ?_
          rotate_left
          · (intro w' hSw; (try dsimp only at hSw); go_simp; (try with_reducible rfl))
          simp only [List.setIfInBounds_toArray, List.set_cons_zero, List.set_cons_succ]
          refine wpAnyH_takeD (i := 5) (oi := { dst := some 28, op := Op.move (Operand.tmp 5), type := 3, pos := "ref.go:75", after := #[], guard := none }) (d := 28) (v := ?_) rfl rfl (by kernel_rfl) (by kernel_rfl) (by kernel_rfl) (fun _ _ _ h => h) (Or.inl ⟨by rfl, ?_⟩) hHeld ?_
          rotate_left
          · (intro w' hSw; (try dsimp only at hSw); go_simp; (try with_reducible rfl))
          simp only [List.setIfInBounds_toArray, List.set_cons_zero, List.set_cons_succ]
          refine wpAnyH_takeD (i := 6) (oi := { dst := some 29, op := Op.indexAddr 30 (Operand.tmp 27) (Operand.tmp 28), type := 0, pos := "ref.go:75", after := #[{ on := 4, ground := Ground.data }, { on := 5, ground := Ground.data }], guard := none }) (d := 29) (v := ?_) rfl rfl (by kernel_rfl) (by kernel_rfl) (by kernel_rfl) (fun _ _ _ h => h) (Or.inl ⟨by rfl, ?_⟩) hHeld ?_
          rotate_left
          · (intro w' hSw; (try dsimp only at hSw); go_simp; (try with_reducible rfl))
          simp only [List.setIfInBounds_toArray, List.set_cons_zero, List.set_cons_succ]
          refine wpAnyH_takeD (i := 7) (oi := { dst := some 30, op := Op.load 5 (Operand.tmp 29), type := 5, pos := "ref.go:75", after := #[{ on := 6, ground := Ground.data }], guard := none }) (d := 30) (v := ?_) rfl rfl (by kernel_rfl) (by kernel_rfl) (by kernel_rfl) (fun _ _ _ h => h) (Or.inl ⟨by rfl, ?_⟩) hHeld ?_
          rotate_left
          · (intro w' hSw; (try dsimp only at hSw); go_simp; (try with_reducible rfl))
          simp only [List.setIfInBounds_toArray, List.set_cons_zero, List.set_cons_succ]
          refine wpAnyH_takeD (i := 8) (oi := { dst := some 31, op := Op.binOp BinOp.lss 5 (Operand.tmp 26) (Operand.tmp 30) 5, type := 4, pos := "ref.go:75", after := #[{ on := 3, ground := Ground.data }, { on := 7, ground := Ground.data }], guard := none }) (d := 31) (v := ?_) rfl rfl (by kernel_rfl) (by kernel_rfl) (by kernel_rfl) (fun _ _ _ h => h) (Or.inl ⟨by rfl, ?_⟩) hHeld ?_
          rotate_left
          · (intro w' hSw; (try dsimp only at hSw); go_simp; (try with_reducible rfl))
          simp only [List.setIfInBounds_toArray, List.set_cons_zero, List.set_cons_succ]
          refine wpAnyH_done (by kernel_rfl) ?_ _
          go_wp2_with fail
          go_ret
          exact ⟨by rw [HC.out]; rfl, d + 1, rfl⟩
        · subst hxy
          have hxy' : ¬ (x : Int) < (x : Int) := by omega
          have HE := Lib.hid (HEQ.out rfl)
          go_wp2_with fail
          refine wp_region_held_drew (S := fun V => V.cell? ⟨b1, o1 + q, none⟩ = some (.int .u8 (x : Int)) ∧ V.cell? ⟨b2, o2 + q, none⟩ = some (.int .u8 (x : Int))) (by kernel_rfl) (by exact F0.out (d + 1)) (fun hHeld => ?_)
          refine wpAnyH_takeD (i := 0) (oi := { dst := some 23, op := Op.move (Operand.tmp 0), type := 30, pos := "ref.go:75", after := #[], guard := none }) (d := 23) (v := ?_) rfl rfl (by kernel_rfl) (by kernel_rfl) (by kernel_rfl) (fun _ _ _ h => h) (Or.inl ⟨by rfl, ?_⟩) hHeld ?_
          rotate_left
          · (intro w' hSw; (try dsimp only at hSw); go_simp; (try with_reducible rfl))
          simp only [List.setIfInBounds_toArray, List.set_cons_zero, List.set_cons_succ]
          refine wpAnyH_takeD (i := 1) (oi := { dst := some 24, op := Op.move (Operand.tmp 5), type := 3, pos := "ref.go:75", after := #[], guard := none }) (d := 24) (v := ?_) rfl rfl (by kernel_rfl) (by kernel_rfl) (by kernel_rfl) (fun _ _ _ h => h) (Or.inl ⟨by rfl, ?_⟩) hHeld ?_
          rotate_left
          · (intro w' hSw; (try dsimp only at hSw); go_simp; (try with_reducible rfl))
          simp only [List.setIfInBounds_toArray, List.set_cons_zero, List.set_cons_succ]
          refine wpAnyH_takeD (i := 2) (oi := { dst := some 25, op := Op.indexAddr 30 (Operand.tmp 23) (Operand.tmp 24), type := 0, pos := "ref.go:75", after := #[{ on := 0, ground := Ground.data }, { on := 1, ground := Ground.data }], guard := none }) (d := 25) (v := ?_) rfl rfl (by kernel_rfl) (by kernel_rfl) (by kernel_rfl) (fun _ _ _ h => h) (Or.inl ⟨by rfl, ?_⟩) hHeld ?_
          rotate_left
          · (intro w' hSw; (try dsimp only at hSw); go_simp; (try with_reducible rfl))
          simp only [List.setIfInBounds_toArray, List.set_cons_zero, List.set_cons_succ]
          refine wpAnyH_takeD (i := 3) (oi := { dst := some 26, op := Op.load 5 (Operand.tmp 25), type := 5, pos := "ref.go:75", after := #[{ on := 2, ground := Ground.data }], guard := none }) (d := 26) (v := ?_) rfl rfl (by kernel_rfl) (by kernel_rfl) (by kernel_rfl) (fun _ _ _ h => h) (Or.inl ⟨by rfl, ?_⟩) hHeld ?_
          rotate_left
          · (intro w' hSw; (try dsimp only at hSw); go_simp; (try with_reducible rfl))
          simp only [List.setIfInBounds_toArray, List.set_cons_zero, List.set_cons_succ]
          refine wpAnyH_takeD (i := 4) (oi := { dst := some 27, op := Op.move (Operand.tmp 1), type := 30, pos := "ref.go:75", after := #[], guard := none }) (d := 27) (v := ?_) rfl rfl (by kernel_rfl) (by kernel_rfl) (by kernel_rfl) (fun _ _ _ h => h) (Or.inl ⟨by rfl, ?_⟩) hHeld ?_
          rotate_left
          · (intro w' hSw; (try dsimp only at hSw); go_simp; (try with_reducible rfl))
          simp only [List.setIfInBounds_toArray, List.set_cons_zero, List.set_cons_succ]
          refine wpAnyH_takeD (i := 5) (oi := { dst := some 28, op := Op.move (Operand.tmp 5), type := 3, pos := "ref.go:75", after := #[], guard := none }) (d := 28) (v := ?_) rfl rfl (by kernel_rfl) (by kernel_rfl) (by kernel_rfl) (fun _ _ _ h => h) (Or.inl ⟨by rfl, ?_⟩) hHeld ?_
          rotate_left
          · (intro w' hSw; (try dsimp only at hSw); go_simp; (try with_reducible rfl))
          simp only [List.setIfInBounds_toArray, List.set_cons_zero, List.set_cons_succ]
          refine wpAnyH_takeD (i := 6) (oi := { dst := some 29, op := Op.indexAddr 30 (Operand.tmp 27) (Operand.tmp 28), type := 0, pos := "ref.go:75", after := #[{ on := 4, ground := Ground.data }, { on := 5, ground := Ground.data }], guard := none }) (d := 29) (v := ?_) rfl rfl (by kernel_rfl) (by kernel_rfl) (by kernel_rfl) (fun _ _ _ h => h) (Or.inl ⟨by rfl, ?_⟩) hHeld ?_
          rotate_left
          · (intro w' hSw; (try dsimp only at hSw); go_simp; (try with_reducible rfl))
          simp only [List.setIfInBounds_toArray, List.set_cons_zero, List.set_cons_succ]
          refine wpAnyH_takeD (i := 7) (oi := { dst := some 30, op := Op.load 5 (Operand.tmp 29), type := 5, pos := "ref.go:75", after := #[{ on := 6, ground := Ground.data }], guard := none }) (d := 30) (v := ?_) rfl rfl (by kernel_rfl) (by kernel_rfl) (by kernel_rfl) (fun _ _ _ h => h) (Or.inl ⟨by rfl, ?_⟩) hHeld ?_
          rotate_left
          · (intro w' hSw; (try dsimp only at hSw); go_simp; (try with_reducible rfl))
          simp only [List.setIfInBounds_toArray, List.set_cons_zero, List.set_cons_succ]
          refine wpAnyH_takeD (i := 8) (oi := { dst := some 31, op := Op.binOp BinOp.lss 5 (Operand.tmp 26) (Operand.tmp 30) 5, type := 4, pos := "ref.go:75", after := #[{ on := 3, ground := Ground.data }, { on := 7, ground := Ground.data }], guard := none }) (d := 31) (v := ?_) rfl rfl (by kernel_rfl) (by kernel_rfl) (by kernel_rfl) (fun _ _ _ h => h) (Or.inl ⟨by rfl, ?_⟩) hHeld ?_
          rotate_left
          · (intro w' hSw; (try dsimp only at hSw); go_simp; (try with_reducible rfl))
          simp only [List.setIfInBounds_toArray, List.set_cons_zero, List.set_cons_succ]
          refine wpAnyH_done (by kernel_rfl) ?_ _
          go_wp2_with fail
          refine wp_region_held_drew (S := fun V => V.cell? ⟨b1, o1 + q, none⟩ = some (.int .u8 (x : Int)) ∧ V.cell? ⟨b2, o2 + q, none⟩ = some (.int .u8 (x : Int))) (by kernel_rfl) (by exact F0.out (d + 2)) (fun hHeld => ?_)
          refine wpAnyH_takeD (i := 0) (oi := { dst := some 32, op := Op.move (Operand.tmp 0), type := 30, pos := "ref.go:78", after := #[], guard := none }) (d := 32) (v := ?_) rfl rfl (by kernel_rfl) (by kernel_rfl) (by kernel_rfl) (fun _ _ _ h => h) (Or.inl ⟨by rfl, ?_⟩) hHeld ?_
          rotate_left
          · (intro w' hSw; (try dsimp only at hSw); go_simp; (try with_reducible rfl))
          simp only [List.setIfInBounds_toArray, List.set_cons_zero, List.set_cons_succ]
          refine wpAnyH_takeD (i := 1) (oi := { dst := some 33, op := Op.move (Operand.tmp 5), type := 3, pos := "ref.go:78", after := #[], guard := none }) (d := 33) (v := ?_) rfl rfl (by kernel_rfl) (by kernel_rfl) (by kernel_rfl) (fun _ _ _ h => h) (Or.inl ⟨by rfl, ?_⟩) hHeld ?_
          rotate_left
          · (intro w' hSw; (try dsimp only at hSw); go_simp; (try with_reducible rfl))
          simp only [List.setIfInBounds_toArray, List.set_cons_zero, List.set_cons_succ]
          refine wpAnyH_takeD (i := 2) (oi := { dst := some 34, op := Op.indexAddr 30 (Operand.tmp 32) (Operand.tmp 33), type := 0, pos := "ref.go:78", after := #[{ on := 0, ground := Ground.data }, { on := 1, ground := Ground.data }], guard := none }) (d := 34) (v := ?_) rfl rfl (by kernel_rfl) (by kernel_rfl) (by kernel_rfl) (fun _ _ _ h => h) (Or.inl ⟨by rfl, ?_⟩) hHeld ?_
          rotate_left
          · (intro w' hSw; (try dsimp only at hSw); go_simp; (try with_reducible rfl))
          simp only [List.setIfInBounds_toArray, List.set_cons_zero, List.set_cons_succ]
          refine wpAnyH_takeD (i := 3) (oi := { dst := some 35, op := Op.load 5 (Operand.tmp 34), type := 5, pos := "ref.go:78", after := #[{ on := 2, ground := Ground.data }], guard := none }) (d := 35) (v := ?_) rfl rfl (by kernel_rfl) (by kernel_rfl) (by kernel_rfl) (fun _ _ _ h => h) (Or.inl ⟨by rfl, ?_⟩) hHeld ?_
          rotate_left
          · (intro w' hSw; (try dsimp only at hSw); go_simp; (try with_reducible rfl))
          simp only [List.setIfInBounds_toArray, List.set_cons_zero, List.set_cons_succ]
          refine wpAnyH_takeD (i := 4) (oi := { dst := some 36, op := Op.move (Operand.tmp 1), type := 30, pos := "ref.go:78", after := #[], guard := none }) (d := 36) (v := ?_) rfl rfl (by kernel_rfl) (by kernel_rfl) (by kernel_rfl) (fun _ _ _ h => h) (Or.inl ⟨by rfl, ?_⟩) hHeld ?_
          rotate_left
          · (intro w' hSw; (try dsimp only at hSw); go_simp; (try with_reducible rfl))
          simp only [List.setIfInBounds_toArray, List.set_cons_zero, List.set_cons_succ]
          refine wpAnyH_takeD (i := 5) (oi := { dst := some 37, op := Op.move (Operand.tmp 5), type := 3, pos := "ref.go:78", after := #[], guard := none }) (d := 37) (v := ?_) rfl rfl (by kernel_rfl) (by kernel_rfl) (by kernel_rfl) (fun _ _ _ h => h) (Or.inl ⟨by rfl, ?_⟩) hHeld ?_
          rotate_left
          · (intro w' hSw; (try dsimp only at hSw); go_simp; (try with_reducible rfl))
          simp only [List.setIfInBounds_toArray, List.set_cons_zero, List.set_cons_succ]
          refine wpAnyH_takeD (i := 6) (oi := { dst := some 38, op := Op.indexAddr 30 (Operand.tmp 36) (Operand.tmp 37), type := 0, pos := "ref.go:78", after := #[{ on := 4, ground := Ground.data }, { on := 5, ground := Ground.data }], guard := none }) (d := 38) (v := ?_) rfl rfl (by kernel_rfl) (by kernel_rfl) (by kernel_rfl) (fun _ _ _ h => h) (Or.inl ⟨by rfl, ?_⟩) hHeld ?_
          rotate_left
          · (intro w' hSw; (try dsimp only at hSw); go_simp; (try with_reducible rfl))
          simp only [List.setIfInBounds_toArray, List.set_cons_zero, List.set_cons_succ]
          refine wpAnyH_takeD (i := 7) (oi := { dst := some 39, op := Op.load 5 (Operand.tmp 38), type := 5, pos := "ref.go:78", after := #[{ on := 6, ground := Ground.data }], guard := none }) (d := 39) (v := ?_) rfl rfl (by kernel_rfl) (by kernel_rfl) (by kernel_rfl) (fun _ _ _ h => h) (Or.inl ⟨by rfl, ?_⟩) hHeld ?_
          rotate_left
          · (intro w' hSw; (try dsimp only at hSw); go_simp; (try with_reducible rfl))
          simp only [List.setIfInBounds_toArray, List.set_cons_zero, List.set_cons_succ]
          refine wpAnyH_takeD (i := 8) (oi := { dst := some 40, op := Op.binOp BinOp.gtr 5 (Operand.tmp 35) (Operand.tmp 39) 5, type := 4, pos := "ref.go:78", after := #[{ on := 3, ground := Ground.data }, { on := 7, ground := Ground.data }], guard := none }) (d := 40) (v := ?_) rfl rfl (by kernel_rfl) (by kernel_rfl) (by kernel_rfl) (fun _ _ _ h => h) (Or.inl ⟨by rfl, ?_⟩) hHeld ?_
          rotate_left
          · (intro w' hSw; (try dsimp only at hSw); go_simp; (try with_reducible rfl))
          simp only [List.setIfInBounds_toArray, List.set_cons_zero, List.set_cons_succ]
          refine wpAnyH_done (by kernel_rfl) ?_ _
          go_wp2_with fail
          go_roundg q
          case measure => omega
          case rel => exact ⟨q, _, rfl, rfl, rfl, by omega, HE.out, d + 2, rfl⟩
        · have hxy' : (y : Int) < (x : Int) := by omega
          have hxy2 : ¬ (x : Int) < (y : Int) := by omega
          have HC : Hid (cmpN n1 n2 = 1) := Lib.hid (by unfold cmpN; rw [if_neg (by have := HGT.out hxy; omega), if_pos (HGT.out hxy)])
          go_wp2_with fail
          refine wp_region_held_drew (S := fun V => V.cell? ⟨b1, o1 + q, none⟩ = some (.int .u8 (x : Int)) ∧ V.cell? ⟨b2, o2 + q, none⟩ = some (.int .u8 (y : Int))) (by kernel_rfl) (by exact F0.out (d + 1)) (fun hHeld => ?_)
          refine wpAnyH_takeD (i := 0) (oi := { dst := some 23, op := Op.move (Operand.tmp 0), type := 30, pos := "ref.go:75", after := #[], guard := none }) (d := 23) (v := ?_) rfl rfl (by kernel_rfl) (by kernel_rfl) (by kernel_rfl) (fun _ _ _ h => h) (Or.inl ⟨by rfl, ?_⟩) hHeld ?_
          rotate_left
          · (intro w' hSw; (try dsimp only at hSw); go_simp; (try with_reducible rfl))
          simp only [List.setIfInBounds_toArray, List.set_cons_zero, List.set_cons_succ]
          refine wpAnyH_takeD (i := 1) (oi := { dst := some 24, op := Op.move (Operand.tmp 5), type := 3, pos := "ref.go:75", after := #[], guard := none }) (d := 24) (v := ?_) rfl rfl (by kernel_rfl) (by kernel_rfl) (by kernel_rfl) (fun _ _ _ h => h) (Or.inl ⟨by rfl, ?_⟩) hHeld ?_
          rotate_left
          · (intro w' hSw; (try dsimp only at hSw); go_simp; (try with_reducible rfl))
          simp only [List.setIfInBounds_toArray, List.set_cons_zero, List.set_cons_succ]
          refine wpAnyH_takeD (i := 2) (oi := { dst := some 25, op := Op.indexAddr 30 (Operand.tmp 23) (Operand.tmp 24), type := 0, pos := "ref.go:75", after := #[{ on := 0, ground := Ground.data }, { on := 1, ground := Ground.data }], guard := none }) (d := 25) (v := ?_) rfl rfl (by kernel_rfl) (by kernel_rfl) (by kernel_rfl) (fun _ _ _ h => h) (Or.inl ⟨by rfl, ?_⟩) hHeld ?_
          rotate_left
          · (intro w' hSw; (try dsimp only at hSw); go_simp; (try with_reducible rfl))
          simp only [List.setIfInBounds_toArray, List.set_cons_zero, List.set_cons_succ]
          refine wpAnyH_takeD (i := 3) (oi := { dst := some 26, op := Op.load 5 (Operand.tmp 25), type := 5, pos := "ref.go:75", after := #[{ on := 2, ground := Ground.data }], guard := none }) (d := 26) (v := ?_) rfl rfl (by kernel_rfl) (by kernel_rfl) (by kernel_rfl) (fun _ _ _ h => h) (Or.inl ⟨by rfl, ?_⟩) hHeld ?_
          rotate_left
          · (intro w' hSw; (try dsimp only at hSw); go_simp; (try with_reducible rfl))
          simp only [List.setIfInBounds_toArray, List.set_cons_zero, List.set_cons_succ]
          refine wpAnyH_takeD (i := 4) (oi := { dst := some 27, op := Op.move (Operand.tmp 1), type := 30, pos := "ref.go:75", after := #[], guard := none }) (d := 27) (v := ?_) rfl rfl (by kernel_rfl) (by kernel_rfl) (by kernel_rfl) (fun _ _ _ h => h) (Or.inl ⟨by rfl, ?_⟩) hHeld ?_
          rotate_left
          · (intro w' hSw; (try dsimp only at hSw); go_simp; (try with_reducible rfl))
          simp only [List.setIfInBounds_toArray, List.set_cons_zero, List.set_cons_succ]
          refine wpAnyH_takeD (i := 5) (oi := { dst := some 28, op := Op.move (Operand.tmp 5), type := 3, pos := "ref.go:75", after := #[], guard := none }) (d := 28) (v := ?_) rfl rfl (by kernel_rfl) (by kernel_rfl) (by kernel_rfl) (fun _ _ _ h => h) (Or.inl ⟨by rfl, ?_⟩) hHeld ?_
          rotate_left
          · (intro w' hSw; (try dsimp only at hSw); go_simp; (try with_reducible rfl))
          simp only [List.setIfInBounds_toArray, List.set_cons_zero, List.set_cons_succ]
          refine wpAnyH_takeD (i := 6) (oi := { dst := some 29, op := Op.indexAddr 30 (Operand.tmp 27) (Operand.tmp 28), type := 0, pos := "ref.go:75", after := #[{ on := 4, ground := Ground.data }, { on := 5, ground := Ground.data }], guard := none }) (d := 29) (v := ?_) rfl rfl (by kernel_rfl) (by kernel_rfl) (by kernel_rfl) (fun _ _ _ h => h) (Or.inl ⟨by rfl, ?_⟩) hHeld ?_
          rotate_left
          · (intro w' hSw; (try dsimp only at hSw); go_simp; (try with_reducible rfl))
          simp only [List.setIfInBounds_toArray, List.set_cons_zero, List.set_cons_succ]
          refine wpAnyH_takeD (i := 7) (oi := { dst := some 30, op := Op.load 5 (Operand.tmp 29), type := 5, pos := "ref.go:75", after := #[{ on := 6, ground := Ground.data }], guard := none }) (d := 30) (v := ?_) rfl rfl (by kernel_rfl) (by kernel_rfl) (by kernel_rfl) (fun _ _ _ h => h) (Or.inl ⟨by rfl, ?_⟩) hHeld ?_
          rotate_left
          · (intro w' hSw; (try dsimp only at hSw); go_simp; (try with_reducible rfl))
          simp only [List.setIfInBounds_toArray, List.set_cons_zero, List.set_cons_succ]
          refine wpAnyH_takeD (i := 8) (oi := { dst := some 31, op := Op.binOp BinOp.lss 5 (Operand.tmp 26) (Operand.tmp 30) 5, type := 4, pos := "ref.go:75", after := #[{ on := 3, ground := Ground.data }, { on := 7, ground := Ground.data }], guard := none }) (d := 31) (v := ?_) rfl rfl (by kernel_rfl) (by kernel_rfl) (by kernel_rfl) (fun _ _ _ h => h) (Or.inl ⟨by rfl, ?_⟩) hHeld ?_
          rotate_left
          · (intro w' hSw; (try dsimp only at hSw); go_simp; (try with_reducible rfl))
          simp only [List.setIfInBounds_toArray, List.set_cons_zero, List.set_cons_succ]
          refine wpAnyH_done (by kernel_rfl) ?_ _
          go_wp2_with fail
          refine wp_region_held_drew (S := fun V => V.cell? ⟨b1, o1 + q, none⟩ = some (.int .u8 (x : Int)) ∧ V.cell? ⟨b2, o2 + q, none⟩ = some (.int .u8 (y : Int))) (by kernel_rfl) (by exact F0.out (d + 2)) (fun hHeld => ?_)
          refine wpAnyH_takeD (i := 0) (oi := { dst := some 32, op := Op.move (Operand.tmp 0), type := 30, pos := "ref.go:78", after := #[], guard := none }) (d := 32) (v := ?_) rfl rfl (by kernel_rfl) (by kernel_rfl) (by kernel_rfl) (fun _ _ _ h => h) (Or.inl ⟨by rfl, ?_⟩) hHeld ?_
          rotate_left
          · (intro w' hSw; (try dsimp only at hSw); go_simp; (try with_reducible rfl))
          simp only [List.setIfInBounds_toArray, List.set_cons_zero, List.set_cons_succ]
          refine wpAnyH_takeD (i := 1) (oi := { dst := some 33, op := Op.move (Operand.tmp 5), type := 3, pos := "ref.go:78", after := #[], guard := none }) (d := 33) (v := ?_) rfl rfl (by kernel_rfl) (by kernel_rfl) (by kernel_rfl) (fun _ _ _ h => h) (Or.inl ⟨by rfl, ?_⟩) hHeld ?_
          rotate_left
          · (intro w' hSw; (try dsimp only at hSw); go_simp; (try with_reducible rfl))
          simp only [List.setIfInBounds_toArray, List.set_cons_zero, List.set_cons_succ]
          refine wpAnyH_takeD (i := 2) (oi := { dst := some 34, op := Op.indexAddr 30 (Operand.tmp 32) (Operand.tmp 33), type := 0, pos := "ref.go:78", after := #[{ on := 0, ground := Ground.data }, { on := 1, ground := Ground.data }], guard := none }) (d := 34) (v := ?_) rfl rfl (by kernel_rfl) (by kernel_rfl) (by kernel_rfl) (fun _ _ _ h => h) (Or.inl ⟨by rfl, ?_⟩) hHeld ?_
          rotate_left
          · (intro w' hSw; (try dsimp only at hSw); go_simp; (try with_reducible rfl))
          simp only [List.setIfInBounds_toArray, List.set_cons_zero, List.set_cons_succ]
          refine wpAnyH_takeD (i := 3) (oi := { dst := some 35, op := Op.load 5 (Operand.tmp 34), type := 5, pos := "ref.go:78", after := #[{ on := 2, ground := Ground.data }], guard := none }) (d := 35) (v := ?_) rfl rfl (by kernel_rfl) (by kernel_rfl) (by kernel_rfl) (fun _ _ _ h => h) (Or.inl ⟨by rfl, ?_⟩) hHeld ?_
          rotate_left
          · (intro w' hSw; (try dsimp only at hSw); go_simp; (try with_reducible rfl))
          simp only [List.setIfInBounds_toArray, List.set_cons_zero, List.set_cons_succ]
          refine wpAnyH_takeD (i := 4) (oi := { dst := some 36, op := Op.move (Operand.tmp 1), type := 30, pos := "ref.go:78", after := #[], guard := none }) (d := 36) (v := ?_) rfl rfl (by kernel_rfl) (by kernel_rfl) (by kernel_rfl) (fun _ _ _ h => h) (Or.inl ⟨by rfl, ?_⟩) hHeld ?_
          rotate_left
          · (intro w' hSw; (try dsimp only at hSw); go_simp; (try with_reducible rfl))
          simp only [List.setIfInBounds_toArray, List.set_cons_zero, List.set_cons_succ]
          refine wpAnyH_takeD (i := 5) (oi := { dst := some 37, op := Op.move (Operand.tmp 5), type := 3, pos := "ref.go:78", after := #[], guard := none }) (d := 37) (v := ?_) rfl rfl (by kernel_rfl) (by kernel_rfl) (by kernel_rfl) (fun _ _ _ h => h) (Or.inl ⟨by rfl, ?_⟩) hHeld ?_
          rotate_left
          · (intro w' hSw; (try dsimp only at hSw); go_simp; (try with_reducible rfl))
          simp only [List.setIfInBounds_toArray, List.set_cons_zero, List.set_cons_succ]
          refine wpAnyH_takeD (i := 6) (oi := { dst := some 38, op := Op.indexAddr 30 (Operand.tmp 36) (Operand.tmp 37), type := 0, pos := "ref.go:78", after := #[{ on := 4, ground := Ground.data }, { on := 5, ground := Ground.data }], guard := none }) (d := 38) (v := ?_) rfl rfl (by kernel_rfl) (by kernel_rfl) (by kernel_rfl) (fun _ _ _ h => h) (Or.inl ⟨by rfl, ?_⟩) hHeld ?_
          rotate_left
          · (intro w' hSw; (try dsimp only at hSw); go_simp; (try with_reducible rfl))
          simp only [List.setIfInBounds_toArray, List.set_cons_zero, List.set_cons_succ]
          refine wpAnyH_takeD (i := 7) (oi := { dst := some 39, op := Op.load 5 (Operand.tmp 38), type := 5, pos := "ref.go:78", after := #[{ on := 6, ground := Ground.data }], guard := none }) (d := 39) (v := ?_) rfl rfl (by kernel_rfl) (by kernel_rfl) (by kernel_rfl) (fun _ _ _ h => h) (Or.inl ⟨by rfl, ?_⟩) hHeld ?_
          rotate_left
          · (intro w' hSw; (try dsimp only at hSw); go_simp; (try with_reducible rfl))
          simp only [List.setIfInBounds_toArray, List.set_cons_zero, List.set_cons_succ]
          refine wpAnyH_takeD (i := 8) (oi := { dst := some 40, op := Op.binOp BinOp.gtr 5 (Operand.tmp 35) (Operand.tmp 39) 5, type := 4, pos := "ref.go:78", after := #[{ on := 3, ground := Ground.data }, { on := 7, ground := Ground.data }], guard := none }) (d := 40) (v := ?_) rfl rfl (by kernel_rfl) (by kernel_rfl) (by kernel_rfl) (fun _ _ _ h => h) (Or.inl ⟨by rfl, ?_⟩) hHeld ?_
          rotate_left
          · (intro w' hSw; (try dsimp only at hSw); go_simp; (try with_reducible rfl))
          simp only [List.setIfInBounds_toArray, List.set_cons_zero, List.set_cons_succ]
          refine wpAnyH_done (by kernel_rfl) ?_ _
          go_wp2_with fail
          go_ret
          exact ⟨by rw [HC.out]; rfl, d + 2, rfl⟩
  · have hn := HLT2.out hlen
    have HC : Hid (cmpN n1 n2 = 1) := Lib.hid (by unfold cmpN; rw [if_neg (by omega), if_pos hn])
    have h1 : ¬ (l1.length : Int) < (l2.length : Int) := by omega
    have h3 : ((l1.length : Int) != (l2.length : Int)) = true := by simp; omega
    clear hn
    go_wp2_with fail
    go_ret
    exact ⟨by rw [HC.out]; rfl, 0, rfl⟩
end Go.Proofs.Ytnfehhblmoliaaa
