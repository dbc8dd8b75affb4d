/- Layer 3 (heap): heaps of waits: down. -/
import Derived.Test.YtpkmcokkapfnmaaHeapW3
namespace Go.Proofs.Ytpkmcokkapfnmaa.hw
open Go.RowKit Go.Maps Go.WideMaps
set_option maxRecDepth 100000
set_option linter.unusedVariables false
set_option linter.unusedSimpArgs false

theorem index_0 (x y : Int) (w : World) : (Instr.index 124 (.agg #[.int .i64 x, .int .i64 y]) (.int .i64 0)).run Try.prog w = .ok (.int .i64 x) w := by kernel_rfl
theorem index_1 (x y : Int) (w : World) : (Instr.index 124 (.agg #[.int .i64 x, .int .i64 y]) (.int .i64 1)).run Try.prog w = .ok (.int .i64 y) w := by kernel_rfl

set_option maxHeartbeats 8000000 in
theorem down_any {w : World} {base hb : Nat} {l : List (Th Wt)} {turn : Int} {A : Option Addr} {c : Nat} (h : HeapWs w base hb l turn A c) (hlen : l.length < 1000000000000000000) :
    Calls Try.prog 62 #[.pointer (some ⟨hb, 0, none⟩), .int .i64 0] w fun e w' => e = .returned (.tuple #[]) ∧ HeapWs w' base hb (downT l 0) turn A c ∧ Keep (fun g => A = some ⟨g, 0, none⟩) w w' := by
  have HH := Lib.hid h
  clear h
  go_enter Try.func62, Try.ntmps62
  go_wp2_with fail
  go_loopg [1] (l.length + 1) (fun n j W => ∃ (k : Nat) (m : List (Th Wt)), m.length + 1 ≤ k + n ∧ j = .int .i64 (k : Int) ∧ (k < m.length ∨ (k = 0 ∧ m.length = 0)) ∧ m.length = l.length ∧ downT m k = downT l 0 ∧ HeapWs W base hb m turn A c ∧ Keep (fun g => A = some ⟨g, 0, none⟩) w W)
  case atStart => exact ⟨0, l, by omega, rfl, by omega, rfl, rfl, HH.out, Keep.refl _ _⟩
  case round =>
    obtain ⟨k, m, hkn, rfl, hk, hml, hup, hW, hkeep⟩ := hrel
    rename World => W
    have HW := Lib.hid hW
    have HKP := Lib.hid hkeep
    have HUP := Lib.hid hup
    have HML := Lib.hid hml
    have hmlen : m.length < 1000000000000000000 := by omega
    clear hW hkeep hup HH hml
    have w1 : IntKind.i64.wrap (2 * (k : Int)) = 2 * (k : Int) := IntWalk.i64_in _ (by omega)
    have w2 : IntKind.i64.wrap (2 * (k : Int) + 1) = 2 * (k : Int) + 1 := IntWalk.i64_in _ (by omega)
    have w3 : IntKind.i64.wrap (2 * (k : Int) + 2) = 2 * (k : Int) + 2 := IntWalk.i64_in _ (by omega)
    go_wp2_with fail
    have HGO : Hid (∃ go, go = gk) := Lib.hid ⟨gk, rfl⟩
    obtain ⟨go, hgo⟩ := HGO.out
    have HGO := Lib.hid hgo
    clear hgo
    go_loopg [4, 15] 2 (fun n u i V => ∃ (j s : Nat), j + n = 2 ∧ i = .int .i64 (j : Int) ∧ u = .int .i64 (s : Int) ∧ (s < m.length ∨ (s = 0 ∧ m.length = 0)) ∧ (j = 0 → s = k) ∧ (j = 1 → s = lstT m k k (2 * k + 1)) ∧ (j = 2 → s = leastT m k) ∧ HeapWs V base hb m turn A c ∧ Keep (fun g => A = some ⟨g, 0, none⟩) w V)
    case atStart => exact ⟨0, k, rfl, rfl, rfl, by omega, fun _ => rfl, fun h => by omega, fun h => by omega, HW.out, HKP.out⟩
    case round =>
      obtain ⟨j, s, hj, rfl, rfl, hs, hc0N, hc1N, hc2N, hW2, hk2⟩ := hrel
      have HC0 := Lib.hid hc0N
      have HC1 := Lib.hid hc1N
      have HC2 := Lib.hid hc2N
      clear HW HKP hc0N hc1N hc2N
      rename World => W2
      have HW2 := Lib.hid hW2
      have HKP2 := Lib.hid hk2
      clear hW2 hk2
      rcases (by omega : j = 0 ∨ j = 1 ∨ j = 2) with rfl | rfl | rfl
      · have HCJ := Lib.hid (HC0.out rfl)
        obtain ⟨d, hd⟩ : ∃ d, 2 * k + 1 = d := ⟨_, rfl⟩
        have w5 : 2 * (k : Int) + 1 = (d : Int) := by omega
        have hix := fun x y => index_0 x y W2
        have HBB : Hid (Below W2.heap.size W2 W2.drew) := Lib.hid ⟨rfl, rfl, rfl, Nat.le_refl _, fun _ _ => rfl⟩
        have hc0 := blk_cell HW2.out.blk 0
        simp only [List.getElem?_toArray, List.getElem?_cons_zero, List.getElem?_cons_succ] at hc0
        go_upto_region 4 with fail
        clear hix
        (try rw [w5])
        by_cases hdm : d < m.length
        · have hs' : s < m.length := by omega
          have HE := Lib.hid (show lstT m k s d = if ltB m[d] m[s] = true then d else s from by unfold lstT; rw [dif_pos ⟨hdm, hs'⟩])
          obtain ⟨g, rfl, a0, a1, a2, a3, a4, a5⟩ := HW2.out.at d hdm
          obtain ⟨g', e, b0, b1, b2, b3, b4, b5⟩ := HW2.out.at s hs'
          injection e with e
          injection e with e
          subst e
          generalize hx : m[d] = x at *
          generalize hy : m[s] = y at *
          clear hx hy
          obtain ⟨xr, xp, xt, ⟨xx, xy, xz⟩⟩ := x
          obtain ⟨yr, yp, yt, ⟨yx, yy, yz⟩⟩ := y
          simp only at a0 a1 a2 a3 a4 a5 b0 b1 b2 b3 b4 b5
          have p0 : (0 : Int) ≤ (d : Int) := by omega
          have p1 : (d : Int) < (m.length : Int) := by omega
          have p2 : (0 : Int) ≤ (s : Int) := by omega
          have p3 : (s : Int) < (m.length : Int) := by omega
          have HSC : Hid (∀ V, Below W2.heap.size W2 V → V.cell? ⟨hb, 0, none⟩ = some (.slice (some ⟨g, 0, none⟩) m.length c) ∧ V.cell? ⟨g, d * 6, none⟩ = some (.int .i64 xr) ∧ V.cell? ⟨g, d * 6 + 1, none⟩ = some (.int .i64 xp) ∧ V.cell? ⟨g, d * 6 + 2, none⟩ = some (.int .i64 xt) ∧ V.cell? ⟨g, s * 6, none⟩ = some (.int .i64 yr) ∧ V.cell? ⟨g, s * 6 + 1, none⟩ = some (.int .i64 yp) ∧ V.cell? ⟨g, s * 6 + 2, none⟩ = some (.int .i64 yt)) := Lib.hid (fun V hV => ⟨below_cell hV (Nat.le_refl _) hc0, below_cell hV (Nat.le_refl _) a0, below_cell hV (Nat.le_refl _) a1, below_cell hV (Nat.le_refl _) a2, below_cell hV (Nat.le_refl _) b0, below_cell hV (Nat.le_refl _) b1, below_cell hV (Nat.le_refl _) b2⟩)
          have HLE := Lib.hid (fun V => less_any (⟨xr, xp, xt, ⟨xx, xy, xz⟩⟩ : Th Wt) ⟨yr, yp, yt, ⟨yx, yy, yz⟩⟩ V)
          obtain ⟨B, hB⟩ : ∃ B, ltB (⟨xr, xp, xt, ⟨xx, xy, xz⟩⟩ : Th Wt) ⟨yr, yp, yt, ⟨yx, yy, yz⟩⟩ = B := ⟨_, rfl⟩
          rw [hB] at HLE HE
          unfold keyV at HLE
          simp only at HLE
          have HD := Lib.hid hd
          have HDM := Lib.hid hdm
          clear hB hd w5 hdm a3 b3
          refine wp_region_D (Ds := []) (S := fun V => V.cell? ⟨hb, 0, none⟩ = some (.slice (some ⟨g, 0, none⟩) m.length c) ∧ V.cell? ⟨g, d * 6, none⟩ = some (.int .i64 xr) ∧ V.cell? ⟨g, d * 6 + 1, none⟩ = some (.int .i64 xp) ∧ V.cell? ⟨g, d * 6 + 2, none⟩ = some (.int .i64 xt) ∧ V.cell? ⟨g, s * 6, none⟩ = some (.int .i64 yr) ∧ V.cell? ⟨g, s * 6 + 1, none⟩ = some (.int .i64 yp) ∧ V.cell? ⟨g, s * 6 + 2, none⟩ = some (.int .i64 yt)) (by kernel_rfl) (by exact HSC.out _ HBB.out) (fun hHeld => ?_)
          refine wpAnyD_takeP (i := 0) (oi := { dst := some 18, op := Op.move (Operand.tmp 6), type := 3, pos := "heap.go:61", after := #[], guard := none }) (d := 18) (v := ?_) rfl rfl (by kernel_rfl) (by kernel_rfl) (by kernel_rfl) (fun _ _ _ h => h) (Or.inl ⟨by rfl, ?_⟩) ?_
          rotate_left
          · (intro w' _; go_simp; (try with_reducible rfl))
          simp only [List.setIfInBounds_toArray, List.set_cons_zero, List.set_cons_succ]
          refine wpAnyD_takeP (i := 1) (oi := { dst := some 19, op := Op.move (Operand.tmp 0), type := 76, pos := "heap.go:61", after := #[], guard := none }) (d := 19) (v := ?_) rfl rfl (by kernel_rfl) (by kernel_rfl) (by kernel_rfl) (fun _ _ _ h => h) (Or.inl ⟨by rfl, ?_⟩) ?_
          rotate_left
          · (intro w' _; go_simp; (try with_reducible rfl))
          simp only [List.setIfInBounds_toArray, List.set_cons_zero, List.set_cons_succ]
          refine wpAnyD_takeP (i := 2) (oi := { dst := some 20, op := Op.nilCheck (Operand.tmp 19), type := 0, pos := "heap.go:61", after := #[{ on := 1, ground := Ground.data }], guard := none }) (d := 20) (v := ?_) rfl rfl (by kernel_rfl) (by kernel_rfl) (by kernel_rfl) (fun _ _ _ h => h) (Or.inl ⟨by rfl, ?_⟩) ?_
          rotate_left
          · (intro w' _; go_simp; (try with_reducible rfl))
          simp only [List.setIfInBounds_toArray, List.set_cons_zero, List.set_cons_succ]
          refine wpAnyD_takeP (i := 3) (oi := { dst := some 21, op := Op.fieldAddr 117 (Operand.tmp 20) 0, type := 0, pos := "heap.go:61", after := #[{ on := 2, ground := Ground.data }], guard := none }) (d := 21) (v := ?_) rfl rfl (by kernel_rfl) (by kernel_rfl) (by kernel_rfl) (fun _ _ _ h => h) (Or.inl ⟨by rfl, ?_⟩) ?_
          rotate_left
          · (intro w' _; go_simp; (try with_reducible rfl))
          simp only [List.setIfInBounds_toArray, List.set_cons_zero, List.set_cons_succ]
          refine wpAnyD_takeD (i := 4) (oi := { dst := some 22, op := Op.load 115 (Operand.tmp 21), type := 115, pos := "heap.go:61", after := #[{ on := 3, ground := Ground.data }], guard := none }) (d := 22) (v := ?_) rfl rfl (by kernel_rfl) (by kernel_rfl) (by kernel_rfl) (by kernel_rfl) (fun _ _ _ h => h) (Or.inl ⟨by rfl, ?_⟩) hHeld ?_
          rotate_left
          · (intro w' hSw; (try dsimp only at hSw); go_simp; (try with_reducible rfl))
          simp only [List.setIfInBounds_toArray, List.set_cons_zero, List.set_cons_succ]
          refine wpAnyD_takeD (i := 5) (oi := { dst := some 23, op := Op.call { callee := Callee.builtin Builtin.len, args := #[Operand.tmp 22], argTypes := #[115] }, type := 3, pos := "heap.go:61", after := #[{ on := 4, ground := Ground.data }], guard := none }) (d := 23) (v := ?_) rfl rfl (by kernel_rfl) (by kernel_rfl) (by kernel_rfl) (by kernel_rfl) (fun _ _ _ h => h) (Or.inl ⟨by rfl, ?_⟩) hHeld ?_
          rotate_left
          · (intro w' hSw; (try dsimp only at hSw); go_simp; (try with_reducible rfl))
          simp only [List.setIfInBounds_toArray, List.set_cons_zero, List.set_cons_succ]
          refine wpAnyD_takeP (i := 6) (oi := { dst := some 24, op := Op.binOp BinOp.lss 3 (Operand.tmp 18) (Operand.tmp 23) 3, type := 4, pos := "heap.go:61", after := #[{ on := 0, ground := Ground.data }, { on := 5, ground := Ground.data }], guard := none }) (d := 24) (v := ?_) rfl rfl (by kernel_rfl) (by kernel_rfl) (by kernel_rfl) (fun _ _ _ h => h) (Or.inl ⟨by rfl, ?_⟩) ?_
          rotate_left
          · (intro w' _; go_simp; (try with_reducible rfl))
          simp only [List.setIfInBounds_toArray, List.set_cons_zero, List.set_cons_succ]
          refine wpAnyD_takeP (i := 7) (oi := { dst := some 25, op := Op.move (Operand.tmp 24), type := 4, pos := "heap.go:61", after := #[{ on := 6, ground := Ground.data }], guard := none }) (d := 25) (v := ?_) rfl rfl (by kernel_rfl) (by kernel_rfl) (by kernel_rfl) (fun _ _ _ h => h) (Or.inl ⟨by rfl, ?_⟩) ?_
          rotate_left
          · (intro w' _; go_simp; (try with_reducible rfl))
          simp only [List.setIfInBounds_toArray, List.set_cons_zero, List.set_cons_succ]
          refine wpAnyD_takeP (i := 8) (oi := { dst := some 26, op := Op.move (Operand.tmp 0), type := 76, pos := "heap.go:61", after := #[{ on := 7, ground := Ground.guard }], guard := some (7, true) }) (d := 26) (v := ?_) rfl rfl (by kernel_rfl) (by kernel_rfl) (by kernel_rfl) (fun _ _ _ h => h) (Or.inl ⟨by rfl, ?_⟩) ?_
          rotate_left
          · (intro w' _; go_simp; (try with_reducible rfl))
          simp only [List.setIfInBounds_toArray, List.set_cons_zero, List.set_cons_succ]
          refine wpAnyD_takeP (i := 9) (oi := { dst := some 27, op := Op.nilCheck (Operand.tmp 26), type := 0, pos := "heap.go:61", after := #[{ on := 8, ground := Ground.data }, { on := 7, ground := Ground.guard }], guard := some (7, true) }) (d := 27) (v := ?_) rfl rfl (by kernel_rfl) (by kernel_rfl) (by kernel_rfl) (fun _ _ _ h => h) (Or.inl ⟨by rfl, ?_⟩) ?_
          rotate_left
          · (intro w' _; go_simp; (try with_reducible rfl))
          simp only [List.setIfInBounds_toArray, List.set_cons_zero, List.set_cons_succ]
          refine wpAnyD_takeP (i := 10) (oi := { dst := some 28, op := Op.fieldAddr 117 (Operand.tmp 27) 0, type := 0, pos := "heap.go:61", after := #[{ on := 9, ground := Ground.data }, { on := 7, ground := Ground.guard }], guard := some (7, true) }) (d := 28) (v := ?_) rfl rfl (by kernel_rfl) (by kernel_rfl) (by kernel_rfl) (fun _ _ _ h => h) (Or.inl ⟨by rfl, ?_⟩) ?_
          rotate_left
          · (intro w' _; go_simp; (try with_reducible rfl))
          simp only [List.setIfInBounds_toArray, List.set_cons_zero, List.set_cons_succ]
          refine wpAnyD_takeP (i := 12) (oi := { dst := some 30, op := Op.move (Operand.tmp 6), type := 3, pos := "heap.go:61", after := #[{ on := 7, ground := Ground.guard }], guard := some (7, true) }) (d := 30) (v := ?_) rfl rfl (by kernel_rfl) (by kernel_rfl) (by kernel_rfl) (fun _ _ _ h => h) (Or.inl ⟨by rfl, ?_⟩) ?_
          rotate_left
          · (intro w' _; go_simp; (try with_reducible rfl))
          simp only [List.setIfInBounds_toArray, List.set_cons_zero, List.set_cons_succ]
          refine wpAnyD_takeP (i := 16) (oi := { dst := some 34, op := Op.move (Operand.tmp 0), type := 76, pos := "heap.go:61", after := #[{ on := 7, ground := Ground.guard }], guard := some (7, true) }) (d := 34) (v := ?_) rfl rfl (by kernel_rfl) (by kernel_rfl) (by kernel_rfl) (fun _ _ _ h => h) (Or.inl ⟨by rfl, ?_⟩) ?_
          rotate_left
          · (intro w' _; go_simp; (try with_reducible rfl))
          simp only [List.setIfInBounds_toArray, List.set_cons_zero, List.set_cons_succ]
          refine wpAnyD_takeP (i := 17) (oi := { dst := some 35, op := Op.nilCheck (Operand.tmp 34), type := 0, pos := "heap.go:61", after := #[{ on := 16, ground := Ground.data }, { on := 7, ground := Ground.guard }], guard := some (7, true) }) (d := 35) (v := ?_) rfl rfl (by kernel_rfl) (by kernel_rfl) (by kernel_rfl) (fun _ _ _ h => h) (Or.inl ⟨by rfl, ?_⟩) ?_
          rotate_left
          · (intro w' _; go_simp; (try with_reducible rfl))
          simp only [List.setIfInBounds_toArray, List.set_cons_zero, List.set_cons_succ]
          refine wpAnyD_takeP (i := 18) (oi := { dst := some 36, op := Op.fieldAddr 117 (Operand.tmp 35) 0, type := 0, pos := "heap.go:61", after := #[{ on := 17, ground := Ground.data }, { on := 7, ground := Ground.guard }], guard := some (7, true) }) (d := 36) (v := ?_) rfl rfl (by kernel_rfl) (by kernel_rfl) (by kernel_rfl) (fun _ _ _ h => h) (Or.inl ⟨by rfl, ?_⟩) ?_
          rotate_left
          · (intro w' _; go_simp; (try with_reducible rfl))
          simp only [List.setIfInBounds_toArray, List.set_cons_zero, List.set_cons_succ]
          refine wpAnyD_takeP (i := 20) (oi := { dst := some 38, op := Op.move (Operand.tmp 4), type := 3, pos := "heap.go:61", after := #[{ on := 7, ground := Ground.guard }], guard := some (7, true) }) (d := 38) (v := ?_) rfl rfl (by kernel_rfl) (by kernel_rfl) (by kernel_rfl) (fun _ _ _ h => h) (Or.inl ⟨by rfl, ?_⟩) ?_
          rotate_left
          · (intro w' _; go_simp; (try with_reducible rfl))
          simp only [List.setIfInBounds_toArray, List.set_cons_zero, List.set_cons_succ]
          refine wpAnyD_takeD (i := 11) (oi := { dst := some 29, op := Op.load 115 (Operand.tmp 28), type := 115, pos := "heap.go:61", after := #[{ on := 10, ground := Ground.data }, { on := 7, ground := Ground.guard }], guard := some (7, true) }) (d := 29) (v := ?_) rfl rfl (by kernel_rfl) (by kernel_rfl) (by kernel_rfl) (by kernel_rfl) (fun _ _ _ h => h) (Or.inl ⟨by rfl, ?_⟩) hHeld ?_
          rotate_left
          · (intro w' hSw; (try dsimp only at hSw); go_simp; (try with_reducible rfl))
          simp only [List.setIfInBounds_toArray, List.set_cons_zero, List.set_cons_succ]
          refine wpAnyD_takeP (i := 13) (oi := { dst := some 31, op := Op.indexAddr 115 (Operand.tmp 29) (Operand.tmp 30), type := 0, pos := "heap.go:61", after := #[{ on := 11, ground := Ground.data }, { on := 12, ground := Ground.data }, { on := 7, ground := Ground.guard }], guard := some (7, true) }) (d := 31) (v := ?_) rfl rfl (by kernel_rfl) (by kernel_rfl) (by kernel_rfl) (fun _ _ _ h => h) (Or.inl ⟨by rfl, ?_⟩) ?_
          rotate_left
          · (intro w' _; go_simp; (try with_reducible rfl))
          simp only [List.setIfInBounds_toArray, List.set_cons_zero, List.set_cons_succ]
          refine wpAnyD_takeP (i := 14) (oi := { dst := some 32, op := Op.fieldAddr 123 (Operand.tmp 31) 0, type := 0, pos := "heap.go:61", after := #[{ on := 13, ground := Ground.data }, { on := 7, ground := Ground.guard }], guard := some (7, true) }) (d := 32) (v := ?_) rfl rfl (by kernel_rfl) (by kernel_rfl) (by kernel_rfl) (fun _ _ _ h => h) (Or.inl ⟨by rfl, ?_⟩) ?_
          rotate_left
          · (intro w' _; go_simp; (try with_reducible rfl))
          simp only [List.setIfInBounds_toArray, List.set_cons_zero, List.set_cons_succ]
          refine wpAnyD_takeD (i := 15) (oi := { dst := some 33, op := Op.load 121 (Operand.tmp 32), type := 121, pos := "heap.go:61", after := #[{ on := 14, ground := Ground.data }, { on := 7, ground := Ground.guard }], guard := some (7, true) }) (d := 33) (v := ?_) rfl rfl (by kernel_rfl) (by kernel_rfl) (by kernel_rfl) (by kernel_rfl) (fun _ _ _ h => h) (Or.inl ⟨by rfl, ?_⟩) hHeld ?_
          rotate_left
          · (intro w' hSw; (try dsimp only at hSw); go_simp; (try with_reducible rfl))
          simp only [List.setIfInBounds_toArray, List.set_cons_zero, List.set_cons_succ]
          refine wpAnyD_takeD (i := 19) (oi := { dst := some 37, op := Op.load 115 (Operand.tmp 36), type := 115, pos := "heap.go:61", after := #[{ on := 18, ground := Ground.data }, { on := 7, ground := Ground.guard }], guard := some (7, true) }) (d := 37) (v := ?_) rfl rfl (by kernel_rfl) (by kernel_rfl) (by kernel_rfl) (by kernel_rfl) (fun _ _ _ h => h) (Or.inl ⟨by rfl, ?_⟩) hHeld ?_
          rotate_left
          · (intro w' hSw; (try dsimp only at hSw); go_simp; (try with_reducible rfl))
          simp only [List.setIfInBounds_toArray, List.set_cons_zero, List.set_cons_succ]
          refine wpAnyD_takeP (i := 21) (oi := { dst := some 39, op := Op.indexAddr 115 (Operand.tmp 37) (Operand.tmp 38), type := 0, pos := "heap.go:61", after := #[{ on := 19, ground := Ground.data }, { on := 20, ground := Ground.data }, { on := 7, ground := Ground.guard }], guard := some (7, true) }) (d := 39) (v := ?_) rfl rfl (by kernel_rfl) (by kernel_rfl) (by kernel_rfl) (fun _ _ _ h => h) (Or.inl ⟨by rfl, ?_⟩) ?_
          rotate_left
          · (intro w' _; go_simp; (try with_reducible rfl))
          simp only [List.setIfInBounds_toArray, List.set_cons_zero, List.set_cons_succ]
          refine wpAnyD_takeP (i := 22) (oi := { dst := some 40, op := Op.fieldAddr 123 (Operand.tmp 39) 0, type := 0, pos := "heap.go:61", after := #[{ on := 21, ground := Ground.data }, { on := 7, ground := Ground.guard }], guard := some (7, true) }) (d := 40) (v := ?_) rfl rfl (by kernel_rfl) (by kernel_rfl) (by kernel_rfl) (fun _ _ _ h => h) (Or.inl ⟨by rfl, ?_⟩) ?_
          rotate_left
          · (intro w' _; go_simp; (try with_reducible rfl))
          simp only [List.setIfInBounds_toArray, List.set_cons_zero, List.set_cons_succ]
          refine wpAnyD_takeD (i := 23) (oi := { dst := some 41, op := Op.load 121 (Operand.tmp 40), type := 121, pos := "heap.go:61", after := #[{ on := 22, ground := Ground.data }, { on := 7, ground := Ground.guard }], guard := some (7, true) }) (d := 41) (v := ?_) rfl rfl (by kernel_rfl) (by kernel_rfl) (by kernel_rfl) (by kernel_rfl) (fun _ _ _ h => h) (Or.inl ⟨by rfl, ?_⟩) hHeld ?_
          rotate_left
          · (intro w' hSw; (try dsimp only at hSw); go_simp; (try with_reducible rfl))
          simp only [List.setIfInBounds_toArray, List.set_cons_zero, List.set_cons_succ]
          refine wpAnyD_one (i := 24) (o := { dst := some 42, op := Op.call { callee := Callee.value (Operand.func 65), args := #[Operand.tmp 33, Operand.tmp 41], argTypes := #[121, 121] }, type := 4, pos := "heap.go:61", after := #[{ on := 15, ground := Ground.data }, { on := 23, ground := Ground.data }, { on := 7, ground := Ground.chain }, { on := 7, ground := Ground.guard }], guard := some (7, true) }) (by kernel_rfl) rfl (by rfl) (fun K hK => ?_)
          go_simp; refine (HLE.out _).mono ?_; rintro e w' ⟨rfl, hb'⟩; have HBB := Lib.hid (HBB.out.trans (hb'.mono HBB.out.size)); have h := HSC.out _ HBB.out; clear hb'; go_simp
          refine hK.out _ _ h (fun hHeld => ?_)
          clear hK K
          try simp only [Act.put, List.setIfInBounds_toArray, List.set_cons_zero, List.set_cons_succ]
          refine wpAnyD_takeP (i := 25) (oi := { dst := some 43, op := Op.pick (Operand.tmp 25) (Operand.tmp 42) (Operand.const (Value.bool false)), type := 4, pos := "heap.go:61", after := #[{ on := 7, ground := Ground.data }, { on := 24, ground := Ground.data }], guard := none }) (d := 43) (v := ?_) rfl rfl (by kernel_rfl) (by kernel_rfl) (by kernel_rfl) (fun _ _ _ h => h) (Or.inl ⟨by rfl, ?_⟩) ?_
          rotate_left
          · (intro w' _; go_simp; (try with_reducible rfl))
          simp only [List.setIfInBounds_toArray, List.set_cons_zero, List.set_cons_succ]
          refine wpAnyD_done (by kernel_rfl) ?_ _
          have HW3 := Lib.hid (HW2.out.below HBB.out (Nat.le_refl _))
          have HKP3 := Lib.hid (HKP2.out.trans (Keep.of_below (F := fun g' => (some ⟨g, 0, none⟩ : Option Addr) = some ⟨g', 0, none⟩) HBB.out) (fun x hx => .inl (by simpa using hx)))
          clear hHeld a0 a1 a2 b0 b1 b2 hc0 HSC HLE HW2 HKP2 HBB
          cases B with
          | false =>
            simp only [Bool.false_eq_true, if_false] at HE
            go_wp2_with fail
            have w9 : (d : Int) = 2 * (k : Int) + 1 := by have := HD.out; omega
            (try rw [w9])
            clear w9
            go_roundg (gk - 1)
            case measure => omega
            case rel => exact ⟨1, s, by omega, by first | rfl | simp, by first | rfl | (have := HD.out; exact congrArg (Value.int .i64) (by omega)), .inl hs', fun h => by omega, fun _ => HE.out.symm.trans (by rw [HCJ.out, HD.out]), fun h => by omega, HW3.out, by first | exact HKP3.out | exact HKP3.out.mono (fun x hx => by simpa using hx)⟩
          | true =>
            simp only [if_true] at HE
            go_wp2_with fail
            have w9 : (d : Int) = 2 * (k : Int) + 1 := by have := HD.out; omega
            (try rw [w9])
            clear w9
            go_roundg (gk - 1)
            case measure => omega
            case rel => exact ⟨1, d, by omega, by first | rfl | simp, by first | rfl | (have := HD.out; exact congrArg (Value.int .i64) (by omega)), .inl HDM.out, fun h => by omega, fun _ => HE.out.symm.trans (by rw [HCJ.out, HD.out]), fun h => by omega, HW3.out, by first | exact HKP3.out | exact HKP3.out.mono (fun x hx => by simpa using hx)⟩
        · have hdm' : ¬ (d : Int) < (m.length : Int) := by omega
          have HE := Lib.hid (show lstT m k s d = s from by unfold lstT; rw [dif_neg (fun h => hdm h.1)])
          have HD := Lib.hid hd
          clear hdm hd w5
          refine wp_region_D (Ds := []) (S := fun V => V.cell? ⟨hb, 0, none⟩ = some (.slice A m.length c)) (by kernel_rfl) (by exact hc0) (fun hHeld => ?_)
          refine wpAnyD_takeP (i := 0) (oi := { dst := some 18, op := Op.move (Operand.tmp 6), type := 3, pos := "heap.go:61", after := #[], guard := none }) (d := 18) (v := ?_) rfl rfl (by kernel_rfl) (by kernel_rfl) (by kernel_rfl) (fun _ _ _ h => h) (Or.inl ⟨by rfl, ?_⟩) ?_
          rotate_left
          · (intro w' _; go_simp; (try with_reducible rfl))
          simp only [List.setIfInBounds_toArray, List.set_cons_zero, List.set_cons_succ]
          refine wpAnyD_takeP (i := 1) (oi := { dst := some 19, op := Op.move (Operand.tmp 0), type := 76, pos := "heap.go:61", after := #[], guard := none }) (d := 19) (v := ?_) rfl rfl (by kernel_rfl) (by kernel_rfl) (by kernel_rfl) (fun _ _ _ h => h) (Or.inl ⟨by rfl, ?_⟩) ?_
          rotate_left
          · (intro w' _; go_simp; (try with_reducible rfl))
          simp only [List.setIfInBounds_toArray, List.set_cons_zero, List.set_cons_succ]
          refine wpAnyD_takeP (i := 2) (oi := { dst := some 20, op := Op.nilCheck (Operand.tmp 19), type := 0, pos := "heap.go:61", after := #[{ on := 1, ground := Ground.data }], guard := none }) (d := 20) (v := ?_) rfl rfl (by kernel_rfl) (by kernel_rfl) (by kernel_rfl) (fun _ _ _ h => h) (Or.inl ⟨by rfl, ?_⟩) ?_
          rotate_left
          · (intro w' _; go_simp; (try with_reducible rfl))
          simp only [List.setIfInBounds_toArray, List.set_cons_zero, List.set_cons_succ]
          refine wpAnyD_takeP (i := 3) (oi := { dst := some 21, op := Op.fieldAddr 117 (Operand.tmp 20) 0, type := 0, pos := "heap.go:61", after := #[{ on := 2, ground := Ground.data }], guard := none }) (d := 21) (v := ?_) rfl rfl (by kernel_rfl) (by kernel_rfl) (by kernel_rfl) (fun _ _ _ h => h) (Or.inl ⟨by rfl, ?_⟩) ?_
          rotate_left
          · (intro w' _; go_simp; (try with_reducible rfl))
          simp only [List.setIfInBounds_toArray, List.set_cons_zero, List.set_cons_succ]
          refine wpAnyD_takeD (i := 4) (oi := { dst := some 22, op := Op.load 115 (Operand.tmp 21), type := 115, pos := "heap.go:61", after := #[{ on := 3, ground := Ground.data }], guard := none }) (d := 22) (v := ?_) rfl rfl (by kernel_rfl) (by kernel_rfl) (by kernel_rfl) (by kernel_rfl) (fun _ _ _ h => h) (Or.inl ⟨by rfl, ?_⟩) hHeld ?_
          rotate_left
          · (intro w' hSw; (try dsimp only at hSw); go_simp; (try with_reducible rfl))
          simp only [List.setIfInBounds_toArray, List.set_cons_zero, List.set_cons_succ]
          refine wpAnyD_takeD (i := 5) (oi := { dst := some 23, op := Op.call { callee := Callee.builtin Builtin.len, args := #[Operand.tmp 22], argTypes := #[115] }, type := 3, pos := "heap.go:61", after := #[{ on := 4, ground := Ground.data }], guard := none }) (d := 23) (v := ?_) rfl rfl (by kernel_rfl) (by kernel_rfl) (by kernel_rfl) (by kernel_rfl) (fun _ _ _ h => h) (Or.inl ⟨by rfl, ?_⟩) hHeld ?_
          rotate_left
          · (intro w' hSw; (try dsimp only at hSw); go_simp; (try with_reducible rfl))
          simp only [List.setIfInBounds_toArray, List.set_cons_zero, List.set_cons_succ]
          refine wpAnyD_takeP (i := 6) (oi := { dst := some 24, op := Op.binOp BinOp.lss 3 (Operand.tmp 18) (Operand.tmp 23) 3, type := 4, pos := "heap.go:61", after := #[{ on := 0, ground := Ground.data }, { on := 5, ground := Ground.data }], guard := none }) (d := 24) (v := ?_) rfl rfl (by kernel_rfl) (by kernel_rfl) (by kernel_rfl) (fun _ _ _ h => h) (Or.inl ⟨by rfl, ?_⟩) ?_
          rotate_left
          · (intro w' _; go_simp; (try with_reducible rfl))
          simp only [List.setIfInBounds_toArray, List.set_cons_zero, List.set_cons_succ]
          refine wpAnyD_takeP (i := 7) (oi := { dst := some 25, op := Op.move (Operand.tmp 24), type := 4, pos := "heap.go:61", after := #[{ on := 6, ground := Ground.data }], guard := none }) (d := 25) (v := ?_) rfl rfl (by kernel_rfl) (by kernel_rfl) (by kernel_rfl) (fun _ _ _ h => h) (Or.inl ⟨by rfl, ?_⟩) ?_
          rotate_left
          · (intro w' _; go_simp; (try with_reducible rfl))
          simp only [List.setIfInBounds_toArray, List.set_cons_zero, List.set_cons_succ]
          refine wpAnyD_takeD (i := 8) (oi := { dst := some 26, op := Op.move (Operand.tmp 0), type := 76, pos := "heap.go:61", after := #[{ on := 7, ground := Ground.guard }], guard := some (7, true) }) (d := 26) (v := undef) rfl rfl (by kernel_rfl) (by kernel_rfl) (by kernel_rfl) (by kernel_rfl) (fun _ _ _ h => h) (Or.inr ⟨by rfl, rfl⟩) hHeld ?_
          simp only [List.setIfInBounds_toArray, List.set_cons_zero, List.set_cons_succ]
          refine wpAnyD_takeD (i := 9) (oi := { dst := some 27, op := Op.nilCheck (Operand.tmp 26), type := 0, pos := "heap.go:61", after := #[{ on := 8, ground := Ground.data }, { on := 7, ground := Ground.guard }], guard := some (7, true) }) (d := 27) (v := undef) rfl rfl (by kernel_rfl) (by kernel_rfl) (by kernel_rfl) (by kernel_rfl) (fun _ _ _ h => h) (Or.inr ⟨by rfl, rfl⟩) hHeld ?_
          simp only [List.setIfInBounds_toArray, List.set_cons_zero, List.set_cons_succ]
          refine wpAnyD_takeD (i := 10) (oi := { dst := some 28, op := Op.fieldAddr 117 (Operand.tmp 27) 0, type := 0, pos := "heap.go:61", after := #[{ on := 9, ground := Ground.data }, { on := 7, ground := Ground.guard }], guard := some (7, true) }) (d := 28) (v := undef) rfl rfl (by kernel_rfl) (by kernel_rfl) (by kernel_rfl) (by kernel_rfl) (fun _ _ _ h => h) (Or.inr ⟨by rfl, rfl⟩) hHeld ?_
          simp only [List.setIfInBounds_toArray, List.set_cons_zero, List.set_cons_succ]
          refine wpAnyD_takeD (i := 11) (oi := { dst := some 29, op := Op.load 115 (Operand.tmp 28), type := 115, pos := "heap.go:61", after := #[{ on := 10, ground := Ground.data }, { on := 7, ground := Ground.guard }], guard := some (7, true) }) (d := 29) (v := undef) rfl rfl (by kernel_rfl) (by kernel_rfl) (by kernel_rfl) (by kernel_rfl) (fun _ _ _ h => h) (Or.inr ⟨by rfl, rfl⟩) hHeld ?_
          simp only [List.setIfInBounds_toArray, List.set_cons_zero, List.set_cons_succ]
          refine wpAnyD_takeD (i := 12) (oi := { dst := some 30, op := Op.move (Operand.tmp 6), type := 3, pos := "heap.go:61", after := #[{ on := 7, ground := Ground.guard }], guard := some (7, true) }) (d := 30) (v := undef) rfl rfl (by kernel_rfl) (by kernel_rfl) (by kernel_rfl) (by kernel_rfl) (fun _ _ _ h => h) (Or.inr ⟨by rfl, rfl⟩) hHeld ?_
          simp only [List.setIfInBounds_toArray, List.set_cons_zero, List.set_cons_succ]
          refine wpAnyD_takeD (i := 13) (oi := { dst := some 31, op := Op.indexAddr 115 (Operand.tmp 29) (Operand.tmp 30), type := 0, pos := "heap.go:61", after := #[{ on := 11, ground := Ground.data }, { on := 12, ground := Ground.data }, { on := 7, ground := Ground.guard }], guard := some (7, true) }) (d := 31) (v := undef) rfl rfl (by kernel_rfl) (by kernel_rfl) (by kernel_rfl) (by kernel_rfl) (fun _ _ _ h => h) (Or.inr ⟨by rfl, rfl⟩) hHeld ?_
          simp only [List.setIfInBounds_toArray, List.set_cons_zero, List.set_cons_succ]
          refine wpAnyD_takeD (i := 14) (oi := { dst := some 32, op := Op.fieldAddr 123 (Operand.tmp 31) 0, type := 0, pos := "heap.go:61", after := #[{ on := 13, ground := Ground.data }, { on := 7, ground := Ground.guard }], guard := some (7, true) }) (d := 32) (v := undef) rfl rfl (by kernel_rfl) (by kernel_rfl) (by kernel_rfl) (by kernel_rfl) (fun _ _ _ h => h) (Or.inr ⟨by rfl, rfl⟩) hHeld ?_
          simp only [List.setIfInBounds_toArray, List.set_cons_zero, List.set_cons_succ]
          refine wpAnyD_takeD (i := 15) (oi := { dst := some 33, op := Op.load 121 (Operand.tmp 32), type := 121, pos := "heap.go:61", after := #[{ on := 14, ground := Ground.data }, { on := 7, ground := Ground.guard }], guard := some (7, true) }) (d := 33) (v := undef) rfl rfl (by kernel_rfl) (by kernel_rfl) (by kernel_rfl) (by kernel_rfl) (fun _ _ _ h => h) (Or.inr ⟨by rfl, rfl⟩) hHeld ?_
          simp only [List.setIfInBounds_toArray, List.set_cons_zero, List.set_cons_succ]
          refine wpAnyD_takeD (i := 16) (oi := { dst := some 34, op := Op.move (Operand.tmp 0), type := 76, pos := "heap.go:61", after := #[{ on := 7, ground := Ground.guard }], guard := some (7, true) }) (d := 34) (v := undef) rfl rfl (by kernel_rfl) (by kernel_rfl) (by kernel_rfl) (by kernel_rfl) (fun _ _ _ h => h) (Or.inr ⟨by rfl, rfl⟩) hHeld ?_
          simp only [List.setIfInBounds_toArray, List.set_cons_zero, List.set_cons_succ]
          refine wpAnyD_takeD (i := 17) (oi := { dst := some 35, op := Op.nilCheck (Operand.tmp 34), type := 0, pos := "heap.go:61", after := #[{ on := 16, ground := Ground.data }, { on := 7, ground := Ground.guard }], guard := some (7, true) }) (d := 35) (v := undef) rfl rfl (by kernel_rfl) (by kernel_rfl) (by kernel_rfl) (by kernel_rfl) (fun _ _ _ h => h) (Or.inr ⟨by rfl, rfl⟩) hHeld ?_
          simp only [List.setIfInBounds_toArray, List.set_cons_zero, List.set_cons_succ]
          refine wpAnyD_takeD (i := 18) (oi := { dst := some 36, op := Op.fieldAddr 117 (Operand.tmp 35) 0, type := 0, pos := "heap.go:61", after := #[{ on := 17, ground := Ground.data }, { on := 7, ground := Ground.guard }], guard := some (7, true) }) (d := 36) (v := undef) rfl rfl (by kernel_rfl) (by kernel_rfl) (by kernel_rfl) (by kernel_rfl) (fun _ _ _ h => h) (Or.inr ⟨by rfl, rfl⟩) hHeld ?_
          simp only [List.setIfInBounds_toArray, List.set_cons_zero, List.set_cons_succ]
          refine wpAnyD_takeD (i := 19) (oi := { dst := some 37, op := Op.load 115 (Operand.tmp 36), type := 115, pos := "heap.go:61", after := #[{ on := 18, ground := Ground.data }, { on := 7, ground := Ground.guard }], guard := some (7, true) }) (d := 37) (v := undef) rfl rfl (by kernel_rfl) (by kernel_rfl) (by kernel_rfl) (by kernel_rfl) (fun _ _ _ h => h) (Or.inr ⟨by rfl, rfl⟩) hHeld ?_
          simp only [List.setIfInBounds_toArray, List.set_cons_zero, List.set_cons_succ]
          refine wpAnyD_takeD (i := 20) (oi := { dst := some 38, op := Op.move (Operand.tmp 4), type := 3, pos := "heap.go:61", after := #[{ on := 7, ground := Ground.guard }], guard := some (7, true) }) (d := 38) (v := undef) rfl rfl (by kernel_rfl) (by kernel_rfl) (by kernel_rfl) (by kernel_rfl) (fun _ _ _ h => h) (Or.inr ⟨by rfl, rfl⟩) hHeld ?_
          simp only [List.setIfInBounds_toArray, List.set_cons_zero, List.set_cons_succ]
          refine wpAnyD_takeD (i := 21) (oi := { dst := some 39, op := Op.indexAddr 115 (Operand.tmp 37) (Operand.tmp 38), type := 0, pos := "heap.go:61", after := #[{ on := 19, ground := Ground.data }, { on := 20, ground := Ground.data }, { on := 7, ground := Ground.guard }], guard := some (7, true) }) (d := 39) (v := undef) rfl rfl (by kernel_rfl) (by kernel_rfl) (by kernel_rfl) (by kernel_rfl) (fun _ _ _ h => h) (Or.inr ⟨by rfl, rfl⟩) hHeld ?_
          simp only [List.setIfInBounds_toArray, List.set_cons_zero, List.set_cons_succ]
          refine wpAnyD_takeD (i := 22) (oi := { dst := some 40, op := Op.fieldAddr 123 (Operand.tmp 39) 0, type := 0, pos := "heap.go:61", after := #[{ on := 21, ground := Ground.data }, { on := 7, ground := Ground.guard }], guard := some (7, true) }) (d := 40) (v := undef) rfl rfl (by kernel_rfl) (by kernel_rfl) (by kernel_rfl) (by kernel_rfl) (fun _ _ _ h => h) (Or.inr ⟨by rfl, rfl⟩) hHeld ?_
          simp only [List.setIfInBounds_toArray, List.set_cons_zero, List.set_cons_succ]
          refine wpAnyD_takeD (i := 23) (oi := { dst := some 41, op := Op.load 121 (Operand.tmp 40), type := 121, pos := "heap.go:61", after := #[{ on := 22, ground := Ground.data }, { on := 7, ground := Ground.guard }], guard := some (7, true) }) (d := 41) (v := undef) rfl rfl (by kernel_rfl) (by kernel_rfl) (by kernel_rfl) (by kernel_rfl) (fun _ _ _ h => h) (Or.inr ⟨by rfl, rfl⟩) hHeld ?_
          simp only [List.setIfInBounds_toArray, List.set_cons_zero, List.set_cons_succ]
          refine wpAnyD_takeD (i := 24) (oi := { dst := some 42, op := Op.call { callee := Callee.value (Operand.func 65), args := #[Operand.tmp 33, Operand.tmp 41], argTypes := #[121, 121] }, type := 4, pos := "heap.go:61", after := #[{ on := 15, ground := Ground.data }, { on := 23, ground := Ground.data }, { on := 7, ground := Ground.chain }, { on := 7, ground := Ground.guard }], guard := some (7, true) }) (d := 42) (v := undef) rfl rfl (by kernel_rfl) (by kernel_rfl) (by kernel_rfl) (by kernel_rfl) (fun _ _ _ h => h) (Or.inr ⟨by rfl, rfl⟩) hHeld ?_
          simp only [List.setIfInBounds_toArray, List.set_cons_zero, List.set_cons_succ]
          refine wpAnyD_takeP (i := 25) (oi := { dst := some 43, op := Op.pick (Operand.tmp 25) (Operand.tmp 42) (Operand.const (Value.bool false)), type := 4, pos := "heap.go:61", after := #[{ on := 7, ground := Ground.data }, { on := 24, ground := Ground.data }], guard := none }) (d := 43) (v := ?_) rfl rfl (by kernel_rfl) (by kernel_rfl) (by kernel_rfl) (fun _ _ _ h => h) (Or.inl ⟨by rfl, ?_⟩) ?_
          rotate_left
          · (intro w' _; go_simp; (try with_reducible rfl))
          simp only [List.setIfInBounds_toArray, List.set_cons_zero, List.set_cons_succ]
          refine wpAnyD_done (by kernel_rfl) ?_ _
          have HW3 := Lib.hid (HW2.out.below HBB.out (Nat.le_refl _))
          have HKP3 := Lib.hid (HKP2.out.trans (Keep.of_below (F := fun g' => A = some ⟨g', 0, none⟩) HBB.out) (fun x hx => .inl (by simpa using hx)))
          clear hHeld hc0 HW2 HKP2 HBB
          go_wp2_with fail
          have w9 : (d : Int) = 2 * (k : Int) + 1 := by have := HD.out; omega
          (try rw [w9])
          clear w9
          go_roundg (gk - 1)
          case measure => omega
          case rel => exact ⟨1, s, by omega, by first | rfl | simp, by first | rfl | (have := HD.out; exact congrArg (Value.int .i64) (by omega)), hs, fun h => by omega, fun _ => HE.out.symm.trans (by rw [HCJ.out, HD.out]), fun h => by omega, HW3.out, by first | exact HKP3.out | exact HKP3.out.mono (fun x hx => by simpa using hx)⟩
      · have HCJ := Lib.hid (HC1.out rfl)
        obtain ⟨d, hd⟩ : ∃ d, 2 * k + 2 = d := ⟨_, rfl⟩
        have w5 : 2 * (k : Int) + 2 = (d : Int) := by omega
        have hix := fun x y => index_1 x y W2
        have HBB : Hid (Below W2.heap.size W2 W2.drew) := Lib.hid ⟨rfl, rfl, rfl, Nat.le_refl _, fun _ _ => rfl⟩
        have hc0 := blk_cell HW2.out.blk 0
        simp only [List.getElem?_toArray, List.getElem?_cons_zero, List.getElem?_cons_succ] at hc0
        go_upto_region 4 with fail
        clear hix
        (try rw [w5])
        by_cases hdm : d < m.length
        · have hs' : s < m.length := by omega
          have HE := Lib.hid (show lstT m k s d = if ltB m[d] m[s] = true then d else s from by unfold lstT; rw [dif_pos ⟨hdm, hs'⟩])
          obtain ⟨g, rfl, a0, a1, a2, a3, a4, a5⟩ := HW2.out.at d hdm
          obtain ⟨g', e, b0, b1, b2, b3, b4, b5⟩ := HW2.out.at s hs'
          injection e with e
          injection e with e
          subst e
          generalize hx : m[d] = x at *
          generalize hy : m[s] = y at *
          clear hx hy
          obtain ⟨xr, xp, xt, ⟨xx, xy, xz⟩⟩ := x
          obtain ⟨yr, yp, yt, ⟨yx, yy, yz⟩⟩ := y
          simp only at a0 a1 a2 a3 a4 a5 b0 b1 b2 b3 b4 b5
          have p0 : (0 : Int) ≤ (d : Int) := by omega
          have p1 : (d : Int) < (m.length : Int) := by omega
          have p2 : (0 : Int) ≤ (s : Int) := by omega
          have p3 : (s : Int) < (m.length : Int) := by omega
          have HSC : Hid (∀ V, Below W2.heap.size W2 V → V.cell? ⟨hb, 0, none⟩ = some (.slice (some ⟨g, 0, none⟩) m.length c) ∧ V.cell? ⟨g, d * 6, none⟩ = some (.int .i64 xr) ∧ V.cell? ⟨g, d * 6 + 1, none⟩ = some (.int .i64 xp) ∧ V.cell? ⟨g, d * 6 + 2, none⟩ = some (.int .i64 xt) ∧ V.cell? ⟨g, s * 6, none⟩ = some (.int .i64 yr) ∧ V.cell? ⟨g, s * 6 + 1, none⟩ = some (.int .i64 yp) ∧ V.cell? ⟨g, s * 6 + 2, none⟩ = some (.int .i64 yt)) := Lib.hid (fun V hV => ⟨below_cell hV (Nat.le_refl _) hc0, below_cell hV (Nat.le_refl _) a0, below_cell hV (Nat.le_refl _) a1, below_cell hV (Nat.le_refl _) a2, below_cell hV (Nat.le_refl _) b0, below_cell hV (Nat.le_refl _) b1, below_cell hV (Nat.le_refl _) b2⟩)
          have HLE := Lib.hid (fun V => less_any (⟨xr, xp, xt, ⟨xx, xy, xz⟩⟩ : Th Wt) ⟨yr, yp, yt, ⟨yx, yy, yz⟩⟩ V)
          obtain ⟨B, hB⟩ : ∃ B, ltB (⟨xr, xp, xt, ⟨xx, xy, xz⟩⟩ : Th Wt) ⟨yr, yp, yt, ⟨yx, yy, yz⟩⟩ = B := ⟨_, rfl⟩
          rw [hB] at HLE HE
          unfold keyV at HLE
          simp only at HLE
          have HD := Lib.hid hd
          have HDM := Lib.hid hdm
          clear hB hd w5 hdm a3 b3
          refine wp_region_D (Ds := []) (S := fun V => V.cell? ⟨hb, 0, none⟩ = some (.slice (some ⟨g, 0, none⟩) m.length c) ∧ V.cell? ⟨g, d * 6, none⟩ = some (.int .i64 xr) ∧ V.cell? ⟨g, d * 6 + 1, none⟩ = some (.int .i64 xp) ∧ V.cell? ⟨g, d * 6 + 2, none⟩ = some (.int .i64 xt) ∧ V.cell? ⟨g, s * 6, none⟩ = some (.int .i64 yr) ∧ V.cell? ⟨g, s * 6 + 1, none⟩ = some (.int .i64 yp) ∧ V.cell? ⟨g, s * 6 + 2, none⟩ = some (.int .i64 yt)) (by kernel_rfl) (by exact HSC.out _ HBB.out) (fun hHeld => ?_)
          refine wpAnyD_takeP (i := 0) (oi := { dst := some 18, op := Op.move (Operand.tmp 6), type := 3, pos := "heap.go:61", after := #[], guard := none }) (d := 18) (v := ?_) rfl rfl (by kernel_rfl) (by kernel_rfl) (by kernel_rfl) (fun _ _ _ h => h) (Or.inl ⟨by rfl, ?_⟩) ?_
          rotate_left
          · (intro w' _; go_simp; (try with_reducible rfl))
          simp only [List.setIfInBounds_toArray, List.set_cons_zero, List.set_cons_succ]
          refine wpAnyD_takeP (i := 1) (oi := { dst := some 19, op := Op.move (Operand.tmp 0), type := 76, pos := "heap.go:61", after := #[], guard := none }) (d := 19) (v := ?_) rfl rfl (by kernel_rfl) (by kernel_rfl) (by kernel_rfl) (fun _ _ _ h => h) (Or.inl ⟨by rfl, ?_⟩) ?_
          rotate_left
          · (intro w' _; go_simp; (try with_reducible rfl))
          simp only [List.setIfInBounds_toArray, List.set_cons_zero, List.set_cons_succ]
          refine wpAnyD_takeP (i := 2) (oi := { dst := some 20, op := Op.nilCheck (Operand.tmp 19), type := 0, pos := "heap.go:61", after := #[{ on := 1, ground := Ground.data }], guard := none }) (d := 20) (v := ?_) rfl rfl (by kernel_rfl) (by kernel_rfl) (by kernel_rfl) (fun _ _ _ h => h) (Or.inl ⟨by rfl, ?_⟩) ?_
          rotate_left
          · (intro w' _; go_simp; (try with_reducible rfl))
          simp only [List.setIfInBounds_toArray, List.set_cons_zero, List.set_cons_succ]
          refine wpAnyD_takeP (i := 3) (oi := { dst := some 21, op := Op.fieldAddr 117 (Operand.tmp 20) 0, type := 0, pos := "heap.go:61", after := #[{ on := 2, ground := Ground.data }], guard := none }) (d := 21) (v := ?_) rfl rfl (by kernel_rfl) (by kernel_rfl) (by kernel_rfl) (fun _ _ _ h => h) (Or.inl ⟨by rfl, ?_⟩) ?_
          rotate_left
          · (intro w' _; go_simp; (try with_reducible rfl))
          simp only [List.setIfInBounds_toArray, List.set_cons_zero, List.set_cons_succ]
          refine wpAnyD_takeD (i := 4) (oi := { dst := some 22, op := Op.load 115 (Operand.tmp 21), type := 115, pos := "heap.go:61", after := #[{ on := 3, ground := Ground.data }], guard := none }) (d := 22) (v := ?_) rfl rfl (by kernel_rfl) (by kernel_rfl) (by kernel_rfl) (by kernel_rfl) (fun _ _ _ h => h) (Or.inl ⟨by rfl, ?_⟩) hHeld ?_
          rotate_left
          · (intro w' hSw; (try dsimp only at hSw); go_simp; (try with_reducible rfl))
          simp only [List.setIfInBounds_toArray, List.set_cons_zero, List.set_cons_succ]
          refine wpAnyD_takeD (i := 5) (oi := { dst := some 23, op := Op.call { callee := Callee.builtin Builtin.len, args := #[Operand.tmp 22], argTypes := #[115] }, type := 3, pos := "heap.go:61", after := #[{ on := 4, ground := Ground.data }], guard := none }) (d := 23) (v := ?_) rfl rfl (by kernel_rfl) (by kernel_rfl) (by kernel_rfl) (by kernel_rfl) (fun _ _ _ h => h) (Or.inl ⟨by rfl, ?_⟩) hHeld ?_
          rotate_left
          · (intro w' hSw; (try dsimp only at hSw); go_simp; (try with_reducible rfl))
          simp only [List.setIfInBounds_toArray, List.set_cons_zero, List.set_cons_succ]
          refine wpAnyD_takeP (i := 6) (oi := { dst := some 24, op := Op.binOp BinOp.lss 3 (Operand.tmp 18) (Operand.tmp 23) 3, type := 4, pos := "heap.go:61", after := #[{ on := 0, ground := Ground.data }, { on := 5, ground := Ground.data }], guard := none }) (d := 24) (v := ?_) rfl rfl (by kernel_rfl) (by kernel_rfl) (by kernel_rfl) (fun _ _ _ h => h) (Or.inl ⟨by rfl, ?_⟩) ?_
          rotate_left
          · (intro w' _; go_simp; (try with_reducible rfl))
          simp only [List.setIfInBounds_toArray, List.set_cons_zero, List.set_cons_succ]
          refine wpAnyD_takeP (i := 7) (oi := { dst := some 25, op := Op.move (Operand.tmp 24), type := 4, pos := "heap.go:61", after := #[{ on := 6, ground := Ground.data }], guard := none }) (d := 25) (v := ?_) rfl rfl (by kernel_rfl) (by kernel_rfl) (by kernel_rfl) (fun _ _ _ h => h) (Or.inl ⟨by rfl, ?_⟩) ?_
          rotate_left
          · (intro w' _; go_simp; (try with_reducible rfl))
          simp only [List.setIfInBounds_toArray, List.set_cons_zero, List.set_cons_succ]
          refine wpAnyD_takeP (i := 8) (oi := { dst := some 26, op := Op.move (Operand.tmp 0), type := 76, pos := "heap.go:61", after := #[{ on := 7, ground := Ground.guard }], guard := some (7, true) }) (d := 26) (v := ?_) rfl rfl (by kernel_rfl) (by kernel_rfl) (by kernel_rfl) (fun _ _ _ h => h) (Or.inl ⟨by rfl, ?_⟩) ?_
          rotate_left
          · (intro w' _; go_simp; (try with_reducible rfl))
          simp only [List.setIfInBounds_toArray, List.set_cons_zero, List.set_cons_succ]
          refine wpAnyD_takeP (i := 9) (oi := { dst := some 27, op := Op.nilCheck (Operand.tmp 26), type := 0, pos := "heap.go:61", after := #[{ on := 8, ground := Ground.data }, { on := 7, ground := Ground.guard }], guard := some (7, true) }) (d := 27) (v := ?_) rfl rfl (by kernel_rfl) (by kernel_rfl) (by kernel_rfl) (fun _ _ _ h => h) (Or.inl ⟨by rfl, ?_⟩) ?_
          rotate_left
          · (intro w' _; go_simp; (try with_reducible rfl))
          simp only [List.setIfInBounds_toArray, List.set_cons_zero, List.set_cons_succ]
          refine wpAnyD_takeP (i := 10) (oi := { dst := some 28, op := Op.fieldAddr 117 (Operand.tmp 27) 0, type := 0, pos := "heap.go:61", after := #[{ on := 9, ground := Ground.data }, { on := 7, ground := Ground.guard }], guard := some (7, true) }) (d := 28) (v := ?_) rfl rfl (by kernel_rfl) (by kernel_rfl) (by kernel_rfl) (fun _ _ _ h => h) (Or.inl ⟨by rfl, ?_⟩) ?_
          rotate_left
          · (intro w' _; go_simp; (try with_reducible rfl))
          simp only [List.setIfInBounds_toArray, List.set_cons_zero, List.set_cons_succ]
          refine wpAnyD_takeP (i := 12) (oi := { dst := some 30, op := Op.move (Operand.tmp 6), type := 3, pos := "heap.go:61", after := #[{ on := 7, ground := Ground.guard }], guard := some (7, true) }) (d := 30) (v := ?_) rfl rfl (by kernel_rfl) (by kernel_rfl) (by kernel_rfl) (fun _ _ _ h => h) (Or.inl ⟨by rfl, ?_⟩) ?_
          rotate_left
          · (intro w' _; go_simp; (try with_reducible rfl))
          simp only [List.setIfInBounds_toArray, List.set_cons_zero, List.set_cons_succ]
          refine wpAnyD_takeP (i := 16) (oi := { dst := some 34, op := Op.move (Operand.tmp 0), type := 76, pos := "heap.go:61", after := #[{ on := 7, ground := Ground.guard }], guard := some (7, true) }) (d := 34) (v := ?_) rfl rfl (by kernel_rfl) (by kernel_rfl) (by kernel_rfl) (fun _ _ _ h => h) (Or.inl ⟨by rfl, ?_⟩) ?_
          rotate_left
          · (intro w' _; go_simp; (try with_reducible rfl))
          simp only [List.setIfInBounds_toArray, List.set_cons_zero, List.set_cons_succ]
          refine wpAnyD_takeP (i := 17) (oi := { dst := some 35, op := Op.nilCheck (Operand.tmp 34), type := 0, pos := "heap.go:61", after := #[{ on := 16, ground := Ground.data }, { on := 7, ground := Ground.guard }], guard := some (7, true) }) (d := 35) (v := ?_) rfl rfl (by kernel_rfl) (by kernel_rfl) (by kernel_rfl) (fun _ _ _ h => h) (Or.inl ⟨by rfl, ?_⟩) ?_
          rotate_left
          · (intro w' _; go_simp; (try with_reducible rfl))
          simp only [List.setIfInBounds_toArray, List.set_cons_zero, List.set_cons_succ]
          refine wpAnyD_takeP (i := 18) (oi := { dst := some 36, op := Op.fieldAddr 117 (Operand.tmp 35) 0, type := 0, pos := "heap.go:61", after := #[{ on := 17, ground := Ground.data }, { on := 7, ground := Ground.guard }], guard := some (7, true) }) (d := 36) (v := ?_) rfl rfl (by kernel_rfl) (by kernel_rfl) (by kernel_rfl) (fun _ _ _ h => h) (Or.inl ⟨by rfl, ?_⟩) ?_
          rotate_left
          · (intro w' _; go_simp; (try with_reducible rfl))
          simp only [List.setIfInBounds_toArray, List.set_cons_zero, List.set_cons_succ]
          refine wpAnyD_takeP (i := 20) (oi := { dst := some 38, op := Op.move (Operand.tmp 4), type := 3, pos := "heap.go:61", after := #[{ on := 7, ground := Ground.guard }], guard := some (7, true) }) (d := 38) (v := ?_) rfl rfl (by kernel_rfl) (by kernel_rfl) (by kernel_rfl) (fun _ _ _ h => h) (Or.inl ⟨by rfl, ?_⟩) ?_
          rotate_left
          · (intro w' _; go_simp; (try with_reducible rfl))
          simp only [List.setIfInBounds_toArray, List.set_cons_zero, List.set_cons_succ]
          refine wpAnyD_takeD (i := 11) (oi := { dst := some 29, op := Op.load 115 (Operand.tmp 28), type := 115, pos := "heap.go:61", after := #[{ on := 10, ground := Ground.data }, { on := 7, ground := Ground.guard }], guard := some (7, true) }) (d := 29) (v := ?_) rfl rfl (by kernel_rfl) (by kernel_rfl) (by kernel_rfl) (by kernel_rfl) (fun _ _ _ h => h) (Or.inl ⟨by rfl, ?_⟩) hHeld ?_
          rotate_left
          · (intro w' hSw; (try dsimp only at hSw); go_simp; (try with_reducible rfl))
          simp only [List.setIfInBounds_toArray, List.set_cons_zero, List.set_cons_succ]
          refine wpAnyD_takeP (i := 13) (oi := { dst := some 31, op := Op.indexAddr 115 (Operand.tmp 29) (Operand.tmp 30), type := 0, pos := "heap.go:61", after := #[{ on := 11, ground := Ground.data }, { on := 12, ground := Ground.data }, { on := 7, ground := Ground.guard }], guard := some (7, true) }) (d := 31) (v := ?_) rfl rfl (by kernel_rfl) (by kernel_rfl) (by kernel_rfl) (fun _ _ _ h => h) (Or.inl ⟨by rfl, ?_⟩) ?_
          rotate_left
          · (intro w' _; go_simp; (try with_reducible rfl))
          simp only [List.setIfInBounds_toArray, List.set_cons_zero, List.set_cons_succ]
          refine wpAnyD_takeP (i := 14) (oi := { dst := some 32, op := Op.fieldAddr 123 (Operand.tmp 31) 0, type := 0, pos := "heap.go:61", after := #[{ on := 13, ground := Ground.data }, { on := 7, ground := Ground.guard }], guard := some (7, true) }) (d := 32) (v := ?_) rfl rfl (by kernel_rfl) (by kernel_rfl) (by kernel_rfl) (fun _ _ _ h => h) (Or.inl ⟨by rfl, ?_⟩) ?_
          rotate_left
          · (intro w' _; go_simp; (try with_reducible rfl))
          simp only [List.setIfInBounds_toArray, List.set_cons_zero, List.set_cons_succ]
          refine wpAnyD_takeD (i := 15) (oi := { dst := some 33, op := Op.load 121 (Operand.tmp 32), type := 121, pos := "heap.go:61", after := #[{ on := 14, ground := Ground.data }, { on := 7, ground := Ground.guard }], guard := some (7, true) }) (d := 33) (v := ?_) rfl rfl (by kernel_rfl) (by kernel_rfl) (by kernel_rfl) (by kernel_rfl) (fun _ _ _ h => h) (Or.inl ⟨by rfl, ?_⟩) hHeld ?_
          rotate_left
          · (intro w' hSw; (try dsimp only at hSw); go_simp; (try with_reducible rfl))
          simp only [List.setIfInBounds_toArray, List.set_cons_zero, List.set_cons_succ]
          refine wpAnyD_takeD (i := 19) (oi := { dst := some 37, op := Op.load 115 (Operand.tmp 36), type := 115, pos := "heap.go:61", after := #[{ on := 18, ground := Ground.data }, { on := 7, ground := Ground.guard }], guard := some (7, true) }) (d := 37) (v := ?_) rfl rfl (by kernel_rfl) (by kernel_rfl) (by kernel_rfl) (by kernel_rfl) (fun _ _ _ h => h) (Or.inl ⟨by rfl, ?_⟩) hHeld ?_
          rotate_left
          · (intro w' hSw; (try dsimp only at hSw); go_simp; (try with_reducible rfl))
          simp only [List.setIfInBounds_toArray, List.set_cons_zero, List.set_cons_succ]
          refine wpAnyD_takeP (i := 21) (oi := { dst := some 39, op := Op.indexAddr 115 (Operand.tmp 37) (Operand.tmp 38), type := 0, pos := "heap.go:61", after := #[{ on := 19, ground := Ground.data }, { on := 20, ground := Ground.data }, { on := 7, ground := Ground.guard }], guard := some (7, true) }) (d := 39) (v := ?_) rfl rfl (by kernel_rfl) (by kernel_rfl) (by kernel_rfl) (fun _ _ _ h => h) (Or.inl ⟨by rfl, ?_⟩) ?_
          rotate_left
          · (intro w' _; go_simp; (try with_reducible rfl))
          simp only [List.setIfInBounds_toArray, List.set_cons_zero, List.set_cons_succ]
          refine wpAnyD_takeP (i := 22) (oi := { dst := some 40, op := Op.fieldAddr 123 (Operand.tmp 39) 0, type := 0, pos := "heap.go:61", after := #[{ on := 21, ground := Ground.data }, { on := 7, ground := Ground.guard }], guard := some (7, true) }) (d := 40) (v := ?_) rfl rfl (by kernel_rfl) (by kernel_rfl) (by kernel_rfl) (fun _ _ _ h => h) (Or.inl ⟨by rfl, ?_⟩) ?_
          rotate_left
          · (intro w' _; go_simp; (try with_reducible rfl))
          simp only [List.setIfInBounds_toArray, List.set_cons_zero, List.set_cons_succ]
          refine wpAnyD_takeD (i := 23) (oi := { dst := some 41, op := Op.load 121 (Operand.tmp 40), type := 121, pos := "heap.go:61", after := #[{ on := 22, ground := Ground.data }, { on := 7, ground := Ground.guard }], guard := some (7, true) }) (d := 41) (v := ?_) rfl rfl (by kernel_rfl) (by kernel_rfl) (by kernel_rfl) (by kernel_rfl) (fun _ _ _ h => h) (Or.inl ⟨by rfl, ?_⟩) hHeld ?_
          rotate_left
          · (intro w' hSw; (try dsimp only at hSw); go_simp; (try with_reducible rfl))
          simp only [List.setIfInBounds_toArray, List.set_cons_zero, List.set_cons_succ]
          refine wpAnyD_one (i := 24) (o := { dst := some 42, op := Op.call { callee := Callee.value (Operand.func 65), args := #[Operand.tmp 33, Operand.tmp 41], argTypes := #[121, 121] }, type := 4, pos := "heap.go:61", after := #[{ on := 15, ground := Ground.data }, { on := 23, ground := Ground.data }, { on := 7, ground := Ground.chain }, { on := 7, ground := Ground.guard }], guard := some (7, true) }) (by kernel_rfl) rfl (by rfl) (fun K hK => ?_)
          go_simp; refine (HLE.out _).mono ?_; rintro e w' ⟨rfl, hb'⟩; have HBB := Lib.hid (HBB.out.trans (hb'.mono HBB.out.size)); have h := HSC.out _ HBB.out; clear hb'; go_simp
          refine hK.out _ _ h (fun hHeld => ?_)
          clear hK K
          try simp only [Act.put, List.setIfInBounds_toArray, List.set_cons_zero, List.set_cons_succ]
          refine wpAnyD_takeP (i := 25) (oi := { dst := some 43, op := Op.pick (Operand.tmp 25) (Operand.tmp 42) (Operand.const (Value.bool false)), type := 4, pos := "heap.go:61", after := #[{ on := 7, ground := Ground.data }, { on := 24, ground := Ground.data }], guard := none }) (d := 43) (v := ?_) rfl rfl (by kernel_rfl) (by kernel_rfl) (by kernel_rfl) (fun _ _ _ h => h) (Or.inl ⟨by rfl, ?_⟩) ?_
          rotate_left
          · (intro w' _; go_simp; (try with_reducible rfl))
          simp only [List.setIfInBounds_toArray, List.set_cons_zero, List.set_cons_succ]
          refine wpAnyD_done (by kernel_rfl) ?_ _
          have HW3 := Lib.hid (HW2.out.below HBB.out (Nat.le_refl _))
          have HKP3 := Lib.hid (HKP2.out.trans (Keep.of_below (F := fun g' => (some ⟨g, 0, none⟩ : Option Addr) = some ⟨g', 0, none⟩) HBB.out) (fun x hx => .inl (by simpa using hx)))
          clear hHeld a0 a1 a2 b0 b1 b2 hc0 HSC HLE HW2 HKP2 HBB
          cases B with
          | false =>
            simp only [Bool.false_eq_true, if_false] at HE
            go_wp2_with fail
            have w9 : (d : Int) = 2 * (k : Int) + 2 := by have := HD.out; omega
            (try rw [w9])
            clear w9
            go_roundg (gk - 1)
            case measure => omega
            case rel => exact ⟨2, s, by omega, by first | rfl | simp, by first | rfl | (have := HD.out; exact congrArg (Value.int .i64) (by omega)), .inl hs', fun h => by omega, fun h => by omega, fun _ => HE.out.symm.trans (by rw [HCJ.out, ← HD.out]; rfl), HW3.out, by first | exact HKP3.out | exact HKP3.out.mono (fun x hx => by simpa using hx)⟩
          | true =>
            simp only [if_true] at HE
            go_wp2_with fail
            have w9 : (d : Int) = 2 * (k : Int) + 2 := by have := HD.out; omega
            (try rw [w9])
            clear w9
            go_roundg (gk - 1)
            case measure => omega
            case rel => exact ⟨2, d, by omega, by first | rfl | simp, by first | rfl | (have := HD.out; exact congrArg (Value.int .i64) (by omega)), .inl HDM.out, fun h => by omega, fun h => by omega, fun _ => HE.out.symm.trans (by rw [HCJ.out, ← HD.out]; rfl), HW3.out, by first | exact HKP3.out | exact HKP3.out.mono (fun x hx => by simpa using hx)⟩
        · have hdm' : ¬ (d : Int) < (m.length : Int) := by omega
          have HE := Lib.hid (show lstT m k s d = s from by unfold lstT; rw [dif_neg (fun h => hdm h.1)])
          have HD := Lib.hid hd
          clear hdm hd w5
          refine wp_region_D (Ds := []) (S := fun V => V.cell? ⟨hb, 0, none⟩ = some (.slice A m.length c)) (by kernel_rfl) (by exact hc0) (fun hHeld => ?_)
          refine wpAnyD_takeP (i := 0) (oi := { dst := some 18, op := Op.move (Operand.tmp 6), type := 3, pos := "heap.go:61", after := #[], guard := none }) (d := 18) (v := ?_) rfl rfl (by kernel_rfl) (by kernel_rfl) (by kernel_rfl) (fun _ _ _ h => h) (Or.inl ⟨by rfl, ?_⟩) ?_
          rotate_left
          · (intro w' _; go_simp; (try with_reducible rfl))
          simp only [List.setIfInBounds_toArray, List.set_cons_zero, List.set_cons_succ]
          refine wpAnyD_takeP (i := 1) (oi := { dst := some 19, op := Op.move (Operand.tmp 0), type := 76, pos := "heap.go:61", after := #[], guard := none }) (d := 19) (v := ?_) rfl rfl (by kernel_rfl) (by kernel_rfl) (by kernel_rfl) (fun _ _ _ h => h) (Or.inl ⟨by rfl, ?_⟩) ?_
          rotate_left
          · (intro w' _; go_simp; (try with_reducible rfl))
          simp only [List.setIfInBounds_toArray, List.set_cons_zero, List.set_cons_succ]
          refine wpAnyD_takeP (i := 2) (oi := { dst := some 20, op := Op.nilCheck (Operand.tmp 19), type := 0, pos := "heap.go:61", after := #[{ on := 1, ground := Ground.data }], guard := none }) (d := 20) (v := ?_) rfl rfl (by kernel_rfl) (by kernel_rfl) (by kernel_rfl) (fun _ _ _ h => h) (Or.inl ⟨by rfl, ?_⟩) ?_
          rotate_left
          · (intro w' _; go_simp; (try with_reducible rfl))
          simp only [List.setIfInBounds_toArray, List.set_cons_zero, List.set_cons_succ]
          refine wpAnyD_takeP (i := 3) (oi := { dst := some 21, op := Op.fieldAddr 117 (Operand.tmp 20) 0, type := 0, pos := "heap.go:61", after := #[{ on := 2, ground := Ground.data }], guard := none }) (d := 21) (v := ?_) rfl rfl (by kernel_rfl) (by kernel_rfl) (by kernel_rfl) (fun _ _ _ h => h) (Or.inl ⟨by rfl, ?_⟩) ?_
          rotate_left
          · (intro w' _; go_simp; (try with_reducible rfl))
          simp only [List.setIfInBounds_toArray, List.set_cons_zero, List.set_cons_succ]
          refine wpAnyD_takeD (i := 4) (oi := { dst := some 22, op := Op.load 115 (Operand.tmp 21), type := 115, pos := "heap.go:61", after := #[{ on := 3, ground := Ground.data }], guard := none }) (d := 22) (v := ?_) rfl rfl (by kernel_rfl) (by kernel_rfl) (by kernel_rfl) (by kernel_rfl) (fun _ _ _ h => h) (Or.inl ⟨by rfl, ?_⟩) hHeld ?_
          rotate_left
          · (intro w' hSw; (try dsimp only at hSw); go_simp; (try with_reducible rfl))
          simp only [List.setIfInBounds_toArray, List.set_cons_zero, List.set_cons_succ]
          refine wpAnyD_takeD (i := 5) (oi := { dst := some 23, op := Op.call { callee := Callee.builtin Builtin.len, args := #[Operand.tmp 22], argTypes := #[115] }, type := 3, pos := "heap.go:61", after := #[{ on := 4, ground := Ground.data }], guard := none }) (d := 23) (v := ?_) rfl rfl (by kernel_rfl) (by kernel_rfl) (by kernel_rfl) (by kernel_rfl) (fun _ _ _ h => h) (Or.inl ⟨by rfl, ?_⟩) hHeld ?_
          rotate_left
          · (intro w' hSw; (try dsimp only at hSw); go_simp; (try with_reducible rfl))
          simp only [List.setIfInBounds_toArray, List.set_cons_zero, List.set_cons_succ]
          refine wpAnyD_takeP (i := 6) (oi := { dst := some 24, op := Op.binOp BinOp.lss 3 (Operand.tmp 18) (Operand.tmp 23) 3, type := 4, pos := "heap.go:61", after := #[{ on := 0, ground := Ground.data }, { on := 5, ground := Ground.data }], guard := none }) (d := 24) (v := ?_) rfl rfl (by kernel_rfl) (by kernel_rfl) (by kernel_rfl) (fun _ _ _ h => h) (Or.inl ⟨by rfl, ?_⟩) ?_
          rotate_left
          · (intro w' _; go_simp; (try with_reducible rfl))
          simp only [List.setIfInBounds_toArray, List.set_cons_zero, List.set_cons_succ]
          refine wpAnyD_takeP (i := 7) (oi := { dst := some 25, op := Op.move (Operand.tmp 24), type := 4, pos := "heap.go:61", after := #[{ on := 6, ground := Ground.data }], guard := none }) (d := 25) (v := ?_) rfl rfl (by kernel_rfl) (by kernel_rfl) (by kernel_rfl) (fun _ _ _ h => h) (Or.inl ⟨by rfl, ?_⟩) ?_
          rotate_left
          · (intro w' _; go_simp; (try with_reducible rfl))
          simp only [List.setIfInBounds_toArray, List.set_cons_zero, List.set_cons_succ]
          refine wpAnyD_takeD (i := 8) (oi := { dst := some 26, op := Op.move (Operand.tmp 0), type := 76, pos := "heap.go:61", after := #[{ on := 7, ground := Ground.guard }], guard := some (7, true) }) (d := 26) (v := undef) rfl rfl (by kernel_rfl) (by kernel_rfl) (by kernel_rfl) (by kernel_rfl) (fun _ _ _ h => h) (Or.inr ⟨by rfl, rfl⟩) hHeld ?_
          simp only [List.setIfInBounds_toArray, List.set_cons_zero, List.set_cons_succ]
          refine wpAnyD_takeD (i := 9) (oi := { dst := some 27, op := Op.nilCheck (Operand.tmp 26), type := 0, pos := "heap.go:61", after := #[{ on := 8, ground := Ground.data }, { on := 7, ground := Ground.guard }], guard := some (7, true) }) (d := 27) (v := undef) rfl rfl (by kernel_rfl) (by kernel_rfl) (by kernel_rfl) (by kernel_rfl) (fun _ _ _ h => h) (Or.inr ⟨by rfl, rfl⟩) hHeld ?_
          simp only [List.setIfInBounds_toArray, List.set_cons_zero, List.set_cons_succ]
          refine wpAnyD_takeD (i := 10) (oi := { dst := some 28, op := Op.fieldAddr 117 (Operand.tmp 27) 0, type := 0, pos := "heap.go:61", after := #[{ on := 9, ground := Ground.data }, { on := 7, ground := Ground.guard }], guard := some (7, true) }) (d := 28) (v := undef) rfl rfl (by kernel_rfl) (by kernel_rfl) (by kernel_rfl) (by kernel_rfl) (fun _ _ _ h => h) (Or.inr ⟨by rfl, rfl⟩) hHeld ?_
          simp only [List.setIfInBounds_toArray, List.set_cons_zero, List.set_cons_succ]
          refine wpAnyD_takeD (i := 11) (oi := { dst := some 29, op := Op.load 115 (Operand.tmp 28), type := 115, pos := "heap.go:61", after := #[{ on := 10, ground := Ground.data }, { on := 7, ground := Ground.guard }], guard := some (7, true) }) (d := 29) (v := undef) rfl rfl (by kernel_rfl) (by kernel_rfl) (by kernel_rfl) (by kernel_rfl) (fun _ _ _ h => h) (Or.inr ⟨by rfl, rfl⟩) hHeld ?_
          simp only [List.setIfInBounds_toArray, List.set_cons_zero, List.set_cons_succ]
          refine wpAnyD_takeD (i := 12) (oi := { dst := some 30, op := Op.move (Operand.tmp 6), type := 3, pos := "heap.go:61", after := #[{ on := 7, ground := Ground.guard }], guard := some (7, true) }) (d := 30) (v := undef) rfl rfl (by kernel_rfl) (by kernel_rfl) (by kernel_rfl) (by kernel_rfl) (fun _ _ _ h => h) (Or.inr ⟨by rfl, rfl⟩) hHeld ?_
          simp only [List.setIfInBounds_toArray, List.set_cons_zero, List.set_cons_succ]
          refine wpAnyD_takeD (i := 13) (oi := { dst := some 31, op := Op.indexAddr 115 (Operand.tmp 29) (Operand.tmp 30), type := 0, pos := "heap.go:61", after := #[{ on := 11, ground := Ground.data }, { on := 12, ground := Ground.data }, { on := 7, ground := Ground.guard }], guard := some (7, true) }) (d := 31) (v := undef) rfl rfl (by kernel_rfl) (by kernel_rfl) (by kernel_rfl) (by kernel_rfl) (fun _ _ _ h => h) (Or.inr ⟨by rfl, rfl⟩) hHeld ?_
          simp only [List.setIfInBounds_toArray, List.set_cons_zero, List.set_cons_succ]
          refine wpAnyD_takeD (i := 14) (oi := { dst := some 32, op := Op.fieldAddr 123 (Operand.tmp 31) 0, type := 0, pos := "heap.go:61", after := #[{ on := 13, ground := Ground.data }, { on := 7, ground := Ground.guard }], guard := some (7, true) }) (d := 32) (v := undef) rfl rfl (by kernel_rfl) (by kernel_rfl) (by kernel_rfl) (by kernel_rfl) (fun _ _ _ h => h) (Or.inr ⟨by rfl, rfl⟩) hHeld ?_
          simp only [List.setIfInBounds_toArray, List.set_cons_zero, List.set_cons_succ]
          refine wpAnyD_takeD (i := 15) (oi := { dst := some 33, op := Op.load 121 (Operand.tmp 32), type := 121, pos := "heap.go:61", after := #[{ on := 14, ground := Ground.data }, { on := 7, ground := Ground.guard }], guard := some (7, true) }) (d := 33) (v := undef) rfl rfl (by kernel_rfl) (by kernel_rfl) (by kernel_rfl) (by kernel_rfl) (fun _ _ _ h => h) (Or.inr ⟨by rfl, rfl⟩) hHeld ?_
          simp only [List.setIfInBounds_toArray, List.set_cons_zero, List.set_cons_succ]
          refine wpAnyD_takeD (i := 16) (oi := { dst := some 34, op := Op.move (Operand.tmp 0), type := 76, pos := "heap.go:61", after := #[{ on := 7, ground := Ground.guard }], guard := some (7, true) }) (d := 34) (v := undef) rfl rfl (by kernel_rfl) (by kernel_rfl) (by kernel_rfl) (by kernel_rfl) (fun _ _ _ h => h) (Or.inr ⟨by rfl, rfl⟩) hHeld ?_
          simp only [List.setIfInBounds_toArray, List.set_cons_zero, List.set_cons_succ]
          refine wpAnyD_takeD (i := 17) (oi := { dst := some 35, op := Op.nilCheck (Operand.tmp 34), type := 0, pos := "heap.go:61", after := #[{ on := 16, ground := Ground.data }, { on := 7, ground := Ground.guard }], guard := some (7, true) }) (d := 35) (v := undef) rfl rfl (by kernel_rfl) (by kernel_rfl) (by kernel_rfl) (by kernel_rfl) (fun _ _ _ h => h) (Or.inr ⟨by rfl, rfl⟩) hHeld ?_
          simp only [List.setIfInBounds_toArray, List.set_cons_zero, List.set_cons_succ]
          refine wpAnyD_takeD (i := 18) (oi := { dst := some 36, op := Op.fieldAddr 117 (Operand.tmp 35) 0, type := 0, pos := "heap.go:61", after := #[{ on := 17, ground := Ground.data }, { on := 7, ground := Ground.guard }], guard := some (7, true) }) (d := 36) (v := undef) rfl rfl (by kernel_rfl) (by kernel_rfl) (by kernel_rfl) (by kernel_rfl) (fun _ _ _ h => h) (Or.inr ⟨by rfl, rfl⟩) hHeld ?_
          simp only [List.setIfInBounds_toArray, List.set_cons_zero, List.set_cons_succ]
          refine wpAnyD_takeD (i := 19) (oi := { dst := some 37, op := Op.load 115 (Operand.tmp 36), type := 115, pos := "heap.go:61", after := #[{ on := 18, ground := Ground.data }, { on := 7, ground := Ground.guard }], guard := some (7, true) }) (d := 37) (v := undef) rfl rfl (by kernel_rfl) (by kernel_rfl) (by kernel_rfl) (by kernel_rfl) (fun _ _ _ h => h) (Or.inr ⟨by rfl, rfl⟩) hHeld ?_
          simp only [List.setIfInBounds_toArray, List.set_cons_zero, List.set_cons_succ]
          refine wpAnyD_takeD (i := 20) (oi := { dst := some 38, op := Op.move (Operand.tmp 4), type := 3, pos := "heap.go:61", after := #[{ on := 7, ground := Ground.guard }], guard := some (7, true) }) (d := 38) (v := undef) rfl rfl (by kernel_rfl) (by kernel_rfl) (by kernel_rfl) (by kernel_rfl) (fun _ _ _ h => h) (Or.inr ⟨by rfl, rfl⟩) hHeld ?_
          simp only [List.setIfInBounds_toArray, List.set_cons_zero, List.set_cons_succ]
          refine wpAnyD_takeD (i := 21) (oi := { dst := some 39, op := Op.indexAddr 115 (Operand.tmp 37) (Operand.tmp 38), type := 0, pos := "heap.go:61", after := #[{ on := 19, ground := Ground.data }, { on := 20, ground := Ground.data }, { on := 7, ground := Ground.guard }], guard := some (7, true) }) (d := 39) (v := undef) rfl rfl (by kernel_rfl) (by kernel_rfl) (by kernel_rfl) (by kernel_rfl) (fun _ _ _ h => h) (Or.inr ⟨by rfl, rfl⟩) hHeld ?_
          simp only [List.setIfInBounds_toArray, List.set_cons_zero, List.set_cons_succ]
          refine wpAnyD_takeD (i := 22) (oi := { dst := some 40, op := Op.fieldAddr 123 (Operand.tmp 39) 0, type := 0, pos := "heap.go:61", after := #[{ on := 21, ground := Ground.data }, { on := 7, ground := Ground.guard }], guard := some (7, true) }) (d := 40) (v := undef) rfl rfl (by kernel_rfl) (by kernel_rfl) (by kernel_rfl) (by kernel_rfl) (fun _ _ _ h => h) (Or.inr ⟨by rfl, rfl⟩) hHeld ?_
          simp only [List.setIfInBounds_toArray, List.set_cons_zero, List.set_cons_succ]
          refine wpAnyD_takeD (i := 23) (oi := { dst := some 41, op := Op.load 121 (Operand.tmp 40), type := 121, pos := "heap.go:61", after := #[{ on := 22, ground := Ground.data }, { on := 7, ground := Ground.guard }], guard := some (7, true) }) (d := 41) (v := undef) rfl rfl (by kernel_rfl) (by kernel_rfl) (by kernel_rfl) (by kernel_rfl) (fun _ _ _ h => h) (Or.inr ⟨by rfl, rfl⟩) hHeld ?_
          simp only [List.setIfInBounds_toArray, List.set_cons_zero, List.set_cons_succ]
          refine wpAnyD_takeD (i := 24) (oi := { dst := some 42, op := Op.call { callee := Callee.value (Operand.func 65), args := #[Operand.tmp 33, Operand.tmp 41], argTypes := #[121, 121] }, type := 4, pos := "heap.go:61", after := #[{ on := 15, ground := Ground.data }, { on := 23, ground := Ground.data }, { on := 7, ground := Ground.chain }, { on := 7, ground := Ground.guard }], guard := some (7, true) }) (d := 42) (v := undef) rfl rfl (by kernel_rfl) (by kernel_rfl) (by kernel_rfl) (by kernel_rfl) (fun _ _ _ h => h) (Or.inr ⟨by rfl, rfl⟩) hHeld ?_
          simp only [List.setIfInBounds_toArray, List.set_cons_zero, List.set_cons_succ]
          refine wpAnyD_takeP (i := 25) (oi := { dst := some 43, op := Op.pick (Operand.tmp 25) (Operand.tmp 42) (Operand.const (Value.bool false)), type := 4, pos := "heap.go:61", after := #[{ on := 7, ground := Ground.data }, { on := 24, ground := Ground.data }], guard := none }) (d := 43) (v := ?_) rfl rfl (by kernel_rfl) (by kernel_rfl) (by kernel_rfl) (fun _ _ _ h => h) (Or.inl ⟨by rfl, ?_⟩) ?_
          rotate_left
          · (intro w' _; go_simp; (try with_reducible rfl))
          simp only [List.setIfInBounds_toArray, List.set_cons_zero, List.set_cons_succ]
          refine wpAnyD_done (by kernel_rfl) ?_ _
          have HW3 := Lib.hid (HW2.out.below HBB.out (Nat.le_refl _))
          have HKP3 := Lib.hid (HKP2.out.trans (Keep.of_below (F := fun g' => A = some ⟨g', 0, none⟩) HBB.out) (fun x hx => .inl (by simpa using hx)))
          clear hHeld hc0 HW2 HKP2 HBB
          go_wp2_with fail
          have w9 : (d : Int) = 2 * (k : Int) + 2 := by have := HD.out; omega
          (try rw [w9])
          clear w9
          go_roundg (gk - 1)
          case measure => omega
          case rel => exact ⟨2, s, by omega, by first | rfl | simp, by first | rfl | (have := HD.out; exact congrArg (Value.int .i64) (by omega)), hs, fun h => by omega, fun h => by omega, fun _ => HE.out.symm.trans (by rw [HCJ.out, ← HD.out]; rfl), HW3.out, by first | exact HKP3.out | exact HKP3.out.mono (fun x hx => by simpa using hx)⟩
      · have HS2 := Lib.hid (HC2.out rfl)
        by_cases hsk : s = k
        · subst hsk
          go_wp2_with fail
          (try simp only [Exit.inBlock, Exit.then])
          refine bodyPost_ret (results_none rfl _ _ _) rfl ?_
          refine ⟨rfl, ?_, HKP2.out⟩
          rw [← HUP.out, downT, dif_pos HS2.out.symm]
          exact HW2.out
        · have HNE := Lib.hid hsk
          have hsk' : ¬ (s : Int) = (k : Int) := by omega
          have hsm : s < m.length := by
            rcases hs with h | ⟨h1, h2⟩
            · exact h
            · omega
          have hkm : k < m.length := by omega
          clear hsk
          go_wp2_with fail
          refine (swap_any HW2.out k s hkm hsm hmlen).mono ?_
          rintro e w4 ⟨rfl, h4, hk4⟩
          have H4 := Lib.hid h4
          have HK4 := Lib.hid (HKP2.out.trans hk4 (fun x hx => .inl hx))
          clear h4 hk4
          have hgt : k < s := by
            have := least_or m k
            rw [← HS2.out] at this
            have := HNE.out
            omega
          go_wp2_with fail
          go_roundg (go - 1)
          case measure => have := HGO.out; omega
          case rel => exact ⟨s, _, by have := HGO.out; rw [swap_len]; omega, rfl, .inl (by rw [swap_len]; exact hsm), by rw [swap_len]; exact HML.out, by rw [← HUP.out]; conv => { rhs; rw [downT] }; rw [dif_neg (fun h => HNE.out (HS2.out.trans h)), ← HS2.out], H4.out, HK4.out⟩
end Go.Proofs.Ytpkmcokkapfnmaa.hw
