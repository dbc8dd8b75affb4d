/- Layer 3 (heap): heaps of waits: up, down. -/
import Derived.Test.YtpkmcokkapfnmaaHeapW2
namespace Go.Proofs.Ytpkmcokkapfnmaa.hw
open Go.RowKit Go.Maps Go.WideMaps
set_option maxRecDepth 100000
set_option linter.unusedVariables false
set_option linter.unusedSimpArgs false

theorem HeapWs.keepLess {w w' : World} {base hb : Nat} {l : List (Th Wt)} {turn : Int} {A : Option Addr} {c : Nat} (h : HeapWs w base hb l turn A c) (hb' : Below w.heap.size w w') : HeapWs w' base hb l turn A c := h.below hb' (Nat.le_refl _)

set_option maxHeartbeats 4000000 in
theorem up_any {w : World} {base hb : Nat} {l : List (Th Wt)} {turn : Int} {A : Option Addr} {c : Nat} (h : HeapWs w base hb l turn A c) (i : Nat) (hi : i < l.length) (hlen : l.length < 1000000000000000000) :
    Calls Try.prog 63 #[.pointer (some ⟨hb, 0, none⟩), .int .i64 (i : Nat)] w fun e w' => e = .returned (.tuple #[]) ∧ HeapWs w' base hb (upT l i) turn A c ∧ Keep (fun g => A = some ⟨g, 0, none⟩) w w' := by
  have HH := Lib.hid h
  clear h
  go_enter Try.func63, Try.ntmps63
  go_wp2_with fail
  go_loopg [1] i (fun n j W => ∃ (k : Nat) (m : List (Th Wt)), k ≤ n ∧ j = .int .i64 (k : Int) ∧ k < m.length ∧ m.length = l.length ∧ upT m k = upT l i ∧ HeapWs W base hb m turn A c ∧ Keep (fun g => A = some ⟨g, 0, none⟩) w W)
  case atStart => exact ⟨i, l, Nat.le_refl _, rfl, hi, rfl, rfl, HH.out, Keep.refl _ _⟩
  case round =>
    obtain ⟨k, m, hkn, rfl, hk, hml, hup, hW, hkeep⟩ := hrel
    rename World => W
    have HW := Lib.hid hW
    have HKP := Lib.hid hkeep
    have HUP := Lib.hid hup
    clear hW hkeep hup HH
    by_cases h0 : k = 0
    · subst h0
      have e0 : upT m 0 = m := by rw [upT]; simp
      rw [e0] at HUP
      go_wp2_with fail
      go_end0
      exact ⟨rfl, by rw [← HUP.out]; exact HW.out, HKP.out⟩
    · have hk0 : (0 : Int) < (k : Int) := by omega
      obtain ⟨q, hq⟩ : ∃ q, (k - 1) / 2 = q := ⟨_, rfl⟩
      obtain ⟨q, hq⟩ : ∃ q, (k - 1) / 2 = q := ⟨_, rfl⟩
      obtain ⟨q, hq⟩ : ∃ q, (k - 1) / 2 = q := ⟨_, rfl⟩
      have w1 : IntKind.i64.wrap ((k : Int) - 1) = ((k - 1 : Nat) : Int) := by rw [IntWalk.i64_in _ (by omega)]; omega
      have w2 : ((k - 1 : Nat) : Int).tdiv 2 = (q : Int) := by rw [Int.tdiv_eq_ediv_of_nonneg (by omega)]; omega
      have w4 : ((k - 1 : Nat) : Int) / 2 = (q : Int) := by omega
      have w3 : IntKind.i64.wrap (q : Int) = (q : Int) := IntWalk.i64_in _ (by omega)
      have hpar : q < m.length := by omega
      have HE := Lib.hid (show upT m k = if ltB m[k] m[q] = true then upT (swapT m k q) q else m from by subst hq; rw [upT, dif_pos ⟨by omega, hk⟩])
      obtain ⟨g, rfl, a0, a1, a2, a3, a4, a5⟩ := HW.out.at k hk
      obtain ⟨g', e, b0, b1, b2, b3, b4, b5⟩ := HW.out.at q hpar
      injection e with e
      injection e with e
      subst e
      have hc0 := blk_cell HW.out.blk 0
      simp only [List.getElem?_toArray, List.getElem?_cons_zero, List.getElem?_cons_succ] at hc0
      have hqk : q < k := by omega
      generalize hx : m[k] = x at *
      generalize hy : m[q] = y at *
      clear hx hy hq
      obtain ⟨xr, xp, xt, ⟨xx, xy, xz⟩⟩ := x
      obtain ⟨yr, yp, yt, ⟨yx, yy, yz⟩⟩ := y
      simp only at a0 a1 a2 a3 a4 a5 b0 b1 b2 b3 b4 b5
      have HML := Lib.hid hml
      have hmlen : m.length < 1000000000000000000 := by omega
      clear hml
      go_upto_region 2 with fail
      clear w1 w2 w3 w4 a3 b3
      have p0 : (0 : Int) ≤ (k : Int) := by omega
      have p1 : (k : Int) < (m.length : Int) := by omega
      have p2 : (0 : Int) ≤ (q : Int) := by omega
      have p3 : (q : Int) < (m.length : Int) := by omega
      have HBB : Hid (Below W.heap.size W W.drew) := Lib.hid ⟨rfl, rfl, rfl, Nat.le_refl _, fun _ _ => rfl⟩
      have HSC : Hid (∀ V, Below W.heap.size W V → V.cell? ⟨hb, 0, none⟩ = some (.slice (some ⟨g, 0, none⟩) m.length c) ∧ V.cell? ⟨g, k * 6, none⟩ = some (.int .i64 xr) ∧ V.cell? ⟨g, k * 6 + 1, none⟩ = some (.int .i64 xp) ∧ V.cell? ⟨g, k * 6 + 2, none⟩ = some (.int .i64 xt) ∧ V.cell? ⟨g, q * 6, none⟩ = some (.int .i64 yr) ∧ V.cell? ⟨g, q * 6 + 1, none⟩ = some (.int .i64 yp) ∧ V.cell? ⟨g, q * 6 + 2, none⟩ = some (.int .i64 yt)) := Lib.hid (fun V hV => ⟨below_cell hV (Nat.le_refl _) hc0, below_cell hV (Nat.le_refl _) a0, below_cell hV (Nat.le_refl _) a1, below_cell hV (Nat.le_refl _) a2, below_cell hV (Nat.le_refl _) b0, below_cell hV (Nat.le_refl _) b1, below_cell hV (Nat.le_refl _) b2⟩)
      have HLE := Lib.hid (fun V => less_any (⟨xr, xp, xt, ⟨xx, xy, xz⟩⟩ : Th Wt) ⟨yr, yp, yt, ⟨yx, yy, yz⟩⟩ V)
      obtain ⟨B, hB⟩ : ∃ B, ltB (⟨xr, xp, xt, ⟨xx, xy, xz⟩⟩ : Th Wt) ⟨yr, yp, yt, ⟨yx, yy, yz⟩⟩ = B := ⟨_, rfl⟩
      rw [hB] at HLE HE
      unfold keyV at HLE
      simp only at HLE
      clear hB
      refine wp_region_D (Ds := []) (S := fun V => V.cell? ⟨hb, 0, none⟩ = some (.slice (some ⟨g, 0, none⟩) m.length c) ∧ V.cell? ⟨g, k * 6, none⟩ = some (.int .i64 xr) ∧ V.cell? ⟨g, k * 6 + 1, none⟩ = some (.int .i64 xp) ∧ V.cell? ⟨g, k * 6 + 2, none⟩ = some (.int .i64 xt) ∧ V.cell? ⟨g, q * 6, none⟩ = some (.int .i64 yr) ∧ V.cell? ⟨g, q * 6 + 1, none⟩ = some (.int .i64 yp) ∧ V.cell? ⟨g, q * 6 + 2, none⟩ = some (.int .i64 yt)) (by kernel_rfl) (by exact HSC.out _ HBB.out) (fun hHeld => ?_)
      refine wpAnyD_takeP (i := 0) (oi := { dst := some 10, op := Op.move (Operand.tmp 0), type := 76, pos := "heap.go:48", after := #[], guard := none }) (d := 10) (v := ?_) rfl rfl (by kernel_rfl) (by kernel_rfl) (by kernel_rfl) (fun _ _ _ h => h) (Or.inl ⟨by rfl, ?_⟩) ?_
      rotate_left
      · (intro w' _; go_simp; (try with_reducible rfl))
      simp only [List.setIfInBounds_toArray, List.set_cons_zero, List.set_cons_succ]
      refine wpAnyD_takeP (i := 1) (oi := { dst := some 11, op := Op.nilCheck (Operand.tmp 10), type := 0, pos := "heap.go:48", after := #[{ on := 0, ground := Ground.data }], guard := none }) (d := 11) (v := ?_) rfl rfl (by kernel_rfl) (by kernel_rfl) (by kernel_rfl) (fun _ _ _ h => h) (Or.inl ⟨by rfl, ?_⟩) ?_
      rotate_left
      · (intro w' _; go_simp; (try with_reducible rfl))
      simp only [List.setIfInBounds_toArray, List.set_cons_zero, List.set_cons_succ]
      refine wpAnyD_takeP (i := 2) (oi := { dst := some 12, op := Op.fieldAddr 117 (Operand.tmp 11) 0, type := 0, pos := "heap.go:48", after := #[{ on := 1, ground := Ground.data }], guard := none }) (d := 12) (v := ?_) rfl rfl (by kernel_rfl) (by kernel_rfl) (by kernel_rfl) (fun _ _ _ h => h) (Or.inl ⟨by rfl, ?_⟩) ?_
      rotate_left
      · (intro w' _; go_simp; (try with_reducible rfl))
      simp only [List.setIfInBounds_toArray, List.set_cons_zero, List.set_cons_succ]
      refine wpAnyD_takeP (i := 4) (oi := { dst := some 14, op := Op.move (Operand.tmp 1), type := 3, pos := "heap.go:48", after := #[], guard := none }) (d := 14) (v := ?_) rfl rfl (by kernel_rfl) (by kernel_rfl) (by kernel_rfl) (fun _ _ _ h => h) (Or.inl ⟨by rfl, ?_⟩) ?_
      rotate_left
      · (intro w' _; go_simp; (try with_reducible rfl))
      simp only [List.setIfInBounds_toArray, List.set_cons_zero, List.set_cons_succ]
      refine wpAnyD_takeP (i := 8) (oi := { dst := some 18, op := Op.move (Operand.tmp 0), type := 76, pos := "heap.go:48", after := #[], guard := none }) (d := 18) (v := ?_) rfl rfl (by kernel_rfl) (by kernel_rfl) (by kernel_rfl) (fun _ _ _ h => h) (Or.inl ⟨by rfl, ?_⟩) ?_
      rotate_left
      · (intro w' _; go_simp; (try with_reducible rfl))
      simp only [List.setIfInBounds_toArray, List.set_cons_zero, List.set_cons_succ]
      refine wpAnyD_takeP (i := 9) (oi := { dst := some 19, op := Op.nilCheck (Operand.tmp 18), type := 0, pos := "heap.go:48", after := #[{ on := 8, ground := Ground.data }], guard := none }) (d := 19) (v := ?_) rfl rfl (by kernel_rfl) (by kernel_rfl) (by kernel_rfl) (fun _ _ _ h => h) (Or.inl ⟨by rfl, ?_⟩) ?_
      rotate_left
      · (intro w' _; go_simp; (try with_reducible rfl))
      simp only [List.setIfInBounds_toArray, List.set_cons_zero, List.set_cons_succ]
      refine wpAnyD_takeP (i := 10) (oi := { dst := some 20, op := Op.fieldAddr 117 (Operand.tmp 19) 0, type := 0, pos := "heap.go:48", after := #[{ on := 9, ground := Ground.data }], guard := none }) (d := 20) (v := ?_) rfl rfl (by kernel_rfl) (by kernel_rfl) (by kernel_rfl) (fun _ _ _ h => h) (Or.inl ⟨by rfl, ?_⟩) ?_
      rotate_left
      · (intro w' _; go_simp; (try with_reducible rfl))
      simp only [List.setIfInBounds_toArray, List.set_cons_zero, List.set_cons_succ]
      refine wpAnyD_takeP (i := 12) (oi := { dst := some 22, op := Op.move (Operand.tmp 4), type := 3, pos := "heap.go:48", after := #[], guard := none }) (d := 22) (v := ?_) rfl rfl (by kernel_rfl) (by kernel_rfl) (by kernel_rfl) (fun _ _ _ h => h) (Or.inl ⟨by rfl, ?_⟩) ?_
      rotate_left
      · (intro w' _; go_simp; (try with_reducible rfl))
      simp only [List.setIfInBounds_toArray, List.set_cons_zero, List.set_cons_succ]
      refine wpAnyD_takeD (i := 3) (oi := { dst := some 13, op := Op.load 115 (Operand.tmp 12), type := 115, pos := "heap.go:48", after := #[{ on := 2, ground := Ground.data }], guard := none }) (d := 13) (v := ?_) rfl rfl (by kernel_rfl) (by kernel_rfl) (by kernel_rfl) (by kernel_rfl) (fun _ _ _ h => h) (Or.inl ⟨by rfl, ?_⟩) hHeld ?_
      rotate_left
      · (intro w' hSw; (try dsimp only at hSw); go_simp; (try with_reducible rfl))
      simp only [List.setIfInBounds_toArray, List.set_cons_zero, List.set_cons_succ]
      refine wpAnyD_takeP (i := 5) (oi := { dst := some 15, op := Op.indexAddr 115 (Operand.tmp 13) (Operand.tmp 14), type := 0, pos := "heap.go:48", after := #[{ on := 3, ground := Ground.data }, { on := 4, ground := Ground.data }], guard := none }) (d := 15) (v := ?_) rfl rfl (by kernel_rfl) (by kernel_rfl) (by kernel_rfl) (fun _ _ _ h => h) (Or.inl ⟨by rfl, ?_⟩) ?_
      rotate_left
      · (intro w' _; go_simp; (try with_reducible rfl))
      simp only [List.setIfInBounds_toArray, List.set_cons_zero, List.set_cons_succ]
      refine wpAnyD_takeP (i := 6) (oi := { dst := some 16, op := Op.fieldAddr 123 (Operand.tmp 15) 0, type := 0, pos := "heap.go:48", after := #[{ on := 5, ground := Ground.data }], guard := none }) (d := 16) (v := ?_) rfl rfl (by kernel_rfl) (by kernel_rfl) (by kernel_rfl) (fun _ _ _ h => h) (Or.inl ⟨by rfl, ?_⟩) ?_
      rotate_left
      · (intro w' _; go_simp; (try with_reducible rfl))
      simp only [List.setIfInBounds_toArray, List.set_cons_zero, List.set_cons_succ]
      refine wpAnyD_takeD (i := 7) (oi := { dst := some 17, op := Op.load 121 (Operand.tmp 16), type := 121, pos := "heap.go:48", after := #[{ on := 6, ground := Ground.data }], guard := none }) (d := 17) (v := ?_) rfl rfl (by kernel_rfl) (by kernel_rfl) (by kernel_rfl) (by kernel_rfl) (fun _ _ _ h => h) (Or.inl ⟨by rfl, ?_⟩) hHeld ?_
      rotate_left
      · (intro w' hSw; (try dsimp only at hSw); go_simp; (try with_reducible rfl))
      simp only [List.setIfInBounds_toArray, List.set_cons_zero, List.set_cons_succ]
      refine wpAnyD_takeD (i := 11) (oi := { dst := some 21, op := Op.load 115 (Operand.tmp 20), type := 115, pos := "heap.go:48", after := #[{ on := 10, ground := Ground.data }], guard := none }) (d := 21) (v := ?_) rfl rfl (by kernel_rfl) (by kernel_rfl) (by kernel_rfl) (by kernel_rfl) (fun _ _ _ h => h) (Or.inl ⟨by rfl, ?_⟩) hHeld ?_
      rotate_left
      · (intro w' hSw; (try dsimp only at hSw); go_simp; (try with_reducible rfl))
      simp only [List.setIfInBounds_toArray, List.set_cons_zero, List.set_cons_succ]
      refine wpAnyD_takeP (i := 13) (oi := { dst := some 23, op := Op.indexAddr 115 (Operand.tmp 21) (Operand.tmp 22), type := 0, pos := "heap.go:48", after := #[{ on := 11, ground := Ground.data }, { on := 12, ground := Ground.data }], guard := none }) (d := 23) (v := ?_) rfl rfl (by kernel_rfl) (by kernel_rfl) (by kernel_rfl) (fun _ _ _ h => h) (Or.inl ⟨by rfl, ?_⟩) ?_
      rotate_left
      · (intro w' _; go_simp; (try with_reducible rfl))
      simp only [List.setIfInBounds_toArray, List.set_cons_zero, List.set_cons_succ]
      refine wpAnyD_takeP (i := 14) (oi := { dst := some 24, op := Op.fieldAddr 123 (Operand.tmp 23) 0, type := 0, pos := "heap.go:48", after := #[{ on := 13, ground := Ground.data }], guard := none }) (d := 24) (v := ?_) rfl rfl (by kernel_rfl) (by kernel_rfl) (by kernel_rfl) (fun _ _ _ h => h) (Or.inl ⟨by rfl, ?_⟩) ?_
      rotate_left
      · (intro w' _; go_simp; (try with_reducible rfl))
      simp only [List.setIfInBounds_toArray, List.set_cons_zero, List.set_cons_succ]
      refine wpAnyD_takeD (i := 15) (oi := { dst := some 25, op := Op.load 121 (Operand.tmp 24), type := 121, pos := "heap.go:48", after := #[{ on := 14, ground := Ground.data }], guard := none }) (d := 25) (v := ?_) rfl rfl (by kernel_rfl) (by kernel_rfl) (by kernel_rfl) (by kernel_rfl) (fun _ _ _ h => h) (Or.inl ⟨by rfl, ?_⟩) hHeld ?_
      rotate_left
      · (intro w' hSw; (try dsimp only at hSw); go_simp; (try with_reducible rfl))
      simp only [List.setIfInBounds_toArray, List.set_cons_zero, List.set_cons_succ]
      refine wpAnyD_one (i := 16) (o := { dst := some 26, op := Op.call { callee := Callee.value (Operand.func 65), args := #[Operand.tmp 17, Operand.tmp 25], argTypes := #[121, 121] }, type := 4, pos := "heap.go:48", after := #[{ on := 7, ground := Ground.data }, { on := 15, ground := Ground.data }], guard := none }) (by kernel_rfl) rfl (by rfl) (fun K hK => ?_)
      go_simp; refine (HLE.out _).mono ?_; rintro e w' ⟨rfl, hb'⟩; have HBB := Lib.hid (HBB.out.trans (hb'.mono HBB.out.size)); have h := HSC.out _ HBB.out; clear hb'; go_simp
      refine hK.out _ _ h (fun hHeld => ?_)
      clear hK K
      try simp only [Act.put, List.setIfInBounds_toArray, List.set_cons_zero, List.set_cons_succ]
      refine wpAnyD_takeP (i := 17) (oi := { dst := some 27, op := Op.unOp UnOp.not 4 (Operand.tmp 26), type := 4, pos := "heap.go:48", after := #[{ on := 16, ground := Ground.data }], guard := none }) (d := 27) (v := ?_) rfl rfl (by kernel_rfl) (by kernel_rfl) (by kernel_rfl) (fun _ _ _ h => h) (Or.inl ⟨by rfl, ?_⟩) ?_
      rotate_left
      · (intro w' _; go_simp; (try with_reducible rfl))
      simp only [List.setIfInBounds_toArray, List.set_cons_zero, List.set_cons_succ]
      refine wpAnyD_done (by kernel_rfl) ?_ _
      have HW2 := Lib.hid (HW.out.below HBB.out (Nat.le_refl _))
      have HKP2 := Lib.hid (HKP.out.trans (Keep.of_below (F := fun g' => (some ⟨g, 0, none⟩ : Option Addr) = some ⟨g', 0, none⟩) HBB.out) (fun x hx => .inl hx))
      clear hHeld a0 a1 a2 b0 b1 b2 hc0 HSC HLE HW HKP HBB
      cases B with
      | false =>
        simp only [Bool.false_eq_true, if_false] at HE
        go_wp2_with fail
        (try simp only [Exit.inBlock, Exit.then])
        refine bodyPost_ret (results_none rfl _ _ _) rfl ?_
        exact ⟨rfl, by rw [← HUP.out, HE.out]; exact HW2.out, by first | exact HKP2.out | exact HKP2.out.mono (fun x hx => by simpa using hx)⟩
      | true =>
        simp only [if_true] at HE
        go_wp2_with fail
        refine (swap_any HW2.out k q hk hpar (by omega)).mono ?_
        rintro e w4 ⟨rfl, h4, hk4⟩
        have H4 := Lib.hid h4
        have HK4 := Lib.hid (HKP2.out.trans hk4 (fun x hx => .inl hx))
        clear h4 hk4
        go_wp2_with fail
        go_roundg (gk - 1)
        case measure => omega
        case rel => exact ⟨q, _, by omega, rfl, by rw [swap_len]; exact hpar, by rw [swap_len]; exact HML.out, by rw [← HE.out]; exact HUP.out, H4.out, by first | exact HK4.out | exact HK4.out.mono (fun x hx => by simpa using hx)⟩
end Go.Proofs.Ytpkmcokkapfnmaa.hw
