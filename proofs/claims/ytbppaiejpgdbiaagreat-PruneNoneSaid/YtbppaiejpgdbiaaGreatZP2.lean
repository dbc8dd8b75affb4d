/- Texts of several layers, one behind the other: HeapW3, HeapW4, Cell, HeapW5, HeapW6, Chain2, Chain3, Ref0, Ref3, Grow0, Grow1, Grow2, Chain4, Chain5. -/
import Derived.Test.YtbppaiejpgdbiaaGreatZP1
import Derived.WalkKit
import Derived.KernelRfl
import Derived.Lib.Hide
import Derived.Deep.QuietTactic
import Derived.BigQuiet
import Derived.OwnWalk
import Derived.Lib.Strings
import Derived.Deep.DeepCutAuto
import Derived.Deep.RegionHeld3
import Derived.StillTailTactics
import Derived.Test.YtbppaiejpgdbiaaGreatProg
import Derived.Deep.Slices
import Derived.Deep.Fields
import Derived.ChangeSame
import Derived.SliceStrings
import Derived.OpenShut
import Derived.Maps.OwnSet
import Derived.Maps.OwnOps
import Derived.DeepKeys4
import Derived.WideKeyEntry
import Derived.Maps.AppendAt
import Derived.Laws.ResultCell
import Derived.Laws.IdiomStrings
import Derived.Laws.AppendOwnNone
import Derived.Lib.AppendStr
import Derived.Laws.LoneSync
import Derived.Tactics
import Derived.Tactics2
import Derived.Defers
import Derived.Laws.Pointers
import Derived.RegionTactic
import Derived.RegionCalls
import Derived.ChangeAlike
import Derived.Test.YtbppaiejpgdbiaaGreatRows
import Derived.ProofKit
import Derived.ShutString
import Derived.ChangeOld
import Derived.Below
import Derived.Lib.SmallJoins
/- Layer 3 (heap): heaps of waits: up, down. -/
namespace Go.Proofs.YtbppaiejpgdbiaaGreat.hw
open Go.RowKit Go.Maps Go.WideMaps
set_option maxRecDepth 100000
set_option linter.unusedVariables false
set_option linter.unusedSimpArgs false

set_option maxHeartbeats 4000000 in
theorem up_any {w : World} {base hb : Nat} {l : List (Th Wt)} {turn : Int} {A : Option Addr} {c : Nat} (h : HeapWs w base hb l turn A c) (i : Nat) (hi : i < l.length) (hlen : l.length < 1000000000000000000) :
    Calls Tryz.prog 194 #[.pointer (some ⟨hb, 0, none⟩), .int .i64 (i : Nat)] w fun e w' => e = .returned (.tuple #[]) ∧ HeapWs w' base hb (upT l i) turn A c ∧ Keep (fun g => A = some ⟨g, 0, none⟩) w w' := by
  have HH := Lib.hid h
  clear h
  go_enter Tryz.func194, Tryz.ntmps194
  go_wp2_with fail
  go_loopg [1] i (fun n j W => ∃ (k : Nat) (m : List (Th Wt)), k ≤ n ∧ j = .int .i64 (k : Int) ∧ k < m.length ∧ m.length = l.length ∧ upT m k = upT l i ∧ HeapWs W base hb m turn A c ∧ Keep (fun g => A = some ⟨g, 0, none⟩) w W)
  case atStart => exact ⟨i, l, Nat.le_refl _, rfl, hi, rfl, rfl, HH.out, Keep.refl _ _⟩
  case round =>
    obtain ⟨k, m, hkn, rfl, hk, hml, hup, hW, hkeep⟩ := hrel
    rename World => W
    have HW := Lib.hid hW
    have HKP := Lib.hid hkeep
    have HUP := Lib.hid hup
    clear hW hkeep hup HH
    by_cases h0 : k = 0
    · subst h0
      have e0 : upT m 0 = m := by rw [upT]; simp
      rw [e0] at HUP
      go_wp2_with fail
      go_end0
      exact ⟨rfl, by rw [← HUP.out]; exact HW.out, HKP.out⟩
    · have hk0 : (0 : Int) < (k : Int) := by omega
      obtain ⟨q, hq⟩ : ∃ q, (k - 1) / 2 = q := ⟨_, rfl⟩
      obtain ⟨q, hq⟩ : ∃ q, (k - 1) / 2 = q := ⟨_, rfl⟩
      obtain ⟨q, hq⟩ : ∃ q, (k - 1) / 2 = q := ⟨_, rfl⟩
      have w1 : IntKind.i64.wrap ((k : Int) - 1) = ((k - 1 : Nat) : Int) := by rw [IntWalk.i64_in _ (by omega)]; omega
      have w2 : ((k - 1 : Nat) : Int).tdiv 2 = (q : Int) := by rw [Int.tdiv_eq_ediv_of_nonneg (by omega)]; omega
      have w4 : ((k - 1 : Nat) : Int) / 2 = (q : Int) := by omega
      have w3 : IntKind.i64.wrap (q : Int) = (q : Int) := IntWalk.i64_in _ (by omega)
      have hpar : q < m.length := by omega
      have HE := Lib.hid (show upT m k = if ltB m[k] m[q] = true then upT (swapT m k q) q else m from by subst hq; rw [upT, dif_pos ⟨by omega, hk⟩])
      obtain ⟨g, rfl, a0, a1, a2, a3, a4, a5⟩ := HW.out.at k hk
      obtain ⟨g', e, b0, b1, b2, b3, b4, b5⟩ := HW.out.at q hpar
      injection e with e
      injection e with e
      subst e
      have hc0 := blk_cell HW.out.blk 0
      simp only [List.getElem?_toArray, List.getElem?_cons_zero, List.getElem?_cons_succ] at hc0
      have hqk : q < k := by omega
      generalize hx : m[k] = x at *
      generalize hy : m[q] = y at *
      clear hx hy hq
      obtain ⟨xr, xp, xt, ⟨xx, xy, xz⟩⟩ := x
      obtain ⟨yr, yp, yt, ⟨yx, yy, yz⟩⟩ := y
      simp only at a0 a1 a2 a3 a4 a5 b0 b1 b2 b3 b4 b5
      have HML := Lib.hid hml
      have hmlen : m.length < 1000000000000000000 := by omega
      clear hml
      go_upto_region 2 with fail
      clear w1 w2 w3 w4 a3 b3
      have p0 : (0 : Int) ≤ (k : Int) := by omega
      have p1 : (k : Int) < (m.length : Int) := by omega
      have p2 : (0 : Int) ≤ (q : Int) := by omega
      have p3 : (q : Int) < (m.length : Int) := by omega
      have HBB : Hid (Below W.heap.size W W.drew) := Lib.hid ⟨rfl, rfl, rfl, Nat.le_refl _, fun _ _ => rfl⟩
      have HSC : Hid (∀ V, Below W.heap.size W V → V.cell? ⟨hb, 0, none⟩ = some (.slice (some ⟨g, 0, none⟩) m.length c) ∧ V.cell? ⟨g, k * 6, none⟩ = some (.int .i64 xr) ∧ V.cell? ⟨g, k * 6 + 1, none⟩ = some (.int .i64 xp) ∧ V.cell? ⟨g, k * 6 + 2, none⟩ = some (.int .i64 xt) ∧ V.cell? ⟨g, q * 6, none⟩ = some (.int .i64 yr) ∧ V.cell? ⟨g, q * 6 + 1, none⟩ = some (.int .i64 yp) ∧ V.cell? ⟨g, q * 6 + 2, none⟩ = some (.int .i64 yt)) := Lib.hid (fun V hV => ⟨below_cell hV (Nat.le_refl _) hc0, below_cell hV (Nat.le_refl _) a0, below_cell hV (Nat.le_refl _) a1, below_cell hV (Nat.le_refl _) a2, below_cell hV (Nat.le_refl _) b0, below_cell hV (Nat.le_refl _) b1, below_cell hV (Nat.le_refl _) b2⟩)
      have HLE := Lib.hid (fun V => less_any (⟨xr, xp, xt, ⟨xx, xy, xz⟩⟩ : Th Wt) ⟨yr, yp, yt, ⟨yx, yy, yz⟩⟩ V)
      obtain ⟨B, hB⟩ : ∃ B, ltB (⟨xr, xp, xt, ⟨xx, xy, xz⟩⟩ : Th Wt) ⟨yr, yp, yt, ⟨yx, yy, yz⟩⟩ = B := ⟨_, rfl⟩
      rw [hB] at HLE HE
      unfold keyV at HLE
      simp only at HLE
      clear hB
      refine wp_region_D (Ds := []) (S := fun V => V.cell? ⟨hb, 0, none⟩ = some (.slice (some ⟨g, 0, none⟩) m.length c) ∧ V.cell? ⟨g, k * 6, none⟩ = some (.int .i64 xr) ∧ V.cell? ⟨g, k * 6 + 1, none⟩ = some (.int .i64 xp) ∧ V.cell? ⟨g, k * 6 + 2, none⟩ = some (.int .i64 xt) ∧ V.cell? ⟨g, q * 6, none⟩ = some (.int .i64 yr) ∧ V.cell? ⟨g, q * 6 + 1, none⟩ = some (.int .i64 yp) ∧ V.cell? ⟨g, q * 6 + 2, none⟩ = some (.int .i64 yt)) (by kernel_rfl) (by exact HSC.out _ HBB.out) (fun hHeld => ?_)
      refine wpAnyD_takeP (i := 0) (oi := { dst := some 10, op := Op.move (Operand.tmp 0), type := 258, pos := "heap.go:48", after := #[], guard := none }) (d := 10) (v := ?_) rfl rfl (by kernel_rfl) (by kernel_rfl) (by kernel_rfl) (fun _ _ _ h => h) (Or.inl ⟨by rfl, ?_⟩) ?_
      rotate_left
      · (intro w' _; go_simp; (try with_reducible rfl))
      simp only [List.setIfInBounds_toArray, List.set_cons_zero, List.set_cons_succ]
      refine wpAnyD_takeP (i := 1) (oi := { dst := some 11, op := Op.nilCheck (Operand.tmp 10), type := 0, pos := "heap.go:48", after := #[{ on := 0, ground := Ground.data }], guard := none }) (d := 11) (v := ?_) rfl rfl (by kernel_rfl) (by kernel_rfl) (by kernel_rfl) (fun _ _ _ h => h) (Or.inl ⟨by rfl, ?_⟩) ?_
      rotate_left
      · (intro w' _; go_simp; (try with_reducible rfl))
      simp only [List.setIfInBounds_toArray, List.set_cons_zero, List.set_cons_succ]
      refine wpAnyD_takeP (i := 2) (oi := { dst := some 12, op := Op.fieldAddr 277 (Operand.tmp 11) 0, type := 0, pos := "heap.go:48", after := #[{ on := 1, ground := Ground.data }], guard := none }) (d := 12) (v := ?_) rfl rfl (by kernel_rfl) (by kernel_rfl) (by kernel_rfl) (fun _ _ _ h => h) (Or.inl ⟨by rfl, ?_⟩) ?_
      rotate_left
      · (intro w' _; go_simp; (try with_reducible rfl))
      simp only [List.setIfInBounds_toArray, List.set_cons_zero, List.set_cons_succ]
      refine wpAnyD_takeP (i := 4) (oi := { dst := some 14, op := Op.move (Operand.tmp 1), type := 3, pos := "heap.go:48", after := #[], guard := none }) (d := 14) (v := ?_) rfl rfl (by kernel_rfl) (by kernel_rfl) (by kernel_rfl) (fun _ _ _ h => h) (Or.inl ⟨by rfl, ?_⟩) ?_
      rotate_left
      · (intro w' _; go_simp; (try with_reducible rfl))
      simp only [List.setIfInBounds_toArray, List.set_cons_zero, List.set_cons_succ]
      refine wpAnyD_takeP (i := 8) (oi := { dst := some 18, op := Op.move (Operand.tmp 0), type := 258, pos := "heap.go:48", after := #[], guard := none }) (d := 18) (v := ?_) rfl rfl (by kernel_rfl) (by kernel_rfl) (by kernel_rfl) (fun _ _ _ h => h) (Or.inl ⟨by rfl, ?_⟩) ?_
      rotate_left
      · (intro w' _; go_simp; (try with_reducible rfl))
      simp only [List.setIfInBounds_toArray, List.set_cons_zero, List.set_cons_succ]
      refine wpAnyD_takeP (i := 9) (oi := { dst := some 19, op := Op.nilCheck (Operand.tmp 18), type := 0, pos := "heap.go:48", after := #[{ on := 8, ground := Ground.data }], guard := none }) (d := 19) (v := ?_) rfl rfl (by kernel_rfl) (by kernel_rfl) (by kernel_rfl) (fun _ _ _ h => h) (Or.inl ⟨by rfl, ?_⟩) ?_
      rotate_left
      · (intro w' _; go_simp; (try with_reducible rfl))
      simp only [List.setIfInBounds_toArray, List.set_cons_zero, List.set_cons_succ]
      refine wpAnyD_takeP (i := 10) (oi := { dst := some 20, op := Op.fieldAddr 277 (Operand.tmp 19) 0, type := 0, pos := "heap.go:48", after := #[{ on := 9, ground := Ground.data }], guard := none }) (d := 20) (v := ?_) rfl rfl (by kernel_rfl) (by kernel_rfl) (by kernel_rfl) (fun _ _ _ h => h) (Or.inl ⟨by rfl, ?_⟩) ?_
      rotate_left
      · (intro w' _; go_simp; (try with_reducible rfl))
      simp only [List.setIfInBounds_toArray, List.set_cons_zero, List.set_cons_succ]
      refine wpAnyD_takeP (i := 12) (oi := { dst := some 22, op := Op.move (Operand.tmp 4), type := 3, pos := "heap.go:48", after := #[], guard := none }) (d := 22) (v := ?_) rfl rfl (by kernel_rfl) (by kernel_rfl) (by kernel_rfl) (fun _ _ _ h => h) (Or.inl ⟨by rfl, ?_⟩) ?_
      rotate_left
      · (intro w' _; go_simp; (try with_reducible rfl))
      simp only [List.setIfInBounds_toArray, List.set_cons_zero, List.set_cons_succ]
      refine wpAnyD_takeD (i := 3) (oi := { dst := some 13, op := Op.load 275 (Operand.tmp 12), type := 275, pos := "heap.go:48", after := #[{ on := 2, ground := Ground.data }], guard := none }) (d := 13) (v := ?_) rfl rfl (by kernel_rfl) (by kernel_rfl) (by kernel_rfl) (by kernel_rfl) (fun _ _ _ h => h) (Or.inl ⟨by rfl, ?_⟩) hHeld ?_
      rotate_left
      · (intro w' hSw; (try dsimp only at hSw); go_simp; (try with_reducible rfl))
      simp only [List.setIfInBounds_toArray, List.set_cons_zero, List.set_cons_succ]
      refine wpAnyD_takeP (i := 5) (oi := { dst := some 15, op := Op.indexAddr 275 (Operand.tmp 13) (Operand.tmp 14), type := 0, pos := "heap.go:48", after := #[{ on := 3, ground := Ground.data }, { on := 4, ground := Ground.data }], guard := none }) (d := 15) (v := ?_) rfl rfl (by kernel_rfl) (by kernel_rfl) (by kernel_rfl) (fun _ _ _ h => h) (Or.inl ⟨by rfl, ?_⟩) ?_
      rotate_left
      · (intro w' _; go_simp; (try with_reducible rfl))
      simp only [List.setIfInBounds_toArray, List.set_cons_zero, List.set_cons_succ]
      refine wpAnyD_takeP (i := 6) (oi := { dst := some 16, op := Op.fieldAddr 282 (Operand.tmp 15) 0, type := 0, pos := "heap.go:48", after := #[{ on := 5, ground := Ground.data }], guard := none }) (d := 16) (v := ?_) rfl rfl (by kernel_rfl) (by kernel_rfl) (by kernel_rfl) (fun _ _ _ h => h) (Or.inl ⟨by rfl, ?_⟩) ?_
      rotate_left
      · (intro w' _; go_simp; (try with_reducible rfl))
      simp only [List.setIfInBounds_toArray, List.set_cons_zero, List.set_cons_succ]
      refine wpAnyD_takeD (i := 7) (oi := { dst := some 17, op := Op.load 280 (Operand.tmp 16), type := 280, pos := "heap.go:48", after := #[{ on := 6, ground := Ground.data }], guard := none }) (d := 17) (v := ?_) rfl rfl (by kernel_rfl) (by kernel_rfl) (by kernel_rfl) (by kernel_rfl) (fun _ _ _ h => h) (Or.inl ⟨by rfl, ?_⟩) hHeld ?_
      rotate_left
      · (intro w' hSw; (try dsimp only at hSw); go_simp; (try with_reducible rfl))
      simp only [List.setIfInBounds_toArray, List.set_cons_zero, List.set_cons_succ]
      refine wpAnyD_takeD (i := 11) (oi := { dst := some 21, op := Op.load 275 (Operand.tmp 20), type := 275, pos := "heap.go:48", after := #[{ on := 10, ground := Ground.data }], guard := none }) (d := 21) (v := ?_) rfl rfl (by kernel_rfl) (by kernel_rfl) (by kernel_rfl) (by kernel_rfl) (fun _ _ _ h => h) (Or.inl ⟨by rfl, ?_⟩) hHeld ?_
      rotate_left
      · (intro w' hSw; (try dsimp only at hSw); go_simp; (try with_reducible rfl))
      simp only [List.setIfInBounds_toArray, List.set_cons_zero, List.set_cons_succ]
      refine wpAnyD_takeP (i := 13) (oi := { dst := some 23, op := Op.indexAddr 275 (Operand.tmp 21) (Operand.tmp 22), type := 0, pos := "heap.go:48", after := #[{ on := 11, ground := Ground.data }, { on := 12, ground := Ground.data }], guard := none }) (d := 23) (v := ?_) rfl rfl (by kernel_rfl) (by kernel_rfl) (by kernel_rfl) (fun _ _ _ h => h) (Or.inl ⟨by rfl, ?_⟩) ?_
      rotate_left
      · (intro w' _; go_simp; (try with_reducible rfl))
      simp only [List.setIfInBounds_toArray, List.set_cons_zero, List.set_cons_succ]
      refine wpAnyD_takeP (i := 14) (oi := { dst := some 24, op := Op.fieldAddr 282 (Operand.tmp 23) 0, type := 0, pos := "heap.go:48", after := #[{ on := 13, ground := Ground.data }], guard := none }) (d := 24) (v := ?_) rfl rfl (by kernel_rfl) (by kernel_rfl) (by kernel_rfl) (fun _ _ _ h => h) (Or.inl ⟨by rfl, ?_⟩) ?_
      rotate_left
      · (intro w' _; go_simp; (try with_reducible rfl))
      simp only [List.setIfInBounds_toArray, List.set_cons_zero, List.set_cons_succ]
      refine wpAnyD_takeD (i := 15) (oi := { dst := some 25, op := Op.load 280 (Operand.tmp 24), type := 280, pos := "heap.go:48", after := #[{ on := 14, ground := Ground.data }], guard := none }) (d := 25) (v := ?_) rfl rfl (by kernel_rfl) (by kernel_rfl) (by kernel_rfl) (by kernel_rfl) (fun _ _ _ h => h) (Or.inl ⟨by rfl, ?_⟩) hHeld ?_
      rotate_left
      · (intro w' hSw; (try dsimp only at hSw); go_simp; (try with_reducible rfl))
      simp only [List.setIfInBounds_toArray, List.set_cons_zero, List.set_cons_succ]
      refine wpAnyD_one (i := 16) (o := { dst := some 26, op := Op.call { callee := Callee.value (Operand.func 196), args := #[Operand.tmp 17, Operand.tmp 25], argTypes := #[280, 280] }, type := 4, pos := "heap.go:48", after := #[{ on := 7, ground := Ground.data }, { on := 15, ground := Ground.data }], guard := none }) (by kernel_rfl) rfl (by rfl) (fun K hK => ?_)
      go_simp; refine (HLE.out _).mono ?_; rintro e w' ⟨rfl, hb'⟩; have HBB := Lib.hid (HBB.out.trans (hb'.mono HBB.out.size)); have h := HSC.out _ HBB.out; clear hb'; go_simp
      refine hK.out _ _ h (fun hHeld => ?_)
      clear hK K
      try simp only [Act.put, List.setIfInBounds_toArray, List.set_cons_zero, List.set_cons_succ]
      refine wpAnyD_takeP (i := 17) (oi := { dst := some 27, op := Op.unOp UnOp.not 4 (Operand.tmp 26), type := 4, pos := "heap.go:48", after := #[{ on := 16, ground := Ground.data }], guard := none }) (d := 27) (v := ?_) rfl rfl (by kernel_rfl) (by kernel_rfl) (by kernel_rfl) (fun _ _ _ h => h) (Or.inl ⟨by rfl, ?_⟩) ?_
      rotate_left
      · (intro w' _; go_simp; (try with_reducible rfl))
      simp only [List.setIfInBounds_toArray, List.set_cons_zero, List.set_cons_succ]
      refine wpAnyD_done (by kernel_rfl) ?_ _
      have HW2 := Lib.hid (HW.out.below HBB.out (Nat.le_refl _))
      have HKP2 := Lib.hid (HKP.out.trans (Keep.of_below (F := fun g' => (some ⟨g, 0, none⟩ : Option Addr) = some ⟨g', 0, none⟩) HBB.out) (fun x hx => .inl hx))
      clear hHeld a0 a1 a2 b0 b1 b2 hc0 HSC HLE HW HKP HBB
      cases B with
      | false =>
        simp only [Bool.false_eq_true, if_false] at HE
        go_wp2_with fail
        (try simp only [Exit.inBlock, Exit.then])
        refine bodyPost_ret (results_none rfl _ _ _) rfl ?_
        exact ⟨rfl, by rw [← HUP.out, HE.out]; exact HW2.out, by first | exact HKP2.out | exact HKP2.out.mono (fun x hx => by simpa using hx)⟩
      | true =>
        simp only [if_true] at HE
        go_wp2_with fail
        refine (swap_any HW2.out k q hk hpar (by omega)).mono ?_
        rintro e w4 ⟨rfl, h4, hk4⟩
        have H4 := Lib.hid h4
        have HK4 := Lib.hid (HKP2.out.trans hk4 (fun x hx => .inl hx))
        clear h4 hk4
        go_wp2_with fail
        go_roundg (gk - 1)
        case measure => omega
        case rel => exact ⟨q, _, by omega, rfl, by rw [swap_len]; exact hpar, by rw [swap_len]; exact HML.out, by rw [← HE.out]; exact HUP.out, H4.out, by first | exact HK4.out | exact HK4.out.mono (fun x hx => by simpa using hx)⟩
end Go.Proofs.YtbppaiejpgdbiaaGreat.hw

/- Layer 3 (heap): heaps of waits: down. -/
namespace Go.Proofs.YtbppaiejpgdbiaaGreat.hw
open Go.RowKit Go.Maps Go.WideMaps
set_option maxRecDepth 100000
set_option linter.unusedVariables false
set_option linter.unusedSimpArgs false

theorem index_0 (x y : Int) (w : World) : (Instr.index 283 (.agg #[.int .i64 x, .int .i64 y]) (.int .i64 0)).run Tryz.prog w = .ok (.int .i64 x) w := by kernel_rfl
theorem index_1 (x y : Int) (w : World) : (Instr.index 283 (.agg #[.int .i64 x, .int .i64 y]) (.int .i64 1)).run Tryz.prog w = .ok (.int .i64 y) w := by kernel_rfl

set_option maxHeartbeats 8000000 in
theorem down_any {w : World} {base hb : Nat} {l : List (Th Wt)} {turn : Int} {A : Option Addr} {c : Nat} (h : HeapWs w base hb l turn A c) (hlen : l.length < 1000000000000000000) :
    Calls Tryz.prog 193 #[.pointer (some ⟨hb, 0, none⟩), .int .i64 0] w fun e w' => e = .returned (.tuple #[]) ∧ HeapWs w' base hb (downT l 0) turn A c ∧ Keep (fun g => A = some ⟨g, 0, none⟩) w w' := by
  have HH := Lib.hid h
  clear h
  go_enter Tryz.func193, Tryz.ntmps193
  go_wp2_with fail
  go_loopg [1] (l.length + 1) (fun n j W => ∃ (k : Nat) (m : List (Th Wt)), m.length + 1 ≤ k + n ∧ j = .int .i64 (k : Int) ∧ (k < m.length ∨ (k = 0 ∧ m.length = 0)) ∧ m.length = l.length ∧ downT m k = downT l 0 ∧ HeapWs W base hb m turn A c ∧ Keep (fun g => A = some ⟨g, 0, none⟩) w W)
  case atStart => exact ⟨0, l, by omega, rfl, by omega, rfl, rfl, HH.out, Keep.refl _ _⟩
  case round =>
    obtain ⟨k, m, hkn, rfl, hk, hml, hup, hW, hkeep⟩ := hrel
    rename World => W
    have HW := Lib.hid hW
    have HKP := Lib.hid hkeep
    have HUP := Lib.hid hup
    have HML := Lib.hid hml
    have hmlen : m.length < 1000000000000000000 := by omega
    clear hW hkeep hup HH hml
    have w1 : IntKind.i64.wrap (2 * (k : Int)) = 2 * (k : Int) := IntWalk.i64_in _ (by omega)
    have w2 : IntKind.i64.wrap (2 * (k : Int) + 1) = 2 * (k : Int) + 1 := IntWalk.i64_in _ (by omega)
    have w3 : IntKind.i64.wrap (2 * (k : Int) + 2) = 2 * (k : Int) + 2 := IntWalk.i64_in _ (by omega)
    go_wp2_with fail
    have HGO : Hid (∃ go, go = gk) := Lib.hid ⟨gk, rfl⟩
    obtain ⟨go, hgo⟩ := HGO.out
    have HGO := Lib.hid hgo
    clear hgo
    go_loopg [4, 15] 2 (fun n u i V => ∃ (j s : Nat), j + n = 2 ∧ i = .int .i64 (j : Int) ∧ u = .int .i64 (s : Int) ∧ (s < m.length ∨ (s = 0 ∧ m.length = 0)) ∧ (j = 0 → s = k) ∧ (j = 1 → s = lstT m k k (2 * k + 1)) ∧ (j = 2 → s = leastT m k) ∧ HeapWs V base hb m turn A c ∧ Keep (fun g => A = some ⟨g, 0, none⟩) w V)
    case atStart => exact ⟨0, k, rfl, rfl, rfl, by omega, fun _ => rfl, fun h => by omega, fun h => by omega, HW.out, HKP.out⟩
    case round =>
      obtain ⟨j, s, hj, rfl, rfl, hs, hc0N, hc1N, hc2N, hW2, hk2⟩ := hrel
      have HC0 := Lib.hid hc0N
      have HC1 := Lib.hid hc1N
      have HC2 := Lib.hid hc2N
      clear HW HKP hc0N hc1N hc2N
      rename World => W2
      have HW2 := Lib.hid hW2
      have HKP2 := Lib.hid hk2
      clear hW2 hk2
      rcases (by omega : j = 0 ∨ j = 1 ∨ j = 2) with rfl | rfl | rfl
      · have HCJ := Lib.hid (HC0.out rfl)
        obtain ⟨d, hd⟩ : ∃ d, 2 * k + 1 = d := ⟨_, rfl⟩
        have w5 : 2 * (k : Int) + 1 = (d : Int) := by omega
        have hix := fun x y => index_0 x y W2
        have HBB : Hid (Below W2.heap.size W2 W2.drew) := Lib.hid ⟨rfl, rfl, rfl, Nat.le_refl _, fun _ _ => rfl⟩
        have hc0 := blk_cell HW2.out.blk 0
        simp only [List.getElem?_toArray, List.getElem?_cons_zero, List.getElem?_cons_succ] at hc0
        go_upto_region 4 with fail
        clear hix
        (try rw [w5])
        by_cases hdm : d < m.length
        · have hs' : s < m.length := by omega
          have HE := Lib.hid (show lstT m k s d = if ltB m[d] m[s] = true then d else s from by unfold lstT; rw [dif_pos ⟨hdm, hs'⟩])
          obtain ⟨g, rfl, a0, a1, a2, a3, a4, a5⟩ := HW2.out.at d hdm
          obtain ⟨g', e, b0, b1, b2, b3, b4, b5⟩ := HW2.out.at s hs'
          injection e with e
          injection e with e
          subst e
          generalize hx : m[d] = x at *
          generalize hy : m[s] = y at *
          clear hx hy
          obtain ⟨xr, xp, xt, ⟨xx, xy, xz⟩⟩ := x
          obtain ⟨yr, yp, yt, ⟨yx, yy, yz⟩⟩ := y
          simp only at a0 a1 a2 a3 a4 a5 b0 b1 b2 b3 b4 b5
          have p0 : (0 : Int) ≤ (d : Int) := by omega
          have p1 : (d : Int) < (m.length : Int) := by omega
          have p2 : (0 : Int) ≤ (s : Int) := by omega
          have p3 : (s : Int) < (m.length : Int) := by omega
          have HSC : Hid (∀ V, Below W2.heap.size W2 V → V.cell? ⟨hb, 0, none⟩ = some (.slice (some ⟨g, 0, none⟩) m.length c) ∧ V.cell? ⟨g, d * 6, none⟩ = some (.int .i64 xr) ∧ V.cell? ⟨g, d * 6 + 1, none⟩ = some (.int .i64 xp) ∧ V.cell? ⟨g, d * 6 + 2, none⟩ = some (.int .i64 xt) ∧ V.cell? ⟨g, s * 6, none⟩ = some (.int .i64 yr) ∧ V.cell? ⟨g, s * 6 + 1, none⟩ = some (.int .i64 yp) ∧ V.cell? ⟨g, s * 6 + 2, none⟩ = some (.int .i64 yt)) := Lib.hid (fun V hV => ⟨below_cell hV (Nat.le_refl _) hc0, below_cell hV (Nat.le_refl _) a0, below_cell hV (Nat.le_refl _) a1, below_cell hV (Nat.le_refl _) a2, below_cell hV (Nat.le_refl _) b0, below_cell hV (Nat.le_refl _) b1, below_cell hV (Nat.le_refl _) b2⟩)
          have HLE := Lib.hid (fun V => less_any (⟨xr, xp, xt, ⟨xx, xy, xz⟩⟩ : Th Wt) ⟨yr, yp, yt, ⟨yx, yy, yz⟩⟩ V)
          obtain ⟨B, hB⟩ : ∃ B, ltB (⟨xr, xp, xt, ⟨xx, xy, xz⟩⟩ : Th Wt) ⟨yr, yp, yt, ⟨yx, yy, yz⟩⟩ = B := ⟨_, rfl⟩
          rw [hB] at HLE HE
          unfold keyV at HLE
          simp only at HLE
          have HD := Lib.hid hd
          have HDM := Lib.hid hdm
          clear hB hd w5 hdm a3 b3
          refine wp_region_D (Ds := []) (S := fun V => V.cell? ⟨hb, 0, none⟩ = some (.slice (some ⟨g, 0, none⟩) m.length c) ∧ V.cell? ⟨g, d * 6, none⟩ = some (.int .i64 xr) ∧ V.cell? ⟨g, d * 6 + 1, none⟩ = some (.int .i64 xp) ∧ V.cell? ⟨g, d * 6 + 2, none⟩ = some (.int .i64 xt) ∧ V.cell? ⟨g, s * 6, none⟩ = some (.int .i64 yr) ∧ V.cell? ⟨g, s * 6 + 1, none⟩ = some (.int .i64 yp) ∧ V.cell? ⟨g, s * 6 + 2, none⟩ = some (.int .i64 yt)) (by kernel_rfl) (by exact HSC.out _ HBB.out) (fun hHeld => ?_)
          refine wpAnyD_takeP (i := 0) (oi := { dst := some 18, op := Op.move (Operand.tmp 6), type := 3, pos := "heap.go:61", after := #[], guard := none }) (d := 18) (v := ?_) rfl rfl (by kernel_rfl) (by kernel_rfl) (by kernel_rfl) (fun _ _ _ h => h) (Or.inl ⟨by rfl, ?_⟩) ?_
          rotate_left
          · (intro w' _; go_simp; (try with_reducible rfl))
          simp only [List.setIfInBounds_toArray, List.set_cons_zero, List.set_cons_succ]
          refine wpAnyD_takeP (i := 1) (oi := { dst := some 19, op := Op.move (Operand.tmp 0), type := 258, pos := "heap.go:61", after := #[], guard := none }) (d := 19) (v := ?_) rfl rfl (by kernel_rfl) (by kernel_rfl) (by kernel_rfl) (fun _ _ _ h => h) (Or.inl ⟨by rfl, ?_⟩) ?_
          rotate_left
          · (intro w' _; go_simp; (try with_reducible rfl))
          simp only [List.setIfInBounds_toArray, List.set_cons_zero, List.set_cons_succ]
          refine wpAnyD_takeP (i := 2) (oi := { dst := some 20, op := Op.nilCheck (Operand.tmp 19), type := 0, pos := "heap.go:61", after := #[{ on := 1, ground := Ground.data }], guard := none }) (d := 20) (v := ?_) rfl rfl (by kernel_rfl) (by kernel_rfl) (by kernel_rfl) (fun _ _ _ h => h) (Or.inl ⟨by rfl, ?_⟩) ?_
          rotate_left
          · (intro w' _; go_simp; (try with_reducible rfl))
          simp only [List.setIfInBounds_toArray, List.set_cons_zero, List.set_cons_succ]
          refine wpAnyD_takeP (i := 3) (oi := { dst := some 21, op := Op.fieldAddr 277 (Operand.tmp 20) 0, type := 0, pos := "heap.go:61", after := #[{ on := 2, ground := Ground.data }], guard := none }) (d := 21) (v := ?_) rfl rfl (by kernel_rfl) (by kernel_rfl) (by kernel_rfl) (fun _ _ _ h => h) (Or.inl ⟨by rfl, ?_⟩) ?_
          rotate_left
          · (intro w' _; go_simp; (try with_reducible rfl))
          simp only [List.setIfInBounds_toArray, List.set_cons_zero, List.set_cons_succ]
          refine wpAnyD_takeD (i := 4) (oi := { dst := some 22, op := Op.load 275 (Operand.tmp 21), type := 275, pos := "heap.go:61", after := #[{ on := 3, ground := Ground.data }], guard := none }) (d := 22) (v := ?_) rfl rfl (by kernel_rfl) (by kernel_rfl) (by kernel_rfl) (by kernel_rfl) (fun _ _ _ h => h) (Or.inl ⟨by rfl, ?_⟩) hHeld ?_
          rotate_left
          · (intro w' hSw; (try dsimp only at hSw); go_simp; (try with_reducible rfl))
          simp only [List.setIfInBounds_toArray, List.set_cons_zero, List.set_cons_succ]
          refine wpAnyD_takeD (i := 5) (oi := { dst := some 23, op := Op.call { callee := Callee.builtin Builtin.len, args := #[Operand.tmp 22], argTypes := #[275] }, type := 3, pos := "heap.go:61", after := #[{ on := 4, ground := Ground.data }], guard := none }) (d := 23) (v := ?_) rfl rfl (by kernel_rfl) (by kernel_rfl) (by kernel_rfl) (by kernel_rfl) (fun _ _ _ h => h) (Or.inl ⟨by rfl, ?_⟩) hHeld ?_
          rotate_left
          · (intro w' hSw; (try dsimp only at hSw); go_simp; (try with_reducible rfl))
          simp only [List.setIfInBounds_toArray, List.set_cons_zero, List.set_cons_succ]
          refine wpAnyD_takeP (i := 6) (oi := { dst := some 24, op := Op.binOp BinOp.lss 3 (Operand.tmp 18) (Operand.tmp 23) 3, type := 4, pos := "heap.go:61", after := #[{ on := 0, ground := Ground.data }, { on := 5, ground := Ground.data }], guard := none }) (d := 24) (v := ?_) rfl rfl (by kernel_rfl) (by kernel_rfl) (by kernel_rfl) (fun _ _ _ h => h) (Or.inl ⟨by rfl, ?_⟩) ?_
          rotate_left
          · (intro w' _; go_simp; (try with_reducible rfl))
          simp only [List.setIfInBounds_toArray, List.set_cons_zero, List.set_cons_succ]
          refine wpAnyD_takeP (i := 7) (oi := { dst := some 25, op := Op.move (Operand.tmp 24), type := 4, pos := "heap.go:61", after := #[{ on := 6, ground := Ground.data }], guard := none }) (d := 25) (v := ?_) rfl rfl (by kernel_rfl) (by kernel_rfl) (by kernel_rfl) (fun _ _ _ h => h) (Or.inl ⟨by rfl, ?_⟩) ?_
          rotate_left
          · (intro w' _; go_simp; (try with_reducible rfl))
          simp only [List.setIfInBounds_toArray, List.set_cons_zero, List.set_cons_succ]
          refine wpAnyD_takeP (i := 8) (oi := { dst := some 26, op := Op.move (Operand.tmp 0), type := 258, pos := "heap.go:61", after := #[{ on := 7, ground := Ground.guard }], guard := some (7, true) }) (d := 26) (v := ?_) rfl rfl (by kernel_rfl) (by kernel_rfl) (by kernel_rfl) (fun _ _ _ h => h) (Or.inl ⟨by rfl, ?_⟩) ?_
          rotate_left
          · (intro w' _; go_simp; (try with_reducible rfl))
          simp only [List.setIfInBounds_toArray, List.set_cons_zero, List.set_cons_succ]
          refine wpAnyD_takeP (i := 9) (oi := { dst := some 27, op := Op.nilCheck (Operand.tmp 26), type := 0, pos := "heap.go:61", after := #[{ on := 8, ground := Ground.data }, { on := 7, ground := Ground.guard }], guard := some (7, true) }) (d := 27) (v := ?_) rfl rfl (by kernel_rfl) (by kernel_rfl) (by kernel_rfl) (fun _ _ _ h => h) (Or.inl ⟨by rfl, ?_⟩) ?_
          rotate_left
          · (intro w' _; go_simp; (try with_reducible rfl))
          simp only [List.setIfInBounds_toArray, List.set_cons_zero, List.set_cons_succ]
          refine wpAnyD_takeP (i := 10) (oi := { dst := some 28, op := Op.fieldAddr 277 (Operand.tmp 27) 0, type := 0, pos := "heap.go:61", after := #[{ on := 9, ground := Ground.data }, { on := 7, ground := Ground.guard }], guard := some (7, true) }) (d := 28) (v := ?_) rfl rfl (by kernel_rfl) (by kernel_rfl) (by kernel_rfl) (fun _ _ _ h => h) (Or.inl ⟨by rfl, ?_⟩) ?_
          rotate_left
          · (intro w' _; go_simp; (try with_reducible rfl))
          simp only [List.setIfInBounds_toArray, List.set_cons_zero, List.set_cons_succ]
          refine wpAnyD_takeP (i := 12) (oi := { dst := some 30, op := Op.move (Operand.tmp 6), type := 3, pos := "heap.go:61", after := #[{ on := 7, ground := Ground.guard }], guard := some (7, true) }) (d := 30) (v := ?_) rfl rfl (by kernel_rfl) (by kernel_rfl) (by kernel_rfl) (fun _ _ _ h => h) (Or.inl ⟨by rfl, ?_⟩) ?_
          rotate_left
          · (intro w' _; go_simp; (try with_reducible rfl))
          simp only [List.setIfInBounds_toArray, List.set_cons_zero, List.set_cons_succ]
          refine wpAnyD_takeP (i := 16) (oi := { dst := some 34, op := Op.move (Operand.tmp 0), type := 258, pos := "heap.go:61", after := #[{ on := 7, ground := Ground.guard }], guard := some (7, true) }) (d := 34) (v := ?_) rfl rfl (by kernel_rfl) (by kernel_rfl) (by kernel_rfl) (fun _ _ _ h => h) (Or.inl ⟨by rfl, ?_⟩) ?_
          rotate_left
          · (intro w' _; go_simp; (try with_reducible rfl))
          simp only [List.setIfInBounds_toArray, List.set_cons_zero, List.set_cons_succ]
          refine wpAnyD_takeP (i := 17) (oi := { dst := some 35, op := Op.nilCheck (Operand.tmp 34), type := 0, pos := "heap.go:61", after := #[{ on := 16, ground := Ground.data }, { on := 7, ground := Ground.guard }], guard := some (7, true) }) (d := 35) (v := ?_) rfl rfl (by kernel_rfl) (by kernel_rfl) (by kernel_rfl) (fun _ _ _ h => h) (Or.inl ⟨by rfl, ?_⟩) ?_
          rotate_left
          · (intro w' _; go_simp; (try with_reducible rfl))
          simp only [List.setIfInBounds_toArray, List.set_cons_zero, List.set_cons_succ]
          refine wpAnyD_takeP (i := 18) (oi := { dst := some 36, op := Op.fieldAddr 277 (Operand.tmp 35) 0, type := 0, pos := "heap.go:61", after := #[{ on := 17, ground := Ground.data }, { on := 7, ground := Ground.guard }], guard := some (7, true) }) (d := 36) (v := ?_) rfl rfl (by kernel_rfl) (by kernel_rfl) (by kernel_rfl) (fun _ _ _ h => h) (Or.inl ⟨by rfl, ?_⟩) ?_
          rotate_left
          · (intro w' _; go_simp; (try with_reducible rfl))
          simp only [List.setIfInBounds_toArray, List.set_cons_zero, List.set_cons_succ]
          refine wpAnyD_takeP (i := 20) (oi := { dst := some 38, op := Op.move (Operand.tmp 4), type := 3, pos := "heap.go:61", after := #[{ on := 7, ground := Ground.guard }], guard := some (7, true) }) (d := 38) (v := ?_) rfl rfl (by kernel_rfl) (by kernel_rfl) (by kernel_rfl) (fun _ _ _ h => h) (Or.inl ⟨by rfl, ?_⟩) ?_
          rotate_left
          · (intro w' _; go_simp; (try with_reducible rfl))
          simp only [List.setIfInBounds_toArray, List.set_cons_zero, List.set_cons_succ]
          refine wpAnyD_takeD (i := 11) (oi := { dst := some 29, op := Op.load 275 (Operand.tmp 28), type := 275, pos := "heap.go:61", after := #[{ on := 10, ground := Ground.data }, { on := 7, ground := Ground.guard }], guard := some (7, true) }) (d := 29) (v := ?_) rfl rfl (by kernel_rfl) (by kernel_rfl) (by kernel_rfl) (by kernel_rfl) (fun _ _ _ h => h) (Or.inl ⟨by rfl, ?_⟩) hHeld ?_
          rotate_left
          · (intro w' hSw; (try dsimp only at hSw); go_simp; (try with_reducible rfl))
          simp only [List.setIfInBounds_toArray, List.set_cons_zero, List.set_cons_succ]
          refine wpAnyD_takeP (i := 13) (oi := { dst := some 31, op := Op.indexAddr 275 (Operand.tmp 29) (Operand.tmp 30), type := 0, pos := "heap.go:61", after := #[{ on := 11, ground := Ground.data }, { on := 12, ground := Ground.data }, { on := 7, ground := Ground.guard }], guard := some (7, true) }) (d := 31) (v := ?_) rfl rfl (by kernel_rfl) (by kernel_rfl) (by kernel_rfl) (fun _ _ _ h => h) (Or.inl ⟨by rfl, ?_⟩) ?_
          rotate_left
          · (intro w' _; go_simp; (try with_reducible rfl))
          simp only [List.setIfInBounds_toArray, List.set_cons_zero, List.set_cons_succ]
          refine wpAnyD_takeP (i := 14) (oi := { dst := some 32, op := Op.fieldAddr 282 (Operand.tmp 31) 0, type := 0, pos := "heap.go:61", after := #[{ on := 13, ground := Ground.data }, { on := 7, ground := Ground.guard }], guard := some (7, true) }) (d := 32) (v := ?_) rfl rfl (by kernel_rfl) (by kernel_rfl) (by kernel_rfl) (fun _ _ _ h => h) (Or.inl ⟨by rfl, ?_⟩) ?_
          rotate_left
          · (intro w' _; go_simp; (try with_reducible rfl))
          simp only [List.setIfInBounds_toArray, List.set_cons_zero, List.set_cons_succ]
          refine wpAnyD_takeD (i := 15) (oi := { dst := some 33, op := Op.load 280 (Operand.tmp 32), type := 280, pos := "heap.go:61", after := #[{ on := 14, ground := Ground.data }, { on := 7, ground := Ground.guard }], guard := some (7, true) }) (d := 33) (v := ?_) rfl rfl (by kernel_rfl) (by kernel_rfl) (by kernel_rfl) (by kernel_rfl) (fun _ _ _ h => h) (Or.inl ⟨by rfl, ?_⟩) hHeld ?_
          rotate_left
          · (intro w' hSw; (try dsimp only at hSw); go_simp; (try with_reducible rfl))
          simp only [List.setIfInBounds_toArray, List.set_cons_zero, List.set_cons_succ]
          refine wpAnyD_takeD (i := 19) (oi := { dst := some 37, op := Op.load 275 (Operand.tmp 36), type := 275, pos := "heap.go:61", after := #[{ on := 18, ground := Ground.data }, { on := 7, ground := Ground.guard }], guard := some (7, true) }) (d := 37) (v := ?_) rfl rfl (by kernel_rfl) (by kernel_rfl) (by kernel_rfl) (by kernel_rfl) (fun _ _ _ h => h) (Or.inl ⟨by rfl, ?_⟩) hHeld ?_
          rotate_left
          · (intro w' hSw; (try dsimp only at hSw); go_simp; (try with_reducible rfl))
          simp only [List.setIfInBounds_toArray, List.set_cons_zero, List.set_cons_succ]
          refine wpAnyD_takeP (i := 21) (oi := { dst := some 39, op := Op.indexAddr 275 (Operand.tmp 37) (Operand.tmp 38), type := 0, pos := "heap.go:61", after := #[{ on := 19, ground := Ground.data }, { on := 20, ground := Ground.data }, { on := 7, ground := Ground.guard }], guard := some (7, true) }) (d := 39) (v := ?_) rfl rfl (by kernel_rfl) (by kernel_rfl) (by kernel_rfl) (fun _ _ _ h => h) (Or.inl ⟨by rfl, ?_⟩) ?_
          rotate_left
          · (intro w' _; go_simp; (try with_reducible rfl))
          simp only [List.setIfInBounds_toArray, List.set_cons_zero, List.set_cons_succ]
          refine wpAnyD_takeP (i := 22) (oi := { dst := some 40, op := Op.fieldAddr 282 (Operand.tmp 39) 0, type := 0, pos := "heap.go:61", after := #[{ on := 21, ground := Ground.data }, { on := 7, ground := Ground.guard }], guard := some (7, true) }) (d := 40) (v := ?_) rfl rfl (by kernel_rfl) (by kernel_rfl) (by kernel_rfl) (fun _ _ _ h => h) (Or.inl ⟨by rfl, ?_⟩) ?_
          rotate_left
          · (intro w' _; go_simp; (try with_reducible rfl))
          simp only [List.setIfInBounds_toArray, List.set_cons_zero, List.set_cons_succ]
          refine wpAnyD_takeD (i := 23) (oi := { dst := some 41, op := Op.load 280 (Operand.tmp 40), type := 280, pos := "heap.go:61", after := #[{ on := 22, ground := Ground.data }, { on := 7, ground := Ground.guard }], guard := some (7, true) }) (d := 41) (v := ?_) rfl rfl (by kernel_rfl) (by kernel_rfl) (by kernel_rfl) (by kernel_rfl) (fun _ _ _ h => h) (Or.inl ⟨by rfl, ?_⟩) hHeld ?_
          rotate_left
          · (intro w' hSw; (try dsimp only at hSw); go_simp; (try with_reducible rfl))
          simp only [List.setIfInBounds_toArray, List.set_cons_zero, List.set_cons_succ]
          refine wpAnyD_one (i := 24) (o := { dst := some 42, op := Op.call { callee := Callee.value (Operand.func 196), args := #[Operand.tmp 33, Operand.tmp 41], argTypes := #[280, 280] }, type := 4, pos := "heap.go:61", after := #[{ on := 15, ground := Ground.data }, { on := 23, ground := Ground.data }, { on := 7, ground := Ground.chain }, { on := 7, ground := Ground.guard }], guard := some (7, true) }) (by kernel_rfl) rfl (by rfl) (fun K hK => ?_)
          go_simp; refine (HLE.out _).mono ?_; rintro e w' ⟨rfl, hb'⟩; have HBB := Lib.hid (HBB.out.trans (hb'.mono HBB.out.size)); have h := HSC.out _ HBB.out; clear hb'; go_simp
          refine hK.out _ _ h (fun hHeld => ?_)
          clear hK K
          try simp only [Act.put, List.setIfInBounds_toArray, List.set_cons_zero, List.set_cons_succ]
          refine wpAnyD_takeP (i := 25) (oi := { dst := some 43, op := Op.pick (Operand.tmp 25) (Operand.tmp 42) (Operand.const (Value.bool false)), type := 4, pos := "heap.go:61", after := #[{ on := 7, ground := Ground.data }, { on := 24, ground := Ground.data }], guard := none }) (d := 43) (v := ?_) rfl rfl (by kernel_rfl) (by kernel_rfl) (by kernel_rfl) (fun _ _ _ h => h) (Or.inl ⟨by rfl, ?_⟩) ?_
          rotate_left
          · (intro w' _; go_simp; (try with_reducible rfl))
          simp only [List.setIfInBounds_toArray, List.set_cons_zero, List.set_cons_succ]
          refine wpAnyD_done (by kernel_rfl) ?_ _
          have HW3 := Lib.hid (HW2.out.below HBB.out (Nat.le_refl _))
          have HKP3 := Lib.hid (HKP2.out.trans (Keep.of_below (F := fun g' => (some ⟨g, 0, none⟩ : Option Addr) = some ⟨g', 0, none⟩) HBB.out) (fun x hx => .inl (by simpa using hx)))
          clear hHeld a0 a1 a2 b0 b1 b2 hc0 HSC HLE HW2 HKP2 HBB
          cases B with
          | false =>
            simp only [Bool.false_eq_true, if_false] at HE
            go_wp2_with fail
            have w9 : (d : Int) = 2 * (k : Int) + 1 := by have := HD.out; omega
            (try rw [w9])
            clear w9
            go_roundg (gk - 1)
            case measure => omega
            case rel => exact ⟨1, s, by omega, by first | rfl | simp, by first | rfl | (have := HD.out; exact congrArg (Value.int .i64) (by omega)), .inl hs', fun h => by omega, fun _ => HE.out.symm.trans (by rw [HCJ.out, HD.out]), fun h => by omega, HW3.out, by first | exact HKP3.out | exact HKP3.out.mono (fun x hx => by simpa using hx)⟩
          | true =>
            simp only [if_true] at HE
            go_wp2_with fail
            have w9 : (d : Int) = 2 * (k : Int) + 1 := by have := HD.out; omega
            (try rw [w9])
            clear w9
            go_roundg (gk - 1)
            case measure => omega
            case rel => exact ⟨1, d, by omega, by first | rfl | simp, by first | rfl | (have := HD.out; exact congrArg (Value.int .i64) (by omega)), .inl HDM.out, fun h => by omega, fun _ => HE.out.symm.trans (by rw [HCJ.out, HD.out]), fun h => by omega, HW3.out, by first | exact HKP3.out | exact HKP3.out.mono (fun x hx => by simpa using hx)⟩
        · have hdm' : ¬ (d : Int) < (m.length : Int) := by omega
          have HE := Lib.hid (show lstT m k s d = s from by unfold lstT; rw [dif_neg (fun h => hdm h.1)])
          have HD := Lib.hid hd
          clear hdm hd w5
          refine wp_region_D (Ds := []) (S := fun V => V.cell? ⟨hb, 0, none⟩ = some (.slice A m.length c)) (by kernel_rfl) (by exact hc0) (fun hHeld => ?_)
          refine wpAnyD_takeP (i := 0) (oi := { dst := some 18, op := Op.move (Operand.tmp 6), type := 3, pos := "heap.go:61", after := #[], guard := none }) (d := 18) (v := ?_) rfl rfl (by kernel_rfl) (by kernel_rfl) (by kernel_rfl) (fun _ _ _ h => h) (Or.inl ⟨by rfl, ?_⟩) ?_
          rotate_left
          · (intro w' _; go_simp; (try with_reducible rfl))
          simp only [List.setIfInBounds_toArray, List.set_cons_zero, List.set_cons_succ]
          refine wpAnyD_takeP (i := 1) (oi := { dst := some 19, op := Op.move (Operand.tmp 0), type := 258, pos := "heap.go:61", after := #[], guard := none }) (d := 19) (v := ?_) rfl rfl (by kernel_rfl) (by kernel_rfl) (by kernel_rfl) (fun _ _ _ h => h) (Or.inl ⟨by rfl, ?_⟩) ?_
          rotate_left
          · (intro w' _; go_simp; (try with_reducible rfl))
          simp only [List.setIfInBounds_toArray, List.set_cons_zero, List.set_cons_succ]
          refine wpAnyD_takeP (i := 2) (oi := { dst := some 20, op := Op.nilCheck (Operand.tmp 19), type := 0, pos := "heap.go:61", after := #[{ on := 1, ground := Ground.data }], guard := none }) (d := 20) (v := ?_) rfl rfl (by kernel_rfl) (by kernel_rfl) (by kernel_rfl) (fun _ _ _ h => h) (Or.inl ⟨by rfl, ?_⟩) ?_
          rotate_left
          · (intro w' _; go_simp; (try with_reducible rfl))
          simp only [List.setIfInBounds_toArray, List.set_cons_zero, List.set_cons_succ]
          refine wpAnyD_takeP (i := 3) (oi := { dst := some 21, op := Op.fieldAddr 277 (Operand.tmp 20) 0, type := 0, pos := "heap.go:61", after := #[{ on := 2, ground := Ground.data }], guard := none }) (d := 21) (v := ?_) rfl rfl (by kernel_rfl) (by kernel_rfl) (by kernel_rfl) (fun _ _ _ h => h) (Or.inl ⟨by rfl, ?_⟩) ?_
          rotate_left
          · (intro w' _; go_simp; (try with_reducible rfl))
          simp only [List.setIfInBounds_toArray, List.set_cons_zero, List.set_cons_succ]
          refine wpAnyD_takeD (i := 4) (oi := { dst := some 22, op := Op.load 275 (Operand.tmp 21), type := 275, pos := "heap.go:61", after := #[{ on := 3, ground := Ground.data }], guard := none }) (d := 22) (v := ?_) rfl rfl (by kernel_rfl) (by kernel_rfl) (by kernel_rfl) (by kernel_rfl) (fun _ _ _ h => h) (Or.inl ⟨by rfl, ?_⟩) hHeld ?_
          rotate_left
          · (intro w' hSw; (try dsimp only at hSw); go_simp; (try with_reducible rfl))
          simp only [List.setIfInBounds_toArray, List.set_cons_zero, List.set_cons_succ]
          refine wpAnyD_takeD (i := 5) (oi := { dst := some 23, op := Op.call { callee := Callee.builtin Builtin.len, args := #[Operand.tmp 22], argTypes := #[275] }, type := 3, pos := "heap.go:61", after := #[{ on := 4, ground := Ground.data }], guard := none }) (d := 23) (v := ?_) rfl rfl (by kernel_rfl) (by kernel_rfl) (by kernel_rfl) (by kernel_rfl) (fun _ _ _ h => h) (Or.inl ⟨by rfl, ?_⟩) hHeld ?_
          rotate_left
          · (intro w' hSw; (try dsimp only at hSw); go_simp; (try with_reducible rfl))
          simp only [List.setIfInBounds_toArray, List.set_cons_zero, List.set_cons_succ]
          refine wpAnyD_takeP (i := 6) (oi := { dst := some 24, op := Op.binOp BinOp.lss 3 (Operand.tmp 18) (Operand.tmp 23) 3, type := 4, pos := "heap.go:61", after := #[{ on := 0, ground := Ground.data }, { on := 5, ground := Ground.data }], guard := none }) (d := 24) (v := ?_) rfl rfl (by kernel_rfl) (by kernel_rfl) (by kernel_rfl) (fun _ _ _ h => h) (Or.inl ⟨by rfl, ?_⟩) ?_
          rotate_left
          · (intro w' _; go_simp; (try with_reducible rfl))
          simp only [List.setIfInBounds_toArray, List.set_cons_zero, List.set_cons_succ]
          refine wpAnyD_takeP (i := 7) (oi := { dst := some 25, op := Op.move (Operand.tmp 24), type := 4, pos := "heap.go:61", after := #[{ on := 6, ground := Ground.data }], guard := none }) (d := 25) (v := ?_) rfl rfl (by kernel_rfl) (by kernel_rfl) (by kernel_rfl) (fun _ _ _ h => h) (Or.inl ⟨by rfl, ?_⟩) ?_
          rotate_left
          · (intro w' _; go_simp; (try with_reducible rfl))
          simp only [List.setIfInBounds_toArray, List.set_cons_zero, List.set_cons_succ]
          refine wpAnyD_takeD (i := 8) (oi := { dst := some 26, op := Op.move (Operand.tmp 0), type := 258, pos := "heap.go:61", after := #[{ on := 7, ground := Ground.guard }], guard := some (7, true) }) (d := 26) (v := undef) rfl rfl (by kernel_rfl) (by kernel_rfl) (by kernel_rfl) (by kernel_rfl) (fun _ _ _ h => h) (Or.inr ⟨by rfl, rfl⟩) hHeld ?_
          simp only [List.setIfInBounds_toArray, List.set_cons_zero, List.set_cons_succ]
          refine wpAnyD_takeD (i := 9) (oi := { dst := some 27, op := Op.nilCheck (Operand.tmp 26), type := 0, pos := "heap.go:61", after := #[{ on := 8, ground := Ground.data }, { on := 7, ground := Ground.guard }], guard := some (7, true) }) (d := 27) (v := undef) rfl rfl (by kernel_rfl) (by kernel_rfl) (by kernel_rfl) (by kernel_rfl) (fun _ _ _ h => h) (Or.inr ⟨by rfl, rfl⟩) hHeld ?_
          simp only [List.setIfInBounds_toArray, List.set_cons_zero, List.set_cons_succ]
          refine wpAnyD_takeD (i := 10) (oi := { dst := some 28, op := Op.fieldAddr 277 (Operand.tmp 27) 0, type := 0, pos := "heap.go:61", after := #[{ on := 9, ground := Ground.data }, { on := 7, ground := Ground.guard }], guard := some (7, true) }) (d := 28) (v := undef) rfl rfl (by kernel_rfl) (by kernel_rfl) (by kernel_rfl) (by kernel_rfl) (fun _ _ _ h => h) (Or.inr ⟨by rfl, rfl⟩) hHeld ?_
          simp only [List.setIfInBounds_toArray, List.set_cons_zero, List.set_cons_succ]
          refine wpAnyD_takeD (i := 11) (oi := { dst := some 29, op := Op.load 275 (Operand.tmp 28), type := 275, pos := "heap.go:61", after := #[{ on := 10, ground := Ground.data }, { on := 7, ground := Ground.guard }], guard := some (7, true) }) (d := 29) (v := undef) rfl rfl (by kernel_rfl) (by kernel_rfl) (by kernel_rfl) (by kernel_rfl) (fun _ _ _ h => h) (Or.inr ⟨by rfl, rfl⟩) hHeld ?_
          simp only [List.setIfInBounds_toArray, List.set_cons_zero, List.set_cons_succ]
          refine wpAnyD_takeD (i := 12) (oi := { dst := some 30, op := Op.move (Operand.tmp 6), type := 3, pos := "heap.go:61", after := #[{ on := 7, ground := Ground.guard }], guard := some (7, true) }) (d := 30) (v := undef) rfl rfl (by kernel_rfl) (by kernel_rfl) (by kernel_rfl) (by kernel_rfl) (fun _ _ _ h => h) (Or.inr ⟨by rfl, rfl⟩) hHeld ?_
          simp only [List.setIfInBounds_toArray, List.set_cons_zero, List.set_cons_succ]
          refine wpAnyD_takeD (i := 13) (oi := { dst := some 31, op := Op.indexAddr 275 (Operand.tmp 29) (Operand.tmp 30), type := 0, pos := "heap.go:61", after := #[{ on := 11, ground := Ground.data }, { on := 12, ground := Ground.data }, { on := 7, ground := Ground.guard }], guard := some (7, true) }) (d := 31) (v := undef) rfl rfl (by kernel_rfl) (by kernel_rfl) (by kernel_rfl) (by kernel_rfl) (fun _ _ _ h => h) (Or.inr ⟨by rfl, rfl⟩) hHeld ?_
          simp only [List.setIfInBounds_toArray, List.set_cons_zero, List.set_cons_succ]
          refine wpAnyD_takeD (i := 14) (oi := { dst := some 32, op := Op.fieldAddr 282 (Operand.tmp 31) 0, type := 0, pos := "heap.go:61", after := #[{ on := 13, ground := Ground.data }, { on := 7, ground := Ground.guard }], guard := some (7, true) }) (d := 32) (v := undef) rfl rfl (by kernel_rfl) (by kernel_rfl) (by kernel_rfl) (by kernel_rfl) (fun _ _ _ h => h) (Or.inr ⟨by rfl, rfl⟩) hHeld ?_
          simp only [List.setIfInBounds_toArray, List.set_cons_zero, List.set_cons_succ]
          refine wpAnyD_takeD (i := 15) (oi := { dst := some 33, op := Op.load 280 (Operand.tmp 32), type := 280, pos := "heap.go:61", after := #[{ on := 14, ground := Ground.data }, { on := 7, ground := Ground.guard }], guard := some (7, true) }) (d := 33) (v := undef) rfl rfl (by kernel_rfl) (by kernel_rfl) (by kernel_rfl) (by kernel_rfl) (fun _ _ _ h => h) (Or.inr ⟨by rfl, rfl⟩) hHeld ?_
          simp only [List.setIfInBounds_toArray, List.set_cons_zero, List.set_cons_succ]
          refine wpAnyD_takeD (i := 16) (oi := { dst := some 34, op := Op.move (Operand.tmp 0), type := 258, pos := "heap.go:61", after := #[{ on := 7, ground := Ground.guard }], guard := some (7, true) }) (d := 34) (v := undef) rfl rfl (by kernel_rfl) (by kernel_rfl) (by kernel_rfl) (by kernel_rfl) (fun _ _ _ h => h) (Or.inr ⟨by rfl, rfl⟩) hHeld ?_
          simp only [List.setIfInBounds_toArray, List.set_cons_zero, List.set_cons_succ]
          refine wpAnyD_takeD (i := 17) (oi := { dst := some 35, op := Op.nilCheck (Operand.tmp 34), type := 0, pos := "heap.go:61", after := #[{ on := 16, ground := Ground.data }, { on := 7, ground := Ground.guard }], guard := some (7, true) }) (d := 35) (v := undef) rfl rfl (by kernel_rfl) (by kernel_rfl) (by kernel_rfl) (by kernel_rfl) (fun _ _ _ h => h) (Or.inr ⟨by rfl, rfl⟩) hHeld ?_
          simp only [List.setIfInBounds_toArray, List.set_cons_zero, List.set_cons_succ]
          refine wpAnyD_takeD (i := 18) (oi := { dst := some 36, op := Op.fieldAddr 277 (Operand.tmp 35) 0, type := 0, pos := "heap.go:61", after := #[{ on := 17, ground := Ground.data }, { on := 7, ground := Ground.guard }], guard := some (7, true) }) (d := 36) (v := undef) rfl rfl (by kernel_rfl) (by kernel_rfl) (by kernel_rfl) (by kernel_rfl) (fun _ _ _ h => h) (Or.inr ⟨by rfl, rfl⟩) hHeld ?_
          simp only [List.setIfInBounds_toArray, List.set_cons_zero, List.set_cons_succ]
          refine wpAnyD_takeD (i := 19) (oi := { dst := some 37, op := Op.load 275 (Operand.tmp 36), type := 275, pos := "heap.go:61", after := #[{ on := 18, ground := Ground.data }, { on := 7, ground := Ground.guard }], guard := some (7, true) }) (d := 37) (v := undef) rfl rfl (by kernel_rfl) (by kernel_rfl) (by kernel_rfl) (by kernel_rfl) (fun _ _ _ h => h) (Or.inr ⟨by rfl, rfl⟩) hHeld ?_
          simp only [List.setIfInBounds_toArray, List.set_cons_zero, List.set_cons_succ]
          refine wpAnyD_takeD (i := 20) (oi := { dst := some 38, op := Op.move (Operand.tmp 4), type := 3, pos := "heap.go:61", after := #[{ on := 7, ground := Ground.guard }], guard := some (7, true) }) (d := 38) (v := undef) rfl rfl (by kernel_rfl) (by kernel_rfl) (by kernel_rfl) (by kernel_rfl) (fun _ _ _ h => h) (Or.inr ⟨by rfl, rfl⟩) hHeld ?_
          simp only [List.setIfInBounds_toArray, List.set_cons_zero, List.set_cons_succ]
          refine wpAnyD_takeD (i := 21) (oi := { dst := some 39, op := Op.indexAddr 275 (Operand.tmp 37) (Operand.tmp 38), type := 0, pos := "heap.go:61", after := #[{ on := 19, ground := Ground.data }, { on := 20, ground := Ground.data }, { on := 7, ground := Ground.guard }], guard := some (7, true) }) (d := 39) (v := undef) rfl rfl (by kernel_rfl) (by kernel_rfl) (by kernel_rfl) (by kernel_rfl) (fun _ _ _ h => h) (Or.inr ⟨by rfl, rfl⟩) hHeld ?_
          simp only [List.setIfInBounds_toArray, List.set_cons_zero, List.set_cons_succ]
          refine wpAnyD_takeD (i := 22) (oi := { dst := some 40, op := Op.fieldAddr 282 (Operand.tmp 39) 0, type := 0, pos := "heap.go:61", after := #[{ on := 21, ground := Ground.data }, { on := 7, ground := Ground.guard }], guard := some (7, true) }) (d := 40) (v := undef) rfl rfl (by kernel_rfl) (by kernel_rfl) (by kernel_rfl) (by kernel_rfl) (fun _ _ _ h => h) (Or.inr ⟨by rfl, rfl⟩) hHeld ?_
          simp only [List.setIfInBounds_toArray, List.set_cons_zero, List.set_cons_succ]
          refine wpAnyD_takeD (i := 23) (oi := { dst := some 41, op := Op.load 280 (Operand.tmp 40), type := 280, pos := "heap.go:61", after := #[{ on := 22, ground := Ground.data }, { on := 7, ground := Ground.guard }], guard := some (7, true) }) (d := 41) (v := undef) rfl rfl (by kernel_rfl) (by kernel_rfl) (by kernel_rfl) (by kernel_rfl) (fun _ _ _ h => h) (Or.inr ⟨by rfl, rfl⟩) hHeld ?_
          simp only [List.setIfInBounds_toArray, List.set_cons_zero, List.set_cons_succ]
          refine wpAnyD_takeD (i := 24) (oi := { dst := some 42, op := Op.call { callee := Callee.value (Operand.func 196), args := #[Operand.tmp 33, Operand.tmp 41], argTypes := #[280, 280] }, type := 4, pos := "heap.go:61", after := #[{ on := 15, ground := Ground.data }, { on := 23, ground := Ground.data }, { on := 7, ground := Ground.chain }, { on := 7, ground := Ground.guard }], guard := some (7, true) }) (d := 42) (v := undef) rfl rfl (by kernel_rfl) (by kernel_rfl) (by kernel_rfl) (by kernel_rfl) (fun _ _ _ h => h) (Or.inr ⟨by rfl, rfl⟩) hHeld ?_
          simp only [List.setIfInBounds_toArray, List.set_cons_zero, List.set_cons_succ]
          refine wpAnyD_takeP (i := 25) (oi := { dst := some 43, op := Op.pick (Operand.tmp 25) (Operand.tmp 42) (Operand.const (Value.bool false)), type := 4, pos := "heap.go:61", after := #[{ on := 7, ground := Ground.data }, { on := 24, ground := Ground.data }], guard := none }) (d := 43) (v := ?_) rfl rfl (by kernel_rfl) (by kernel_rfl) (by kernel_rfl) (fun _ _ _ h => h) (Or.inl ⟨by rfl, ?_⟩) ?_
          rotate_left
          · (intro w' _; go_simp; (try with_reducible rfl))
          simp only [List.setIfInBounds_toArray, List.set_cons_zero, List.set_cons_succ]
          refine wpAnyD_done (by kernel_rfl) ?_ _
          have HW3 := Lib.hid (HW2.out.below HBB.out (Nat.le_refl _))
          have HKP3 := Lib.hid (HKP2.out.trans (Keep.of_below (F := fun g' => A = some ⟨g', 0, none⟩) HBB.out) (fun x hx => .inl (by simpa using hx)))
          clear hHeld hc0 HW2 HKP2 HBB
          go_wp2_with fail
          have w9 : (d : Int) = 2 * (k : Int) + 1 := by have := HD.out; omega
          (try rw [w9])
          clear w9
          go_roundg (gk - 1)
          case measure => omega
          case rel => exact ⟨1, s, by omega, by first | rfl | simp, by first | rfl | (have := HD.out; exact congrArg (Value.int .i64) (by omega)), hs, fun h => by omega, fun _ => HE.out.symm.trans (by rw [HCJ.out, HD.out]), fun h => by omega, HW3.out, by first | exact HKP3.out | exact HKP3.out.mono (fun x hx => by simpa using hx)⟩
      · have HCJ := Lib.hid (HC1.out rfl)
        obtain ⟨d, hd⟩ : ∃ d, 2 * k + 2 = d := ⟨_, rfl⟩
        have w5 : 2 * (k : Int) + 2 = (d : Int) := by omega
        have hix := fun x y => index_1 x y W2
        have HBB : Hid (Below W2.heap.size W2 W2.drew) := Lib.hid ⟨rfl, rfl, rfl, Nat.le_refl _, fun _ _ => rfl⟩
        have hc0 := blk_cell HW2.out.blk 0
        simp only [List.getElem?_toArray, List.getElem?_cons_zero, List.getElem?_cons_succ] at hc0
        go_upto_region 4 with fail
        clear hix
        (try rw [w5])
        by_cases hdm : d < m.length
        · have hs' : s < m.length := by omega
          have HE := Lib.hid (show lstT m k s d = if ltB m[d] m[s] = true then d else s from by unfold lstT; rw [dif_pos ⟨hdm, hs'⟩])
          obtain ⟨g, rfl, a0, a1, a2, a3, a4, a5⟩ := HW2.out.at d hdm
          obtain ⟨g', e, b0, b1, b2, b3, b4, b5⟩ := HW2.out.at s hs'
          injection e with e
          injection e with e
          subst e
          generalize hx : m[d] = x at *
          generalize hy : m[s] = y at *
          clear hx hy
          obtain ⟨xr, xp, xt, ⟨xx, xy, xz⟩⟩ := x
          obtain ⟨yr, yp, yt, ⟨yx, yy, yz⟩⟩ := y
          simp only at a0 a1 a2 a3 a4 a5 b0 b1 b2 b3 b4 b5
          have p0 : (0 : Int) ≤ (d : Int) := by omega
          have p1 : (d : Int) < (m.length : Int) := by omega
          have p2 : (0 : Int) ≤ (s : Int) := by omega
          have p3 : (s : Int) < (m.length : Int) := by omega
          have HSC : Hid (∀ V, Below W2.heap.size W2 V → V.cell? ⟨hb, 0, none⟩ = some (.slice (some ⟨g, 0, none⟩) m.length c) ∧ V.cell? ⟨g, d * 6, none⟩ = some (.int .i64 xr) ∧ V.cell? ⟨g, d * 6 + 1, none⟩ = some (.int .i64 xp) ∧ V.cell? ⟨g, d * 6 + 2, none⟩ = some (.int .i64 xt) ∧ V.cell? ⟨g, s * 6, none⟩ = some (.int .i64 yr) ∧ V.cell? ⟨g, s * 6 + 1, none⟩ = some (.int .i64 yp) ∧ V.cell? ⟨g, s * 6 + 2, none⟩ = some (.int .i64 yt)) := Lib.hid (fun V hV => ⟨below_cell hV (Nat.le_refl _) hc0, below_cell hV (Nat.le_refl _) a0, below_cell hV (Nat.le_refl _) a1, below_cell hV (Nat.le_refl _) a2, below_cell hV (Nat.le_refl _) b0, below_cell hV (Nat.le_refl _) b1, below_cell hV (Nat.le_refl _) b2⟩)
          have HLE := Lib.hid (fun V => less_any (⟨xr, xp, xt, ⟨xx, xy, xz⟩⟩ : Th Wt) ⟨yr, yp, yt, ⟨yx, yy, yz⟩⟩ V)
          obtain ⟨B, hB⟩ : ∃ B, ltB (⟨xr, xp, xt, ⟨xx, xy, xz⟩⟩ : Th Wt) ⟨yr, yp, yt, ⟨yx, yy, yz⟩⟩ = B := ⟨_, rfl⟩
          rw [hB] at HLE HE
          unfold keyV at HLE
          simp only at HLE
          have HD := Lib.hid hd
          have HDM := Lib.hid hdm
          clear hB hd w5 hdm a3 b3
          refine wp_region_D (Ds := []) (S := fun V => V.cell? ⟨hb, 0, none⟩ = some (.slice (some ⟨g, 0, none⟩) m.length c) ∧ V.cell? ⟨g, d * 6, none⟩ = some (.int .i64 xr) ∧ V.cell? ⟨g, d * 6 + 1, none⟩ = some (.int .i64 xp) ∧ V.cell? ⟨g, d * 6 + 2, none⟩ = some (.int .i64 xt) ∧ V.cell? ⟨g, s * 6, none⟩ = some (.int .i64 yr) ∧ V.cell? ⟨g, s * 6 + 1, none⟩ = some (.int .i64 yp) ∧ V.cell? ⟨g, s * 6 + 2, none⟩ = some (.int .i64 yt)) (by kernel_rfl) (by exact HSC.out _ HBB.out) (fun hHeld => ?_)
          refine wpAnyD_takeP (i := 0) (oi := { dst := some 18, op := Op.move (Operand.tmp 6), type := 3, pos := "heap.go:61", after := #[], guard := none }) (d := 18) (v := ?_) rfl rfl (by kernel_rfl) (by kernel_rfl) (by kernel_rfl) (fun _ _ _ h => h) (Or.inl ⟨by rfl, ?_⟩) ?_
          rotate_left
          · (intro w' _; go_simp; (try with_reducible rfl))
          simp only [List.setIfInBounds_toArray, List.set_cons_zero, List.set_cons_succ]
          refine wpAnyD_takeP (i := 1) (oi := { dst := some 19, op := Op.move (Operand.tmp 0), type := 258, pos := "heap.go:61", after := #[], guard := none }) (d := 19) (v := ?_) rfl rfl (by kernel_rfl) (by kernel_rfl) (by kernel_rfl) (fun _ _ _ h => h) (Or.inl ⟨by rfl, ?_⟩) ?_
          rotate_left
          · (intro w' _; go_simp; (try with_reducible rfl))
          simp only [List.setIfInBounds_toArray, List.set_cons_zero, List.set_cons_succ]
          refine wpAnyD_takeP (i := 2) (oi := { dst := some 20, op := Op.nilCheck (Operand.tmp 19), type := 0, pos := "heap.go:61", after := #[{ on := 1, ground := Ground.data }], guard := none }) (d := 20) (v := ?_) rfl rfl (by kernel_rfl) (by kernel_rfl) (by kernel_rfl) (fun _ _ _ h => h) (Or.inl ⟨by rfl, ?_⟩) ?_
          rotate_left
          · (intro w' _; go_simp; (try with_reducible rfl))
          simp only [List.setIfInBounds_toArray, List.set_cons_zero, List.set_cons_succ]
          refine wpAnyD_takeP (i := 3) (oi := { dst := some 21, op := Op.fieldAddr 277 (Operand.tmp 20) 0, type := 0, pos := "heap.go:61", after := #[{ on := 2, ground := Ground.data }], guard := none }) (d := 21) (v := ?_) rfl rfl (by kernel_rfl) (by kernel_rfl) (by kernel_rfl) (fun _ _ _ h => h) (Or.inl ⟨by rfl, ?_⟩) ?_
          rotate_left
          · (intro w' _; go_simp; (try with_reducible rfl))
          simp only [List.setIfInBounds_toArray, List.set_cons_zero, List.set_cons_succ]
          refine wpAnyD_takeD (i := 4) (oi := { dst := some 22, op := Op.load 275 (Operand.tmp 21), type := 275, pos := "heap.go:61", after := #[{ on := 3, ground := Ground.data }], guard := none }) (d := 22) (v := ?_) rfl rfl (by kernel_rfl) (by kernel_rfl) (by kernel_rfl) (by kernel_rfl) (fun _ _ _ h => h) (Or.inl ⟨by rfl, ?_⟩) hHeld ?_
          rotate_left
          · (intro w' hSw; (try dsimp only at hSw); go_simp; (try with_reducible rfl))
          simp only [List.setIfInBounds_toArray, List.set_cons_zero, List.set_cons_succ]
          refine wpAnyD_takeD (i := 5) (oi := { dst := some 23, op := Op.call { callee := Callee.builtin Builtin.len, args := #[Operand.tmp 22], argTypes := #[275] }, type := 3, pos := "heap.go:61", after := #[{ on := 4, ground := Ground.data }], guard := none }) (d := 23) (v := ?_) rfl rfl (by kernel_rfl) (by kernel_rfl) (by kernel_rfl) (by kernel_rfl) (fun _ _ _ h => h) (Or.inl ⟨by rfl, ?_⟩) hHeld ?_
          rotate_left
          · (intro w' hSw; (try dsimp only at hSw); go_simp; (try with_reducible rfl))
          simp only [List.setIfInBounds_toArray, List.set_cons_zero, List.set_cons_succ]
          refine wpAnyD_takeP (i := 6) (oi := { dst := some 24, op := Op.binOp BinOp.lss 3 (Operand.tmp 18) (Operand.tmp 23) 3, type := 4, pos := "heap.go:61", after := #[{ on := 0, ground := Ground.data }, { on := 5, ground := Ground.data }], guard := none }) (d := 24) (v := ?_) rfl rfl (by kernel_rfl) (by kernel_rfl) (by kernel_rfl) (fun _ _ _ h => h) (Or.inl ⟨by rfl, ?_⟩) ?_
          rotate_left
          · (intro w' _; go_simp; (try with_reducible rfl))
          simp only [List.setIfInBounds_toArray, List.set_cons_zero, List.set_cons_succ]
          refine wpAnyD_takeP (i := 7) (oi := { dst := some 25, op := Op.move (Operand.tmp 24), type := 4, pos := "heap.go:61", after := #[{ on := 6, ground := Ground.data }], guard := none }) (d := 25) (v := ?_) rfl rfl (by kernel_rfl) (by kernel_rfl) (by kernel_rfl) (fun _ _ _ h => h) (Or.inl ⟨by rfl, ?_⟩) ?_
          rotate_left
          · (intro w' _; go_simp; (try with_reducible rfl))
          simp only [List.setIfInBounds_toArray, List.set_cons_zero, List.set_cons_succ]
          refine wpAnyD_takeP (i := 8) (oi := { dst := some 26, op := Op.move (Operand.tmp 0), type := 258, pos := "heap.go:61", after := #[{ on := 7, ground := Ground.guard }], guard := some (7, true) }) (d := 26) (v := ?_) rfl rfl (by kernel_rfl) (by kernel_rfl) (by kernel_rfl) (fun _ _ _ h => h) (Or.inl ⟨by rfl, ?_⟩) ?_
          rotate_left
          · (intro w' _; go_simp; (try with_reducible rfl))
          simp only [List.setIfInBounds_toArray, List.set_cons_zero, List.set_cons_succ]
          refine wpAnyD_takeP (i := 9) (oi := { dst := some 27, op := Op.nilCheck (Operand.tmp 26), type := 0, pos := "heap.go:61", after := #[{ on := 8, ground := Ground.data }, { on := 7, ground := Ground.guard }], guard := some (7, true) }) (d := 27) (v := ?_) rfl rfl (by kernel_rfl) (by kernel_rfl) (by kernel_rfl) (fun _ _ _ h => h) (Or.inl ⟨by rfl, ?_⟩) ?_
          rotate_left
          · (intro w' _; go_simp; (try with_reducible rfl))
          simp only [List.setIfInBounds_toArray, List.set_cons_zero, List.set_cons_succ]
          refine wpAnyD_takeP (i := 10) (oi := { dst := some 28, op := Op.fieldAddr 277 (Operand.tmp 27) 0, type := 0, pos := "heap.go:61", after := #[{ on := 9, ground := Ground.data }, { on := 7, ground := Ground.guard }], guard := some (7, true) }) (d := 28) (v := ?_) rfl rfl (by kernel_rfl) (by kernel_rfl) (by kernel_rfl) (fun _ _ _ h => h) (Or.inl ⟨by rfl, ?_⟩) ?_
          rotate_left
          · (intro w' _; go_simp; (try with_reducible rfl))
          simp only [List.setIfInBounds_toArray, List.set_cons_zero, List.set_cons_succ]
          refine wpAnyD_takeP (i := 12) (oi := { dst := some 30, op := Op.move (Operand.tmp 6), type := 3, pos := "heap.go:61", after := #[{ on := 7, ground := Ground.guard }], guard := some (7, true) }) (d := 30) (v := ?_) rfl rfl (by kernel_rfl) (by kernel_rfl) (by kernel_rfl) (fun _ _ _ h => h) (Or.inl ⟨by rfl, ?_⟩) ?_
          rotate_left
          · (intro w' _; go_simp; (try with_reducible rfl))
          simp only [List.setIfInBounds_toArray, List.set_cons_zero, List.set_cons_succ]
          refine wpAnyD_takeP (i := 16) (oi := { dst := some 34, op := Op.move (Operand.tmp 0), type := 258, pos := "heap.go:61", after := #[{ on := 7, ground := Ground.guard }], guard := some (7, true) }) (d := 34) (v := ?_) rfl rfl (by kernel_rfl) (by kernel_rfl) (by kernel_rfl) (fun _ _ _ h => h) (Or.inl ⟨by rfl, ?_⟩) ?_
          rotate_left
          · (intro w' _; go_simp; (try with_reducible rfl))
          simp only [List.setIfInBounds_toArray, List.set_cons_zero, List.set_cons_succ]
          refine wpAnyD_takeP (i := 17) (oi := { dst := some 35, op := Op.nilCheck (Operand.tmp 34), type := 0, pos := "heap.go:61", after := #[{ on := 16, ground := Ground.data }, { on := 7, ground := Ground.guard }], guard := some (7, true) }) (d := 35) (v := ?_) rfl rfl (by kernel_rfl) (by kernel_rfl) (by kernel_rfl) (fun _ _ _ h => h) (Or.inl ⟨by rfl, ?_⟩) ?_
          rotate_left
          · (intro w' _; go_simp; (try with_reducible rfl))
          simp only [List.setIfInBounds_toArray, List.set_cons_zero, List.set_cons_succ]
          refine wpAnyD_takeP (i := 18) (oi := { dst := some 36, op := Op.fieldAddr 277 (Operand.tmp 35) 0, type := 0, pos := "heap.go:61", after := #[{ on := 17, ground := Ground.data }, { on := 7, ground := Ground.guard }], guard := some (7, true) }) (d := 36) (v := ?_) rfl rfl (by kernel_rfl) (by kernel_rfl) (by kernel_rfl) (fun _ _ _ h => h) (Or.inl ⟨by rfl, ?_⟩) ?_
          rotate_left
          · (intro w' _; go_simp; (try with_reducible rfl))
          simp only [List.setIfInBounds_toArray, List.set_cons_zero, List.set_cons_succ]
          refine wpAnyD_takeP (i := 20) (oi := { dst := some 38, op := Op.move (Operand.tmp 4), type := 3, pos := "heap.go:61", after := #[{ on := 7, ground := Ground.guard }], guard := some (7, true) }) (d := 38) (v := ?_) rfl rfl (by kernel_rfl) (by kernel_rfl) (by kernel_rfl) (fun _ _ _ h => h) (Or.inl ⟨by rfl, ?_⟩) ?_
          rotate_left
          · (intro w' _; go_simp; (try with_reducible rfl))
          simp only [List.setIfInBounds_toArray, List.set_cons_zero, List.set_cons_succ]
          refine wpAnyD_takeD (i := 11) (oi := { dst := some 29, op := Op.load 275 (Operand.tmp 28), type := 275, pos := "heap.go:61", after := #[{ on := 10, ground := Ground.data }, { on := 7, ground := Ground.guard }], guard := some (7, true) }) (d := 29) (v := ?_) rfl rfl (by kernel_rfl) (by kernel_rfl) (by kernel_rfl) (by kernel_rfl) (fun _ _ _ h => h) (Or.inl ⟨by rfl, ?_⟩) hHeld ?_
          rotate_left
          · (intro w' hSw; (try dsimp only at hSw); go_simp; (try with_reducible rfl))
          simp only [List.setIfInBounds_toArray, List.set_cons_zero, List.set_cons_succ]
          refine wpAnyD_takeP (i := 13) (oi := { dst := some 31, op := Op.indexAddr 275 (Operand.tmp 29) (Operand.tmp 30), type := 0, pos := "heap.go:61", after := #[{ on := 11, ground := Ground.data }, { on := 12, ground := Ground.data }, { on := 7, ground := Ground.guard }], guard := some (7, true) }) (d := 31) (v := ?_) rfl rfl (by kernel_rfl) (by kernel_rfl) (by kernel_rfl) (fun _ _ _ h => h) (Or.inl ⟨by rfl, ?_⟩) ?_
          rotate_left
          · (intro w' _; go_simp; (try with_reducible rfl))
          simp only [List.setIfInBounds_toArray, List.set_cons_zero, List.set_cons_succ]
          refine wpAnyD_takeP (i := 14) (oi := { dst := some 32, op := Op.fieldAddr 282 (Operand.tmp 31) 0, type := 0, pos := "heap.go:61", after := #[{ on := 13, ground := Ground.data }, { on := 7, ground := Ground.guard }], guard := some (7, true) }) (d := 32) (v := ?_) rfl rfl (by kernel_rfl) (by kernel_rfl) (by kernel_rfl) (fun _ _ _ h => h) (Or.inl ⟨by rfl, ?_⟩) ?_
          rotate_left
          · (intro w' _; go_simp; (try with_reducible rfl))
          simp only [List.setIfInBounds_toArray, List.set_cons_zero, List.set_cons_succ]
          refine wpAnyD_takeD (i := 15) (oi := { dst := some 33, op := Op.load 280 (Operand.tmp 32), type := 280, pos := "heap.go:61", after := #[{ on := 14, ground := Ground.data }, { on := 7, ground := Ground.guard }], guard := some (7, true) }) (d := 33) (v := ?_) rfl rfl (by kernel_rfl) (by kernel_rfl) (by kernel_rfl) (by kernel_rfl) (fun _ _ _ h => h) (Or.inl ⟨by rfl, ?_⟩) hHeld ?_
          rotate_left
          · (intro w' hSw; (try dsimp only at hSw); go_simp; (try with_reducible rfl))
          simp only [List.setIfInBounds_toArray, List.set_cons_zero, List.set_cons_succ]
          refine wpAnyD_takeD (i := 19) (oi := { dst := some 37, op := Op.load 275 (Operand.tmp 36), type := 275, pos := "heap.go:61", after := #[{ on := 18, ground := Ground.data }, { on := 7, ground := Ground.guard }], guard := some (7, true) }) (d := 37) (v := ?_) rfl rfl (by kernel_rfl) (by kernel_rfl) (by kernel_rfl) (by kernel_rfl) (fun _ _ _ h => h) (Or.inl ⟨by rfl, ?_⟩) hHeld ?_
          rotate_left
          · (intro w' hSw; (try dsimp only at hSw); go_simp; (try with_reducible rfl))
          simp only [List.setIfInBounds_toArray, List.set_cons_zero, List.set_cons_succ]
          refine wpAnyD_takeP (i := 21) (oi := { dst := some 39, op := Op.indexAddr 275 (Operand.tmp 37) (Operand.tmp 38), type := 0, pos := "heap.go:61", after := #[{ on := 19, ground := Ground.data }, { on := 20, ground := Ground.data }, { on := 7, ground := Ground.guard }], guard := some (7, true) }) (d := 39) (v := ?_) rfl rfl (by kernel_rfl) (by kernel_rfl) (by kernel_rfl) (fun _ _ _ h => h) (Or.inl ⟨by rfl, ?_⟩) ?_
          rotate_left
          · (intro w' _; go_simp; (try with_reducible rfl))
          simp only [List.setIfInBounds_toArray, List.set_cons_zero, List.set_cons_succ]
          refine wpAnyD_takeP (i := 22) (oi := { dst := some 40, op := Op.fieldAddr 282 (Operand.tmp 39) 0, type := 0, pos := "heap.go:61", after := #[{ on := 21, ground := Ground.data }, { on := 7, ground := Ground.guard }], guard := some (7, true) }) (d := 40) (v := ?_) rfl rfl (by kernel_rfl) (by kernel_rfl) (by kernel_rfl) (fun _ _ _ h => h) (Or.inl ⟨by rfl, ?_⟩) ?_
          rotate_left
          · (intro w' _; go_simp; (try with_reducible rfl))
          simp only [List.setIfInBounds_toArray, List.set_cons_zero, List.set_cons_succ]
          refine wpAnyD_takeD (i := 23) (oi := { dst := some 41, op := Op.load 280 (Operand.tmp 40), type := 280, pos := "heap.go:61", after := #[{ on := 22, ground := Ground.data }, { on := 7, ground := Ground.guard }], guard := some (7, true) }) (d := 41) (v := ?_) rfl rfl (by kernel_rfl) (by kernel_rfl) (by kernel_rfl) (by kernel_rfl) (fun _ _ _ h => h) (Or.inl ⟨by rfl, ?_⟩) hHeld ?_
          rotate_left
          · (intro w' hSw; (try dsimp only at hSw); go_simp; (try with_reducible rfl))
          simp only [List.setIfInBounds_toArray, List.set_cons_zero, List.set_cons_succ]
          refine wpAnyD_one (i := 24) (o := { dst := some 42, op := Op.call { callee := Callee.value (Operand.func 196), args := #[Operand.tmp 33, Operand.tmp 41], argTypes := #[280, 280] }, type := 4, pos := "heap.go:61", after := #[{ on := 15, ground := Ground.data }, { on := 23, ground := Ground.data }, { on := 7, ground := Ground.chain }, { on := 7, ground := Ground.guard }], guard := some (7, true) }) (by kernel_rfl) rfl (by rfl) (fun K hK => ?_)
          go_simp; refine (HLE.out _).mono ?_; rintro e w' ⟨rfl, hb'⟩; have HBB := Lib.hid (HBB.out.trans (hb'.mono HBB.out.size)); have h := HSC.out _ HBB.out; clear hb'; go_simp
          refine hK.out _ _ h (fun hHeld => ?_)
          clear hK K
          try simp only [Act.put, List.setIfInBounds_toArray, List.set_cons_zero, List.set_cons_succ]
          refine wpAnyD_takeP (i := 25) (oi := { dst := some 43, op := Op.pick (Operand.tmp 25) (Operand.tmp 42) (Operand.const (Value.bool false)), type := 4, pos := "heap.go:61", after := #[{ on := 7, ground := Ground.data }, { on := 24, ground := Ground.data }], guard := none }) (d := 43) (v := ?_) rfl rfl (by kernel_rfl) (by kernel_rfl) (by kernel_rfl) (fun _ _ _ h => h) (Or.inl ⟨by rfl, ?_⟩) ?_
          rotate_left
          · (intro w' _; go_simp; (try with_reducible rfl))
          simp only [List.setIfInBounds_toArray, List.set_cons_zero, List.set_cons_succ]
          refine wpAnyD_done (by kernel_rfl) ?_ _
          have HW3 := Lib.hid (HW2.out.below HBB.out (Nat.le_refl _))
          have HKP3 := Lib.hid (HKP2.out.trans (Keep.of_below (F := fun g' => (some ⟨g, 0, none⟩ : Option Addr) = some ⟨g', 0, none⟩) HBB.out) (fun x hx => .inl (by simpa using hx)))
          clear hHeld a0 a1 a2 b0 b1 b2 hc0 HSC HLE HW2 HKP2 HBB
          cases B with
          | false =>
            simp only [Bool.false_eq_true, if_false] at HE
            go_wp2_with fail
            have w9 : (d : Int) = 2 * (k : Int) + 2 := by have := HD.out; omega
            (try rw [w9])
            clear w9
            go_roundg (gk - 1)
            case measure => omega
            case rel => exact ⟨2, s, by omega, by first | rfl | simp, by first | rfl | (have := HD.out; exact congrArg (Value.int .i64) (by omega)), .inl hs', fun h => by omega, fun h => by omega, fun _ => HE.out.symm.trans (by rw [HCJ.out, ← HD.out]; rfl), HW3.out, by first | exact HKP3.out | exact HKP3.out.mono (fun x hx => by simpa using hx)⟩
          | true =>
            simp only [if_true] at HE
            go_wp2_with fail
            have w9 : (d : Int) = 2 * (k : Int) + 2 := by have := HD.out; omega
            (try rw [w9])
            clear w9
            go_roundg (gk - 1)
            case measure => omega
            case rel => exact ⟨2, d, by omega, by first | rfl | simp, by first | rfl | (have := HD.out; exact congrArg (Value.int .i64) (by omega)), .inl HDM.out, fun h => by omega, fun h => by omega, fun _ => HE.out.symm.trans (by rw [HCJ.out, ← HD.out]; rfl), HW3.out, by first | exact HKP3.out | exact HKP3.out.mono (fun x hx => by simpa using hx)⟩
        · have hdm' : ¬ (d : Int) < (m.length : Int) := by omega
          have HE := Lib.hid (show lstT m k s d = s from by unfold lstT; rw [dif_neg (fun h => hdm h.1)])
          have HD := Lib.hid hd
          clear hdm hd w5
          refine wp_region_D (Ds := []) (S := fun V => V.cell? ⟨hb, 0, none⟩ = some (.slice A m.length c)) (by kernel_rfl) (by exact hc0) (fun hHeld => ?_)
          refine wpAnyD_takeP (i := 0) (oi := { dst := some 18, op := Op.move (Operand.tmp 6), type := 3, pos := "heap.go:61", after := #[], guard := none }) (d := 18) (v := ?_) rfl rfl (by kernel_rfl) (by kernel_rfl) (by kernel_rfl) (fun _ _ _ h => h) (Or.inl ⟨by rfl, ?_⟩) ?_
          rotate_left
          · (intro w' _; go_simp; (try with_reducible rfl))
          simp only [List.setIfInBounds_toArray, List.set_cons_zero, List.set_cons_succ]
          refine wpAnyD_takeP (i := 1) (oi := { dst := some 19, op := Op.move (Operand.tmp 0), type := 258, pos := "heap.go:61", after := #[], guard := none }) (d := 19) (v := ?_) rfl rfl (by kernel_rfl) (by kernel_rfl) (by kernel_rfl) (fun _ _ _ h => h) (Or.inl ⟨by rfl, ?_⟩) ?_
          rotate_left
          · (intro w' _; go_simp; (try with_reducible rfl))
          simp only [List.setIfInBounds_toArray, List.set_cons_zero, List.set_cons_succ]
          refine wpAnyD_takeP (i := 2) (oi := { dst := some 20, op := Op.nilCheck (Operand.tmp 19), type := 0, pos := "heap.go:61", after := #[{ on := 1, ground := Ground.data }], guard := none }) (d := 20) (v := ?_) rfl rfl (by kernel_rfl) (by kernel_rfl) (by kernel_rfl) (fun _ _ _ h => h) (Or.inl ⟨by rfl, ?_⟩) ?_
          rotate_left
          · (intro w' _; go_simp; (try with_reducible rfl))
          simp only [List.setIfInBounds_toArray, List.set_cons_zero, List.set_cons_succ]
          refine wpAnyD_takeP (i := 3) (oi := { dst := some 21, op := Op.fieldAddr 277 (Operand.tmp 20) 0, type := 0, pos := "heap.go:61", after := #[{ on := 2, ground := Ground.data }], guard := none }) (d := 21) (v := ?_) rfl rfl (by kernel_rfl) (by kernel_rfl) (by kernel_rfl) (fun _ _ _ h => h) (Or.inl ⟨by rfl, ?_⟩) ?_
          rotate_left
          · (intro w' _; go_simp; (try with_reducible rfl))
          simp only [List.setIfInBounds_toArray, List.set_cons_zero, List.set_cons_succ]
          refine wpAnyD_takeD (i := 4) (oi := { dst := some 22, op := Op.load 275 (Operand.tmp 21), type := 275, pos := "heap.go:61", after := #[{ on := 3, ground := Ground.data }], guard := none }) (d := 22) (v := ?_) rfl rfl (by kernel_rfl) (by kernel_rfl) (by kernel_rfl) (by kernel_rfl) (fun _ _ _ h => h) (Or.inl ⟨by rfl, ?_⟩) hHeld ?_
          rotate_left
          · (intro w' hSw; (try dsimp only at hSw); go_simp; (try with_reducible rfl))
          simp only [List.setIfInBounds_toArray, List.set_cons_zero, List.set_cons_succ]
          refine wpAnyD_takeD (i := 5) (oi := { dst := some 23, op := Op.call { callee := Callee.builtin Builtin.len, args := #[Operand.tmp 22], argTypes := #[275] }, type := 3, pos := "heap.go:61", after := #[{ on := 4, ground := Ground.data }], guard := none }) (d := 23) (v := ?_) rfl rfl (by kernel_rfl) (by kernel_rfl) (by kernel_rfl) (by kernel_rfl) (fun _ _ _ h => h) (Or.inl ⟨by rfl, ?_⟩) hHeld ?_
          rotate_left
          · (intro w' hSw; (try dsimp only at hSw); go_simp; (try with_reducible rfl))
          simp only [List.setIfInBounds_toArray, List.set_cons_zero, List.set_cons_succ]
          refine wpAnyD_takeP (i := 6) (oi := { dst := some 24, op := Op.binOp BinOp.lss 3 (Operand.tmp 18) (Operand.tmp 23) 3, type := 4, pos := "heap.go:61", after := #[{ on := 0, ground := Ground.data }, { on := 5, ground := Ground.data }], guard := none }) (d := 24) (v := ?_) rfl rfl (by kernel_rfl) (by kernel_rfl) (by kernel_rfl) (fun _ _ _ h => h) (Or.inl ⟨by rfl, ?_⟩) ?_
          rotate_left
          · (intro w' _; go_simp; (try with_reducible rfl))
          simp only [List.setIfInBounds_toArray, List.set_cons_zero, List.set_cons_succ]
          refine wpAnyD_takeP (i := 7) (oi := { dst := some 25, op := Op.move (Operand.tmp 24), type := 4, pos := "heap.go:61", after := #[{ on := 6, ground := Ground.data }], guard := none }) (d := 25) (v := ?_) rfl rfl (by kernel_rfl) (by kernel_rfl) (by kernel_rfl) (fun _ _ _ h => h) (Or.inl ⟨by rfl, ?_⟩) ?_
          rotate_left
          · (intro w' _; go_simp; (try with_reducible rfl))
          simp only [List.setIfInBounds_toArray, List.set_cons_zero, List.set_cons_succ]
          refine wpAnyD_takeD (i := 8) (oi := { dst := some 26, op := Op.move (Operand.tmp 0), type := 258, pos := "heap.go:61", after := #[{ on := 7, ground := Ground.guard }], guard := some (7, true) }) (d := 26) (v := undef) rfl rfl (by kernel_rfl) (by kernel_rfl) (by kernel_rfl) (by kernel_rfl) (fun _ _ _ h => h) (Or.inr ⟨by rfl, rfl⟩) hHeld ?_
          simp only [List.setIfInBounds_toArray, List.set_cons_zero, List.set_cons_succ]
          refine wpAnyD_takeD (i := 9) (oi := { dst := some 27, op := Op.nilCheck (Operand.tmp 26), type := 0, pos := "heap.go:61", after := #[{ on := 8, ground := Ground.data }, { on := 7, ground := Ground.guard }], guard := some (7, true) }) (d := 27) (v := undef) rfl rfl (by kernel_rfl) (by kernel_rfl) (by kernel_rfl) (by kernel_rfl) (fun _ _ _ h => h) (Or.inr ⟨by rfl, rfl⟩) hHeld ?_
          simp only [List.setIfInBounds_toArray, List.set_cons_zero, List.set_cons_succ]
          refine wpAnyD_takeD (i := 10) (oi := { dst := some 28, op := Op.fieldAddr 277 (Operand.tmp 27) 0, type := 0, pos := "heap.go:61", after := #[{ on := 9, ground := Ground.data }, { on := 7, ground := Ground.guard }], guard := some (7, true) }) (d := 28) (v := undef) rfl rfl (by kernel_rfl) (by kernel_rfl) (by kernel_rfl) (by kernel_rfl) (fun _ _ _ h => h) (Or.inr ⟨by rfl, rfl⟩) hHeld ?_
          simp only [List.setIfInBounds_toArray, List.set_cons_zero, List.set_cons_succ]
          refine wpAnyD_takeD (i := 11) (oi := { dst := some 29, op := Op.load 275 (Operand.tmp 28), type := 275, pos := "heap.go:61", after := #[{ on := 10, ground := Ground.data }, { on := 7, ground := Ground.guard }], guard := some (7, true) }) (d := 29) (v := undef) rfl rfl (by kernel_rfl) (by kernel_rfl) (by kernel_rfl) (by kernel_rfl) (fun _ _ _ h => h) (Or.inr ⟨by rfl, rfl⟩) hHeld ?_
          simp only [List.setIfInBounds_toArray, List.set_cons_zero, List.set_cons_succ]
          refine wpAnyD_takeD (i := 12) (oi := { dst := some 30, op := Op.move (Operand.tmp 6), type := 3, pos := "heap.go:61", after := #[{ on := 7, ground := Ground.guard }], guard := some (7, true) }) (d := 30) (v := undef) rfl rfl (by kernel_rfl) (by kernel_rfl) (by kernel_rfl) (by kernel_rfl) (fun _ _ _ h => h) (Or.inr ⟨by rfl, rfl⟩) hHeld ?_
          simp only [List.setIfInBounds_toArray, List.set_cons_zero, List.set_cons_succ]
          refine wpAnyD_takeD (i := 13) (oi := { dst := some 31, op := Op.indexAddr 275 (Operand.tmp 29) (Operand.tmp 30), type := 0, pos := "heap.go:61", after := #[{ on := 11, ground := Ground.data }, { on := 12, ground := Ground.data }, { on := 7, ground := Ground.guard }], guard := some (7, true) }) (d := 31) (v := undef) rfl rfl (by kernel_rfl) (by kernel_rfl) (by kernel_rfl) (by kernel_rfl) (fun _ _ _ h => h) (Or.inr ⟨by rfl, rfl⟩) hHeld ?_
          simp only [List.setIfInBounds_toArray, List.set_cons_zero, List.set_cons_succ]
          refine wpAnyD_takeD (i := 14) (oi := { dst := some 32, op := Op.fieldAddr 282 (Operand.tmp 31) 0, type := 0, pos := "heap.go:61", after := #[{ on := 13, ground := Ground.data }, { on := 7, ground := Ground.guard }], guard := some (7, true) }) (d := 32) (v := undef) rfl rfl (by kernel_rfl) (by kernel_rfl) (by kernel_rfl) (by kernel_rfl) (fun _ _ _ h => h) (Or.inr ⟨by rfl, rfl⟩) hHeld ?_
          simp only [List.setIfInBounds_toArray, List.set_cons_zero, List.set_cons_succ]
          refine wpAnyD_takeD (i := 15) (oi := { dst := some 33, op := Op.load 280 (Operand.tmp 32), type := 280, pos := "heap.go:61", after := #[{ on := 14, ground := Ground.data }, { on := 7, ground := Ground.guard }], guard := some (7, true) }) (d := 33) (v := undef) rfl rfl (by kernel_rfl) (by kernel_rfl) (by kernel_rfl) (by kernel_rfl) (fun _ _ _ h => h) (Or.inr ⟨by rfl, rfl⟩) hHeld ?_
          simp only [List.setIfInBounds_toArray, List.set_cons_zero, List.set_cons_succ]
          refine wpAnyD_takeD (i := 16) (oi := { dst := some 34, op := Op.move (Operand.tmp 0), type := 258, pos := "heap.go:61", after := #[{ on := 7, ground := Ground.guard }], guard := some (7, true) }) (d := 34) (v := undef) rfl rfl (by kernel_rfl) (by kernel_rfl) (by kernel_rfl) (by kernel_rfl) (fun _ _ _ h => h) (Or.inr ⟨by rfl, rfl⟩) hHeld ?_
          simp only [List.setIfInBounds_toArray, List.set_cons_zero, List.set_cons_succ]
          refine wpAnyD_takeD (i := 17) (oi := { dst := some 35, op := Op.nilCheck (Operand.tmp 34), type := 0, pos := "heap.go:61", after := #[{ on := 16, ground := Ground.data }, { on := 7, ground := Ground.guard }], guard := some (7, true) }) (d := 35) (v := undef) rfl rfl (by kernel_rfl) (by kernel_rfl) (by kernel_rfl) (by kernel_rfl) (fun _ _ _ h => h) (Or.inr ⟨by rfl, rfl⟩) hHeld ?_
          simp only [List.setIfInBounds_toArray, List.set_cons_zero, List.set_cons_succ]
          refine wpAnyD_takeD (i := 18) (oi := { dst := some 36, op := Op.fieldAddr 277 (Operand.tmp 35) 0, type := 0, pos := "heap.go:61", after := #[{ on := 17, ground := Ground.data }, { on := 7, ground := Ground.guard }], guard := some (7, true) }) (d := 36) (v := undef) rfl rfl (by kernel_rfl) (by kernel_rfl) (by kernel_rfl) (by kernel_rfl) (fun _ _ _ h => h) (Or.inr ⟨by rfl, rfl⟩) hHeld ?_
          simp only [List.setIfInBounds_toArray, List.set_cons_zero, List.set_cons_succ]
          refine wpAnyD_takeD (i := 19) (oi := { dst := some 37, op := Op.load 275 (Operand.tmp 36), type := 275, pos := "heap.go:61", after := #[{ on := 18, ground := Ground.data }, { on := 7, ground := Ground.guard }], guard := some (7, true) }) (d := 37) (v := undef) rfl rfl (by kernel_rfl) (by kernel_rfl) (by kernel_rfl) (by kernel_rfl) (fun _ _ _ h => h) (Or.inr ⟨by rfl, rfl⟩) hHeld ?_
          simp only [List.setIfInBounds_toArray, List.set_cons_zero, List.set_cons_succ]
          refine wpAnyD_takeD (i := 20) (oi := { dst := some 38, op := Op.move (Operand.tmp 4), type := 3, pos := "heap.go:61", after := #[{ on := 7, ground := Ground.guard }], guard := some (7, true) }) (d := 38) (v := undef) rfl rfl (by kernel_rfl) (by kernel_rfl) (by kernel_rfl) (by kernel_rfl) (fun _ _ _ h => h) (Or.inr ⟨by rfl, rfl⟩) hHeld ?_
          simp only [List.setIfInBounds_toArray, List.set_cons_zero, List.set_cons_succ]
          refine wpAnyD_takeD (i := 21) (oi := { dst := some 39, op := Op.indexAddr 275 (Operand.tmp 37) (Operand.tmp 38), type := 0, pos := "heap.go:61", after := #[{ on := 19, ground := Ground.data }, { on := 20, ground := Ground.data }, { on := 7, ground := Ground.guard }], guard := some (7, true) }) (d := 39) (v := undef) rfl rfl (by kernel_rfl) (by kernel_rfl) (by kernel_rfl) (by kernel_rfl) (fun _ _ _ h => h) (Or.inr ⟨by rfl, rfl⟩) hHeld ?_
          simp only [List.setIfInBounds_toArray, List.set_cons_zero, List.set_cons_succ]
          refine wpAnyD_takeD (i := 22) (oi := { dst := some 40, op := Op.fieldAddr 282 (Operand.tmp 39) 0, type := 0, pos := "heap.go:61", after := #[{ on := 21, ground := Ground.data }, { on := 7, ground := Ground.guard }], guard := some (7, true) }) (d := 40) (v := undef) rfl rfl (by kernel_rfl) (by kernel_rfl) (by kernel_rfl) (by kernel_rfl) (fun _ _ _ h => h) (Or.inr ⟨by rfl, rfl⟩) hHeld ?_
          simp only [List.setIfInBounds_toArray, List.set_cons_zero, List.set_cons_succ]
          refine wpAnyD_takeD (i := 23) (oi := { dst := some 41, op := Op.load 280 (Operand.tmp 40), type := 280, pos := "heap.go:61", after := #[{ on := 22, ground := Ground.data }, { on := 7, ground := Ground.guard }], guard := some (7, true) }) (d := 41) (v := undef) rfl rfl (by kernel_rfl) (by kernel_rfl) (by kernel_rfl) (by kernel_rfl) (fun _ _ _ h => h) (Or.inr ⟨by rfl, rfl⟩) hHeld ?_
          simp only [List.setIfInBounds_toArray, List.set_cons_zero, List.set_cons_succ]
          refine wpAnyD_takeD (i := 24) (oi := { dst := some 42, op := Op.call { callee := Callee.value (Operand.func 196), args := #[Operand.tmp 33, Operand.tmp 41], argTypes := #[280, 280] }, type := 4, pos := "heap.go:61", after := #[{ on := 15, ground := Ground.data }, { on := 23, ground := Ground.data }, { on := 7, ground := Ground.chain }, { on := 7, ground := Ground.guard }], guard := some (7, true) }) (d := 42) (v := undef) rfl rfl (by kernel_rfl) (by kernel_rfl) (by kernel_rfl) (by kernel_rfl) (fun _ _ _ h => h) (Or.inr ⟨by rfl, rfl⟩) hHeld ?_
          simp only [List.setIfInBounds_toArray, List.set_cons_zero, List.set_cons_succ]
          refine wpAnyD_takeP (i := 25) (oi := { dst := some 43, op := Op.pick (Operand.tmp 25) (Operand.tmp 42) (Operand.const (Value.bool false)), type := 4, pos := "heap.go:61", after := #[{ on := 7, ground := Ground.data }, { on := 24, ground := Ground.data }], guard := none }) (d := 43) (v := ?_) rfl rfl (by kernel_rfl) (by kernel_rfl) (by kernel_rfl) (fun _ _ _ h => h) (Or.inl ⟨by rfl, ?_⟩) ?_
          rotate_left
          · (intro w' _; go_simp; (try with_reducible rfl))
          simp only [List.setIfInBounds_toArray, List.set_cons_zero, List.set_cons_succ]
          refine wpAnyD_done (by kernel_rfl) ?_ _
          have HW3 := Lib.hid (HW2.out.below HBB.out (Nat.le_refl _))
          have HKP3 := Lib.hid (HKP2.out.trans (Keep.of_below (F := fun g' => A = some ⟨g', 0, none⟩) HBB.out) (fun x hx => .inl (by simpa using hx)))
          clear hHeld hc0 HW2 HKP2 HBB
          go_wp2_with fail
          have w9 : (d : Int) = 2 * (k : Int) + 2 := by have := HD.out; omega
          (try rw [w9])
          clear w9
          go_roundg (gk - 1)
          case measure => omega
          case rel => exact ⟨2, s, by omega, by first | rfl | simp, by first | rfl | (have := HD.out; exact congrArg (Value.int .i64) (by omega)), hs, fun h => by omega, fun h => by omega, fun _ => HE.out.symm.trans (by rw [HCJ.out, ← HD.out]; rfl), HW3.out, by first | exact HKP3.out | exact HKP3.out.mono (fun x hx => by simpa using hx)⟩
      · have HS2 := Lib.hid (HC2.out rfl)
        by_cases hsk : s = k
        · subst hsk
          go_wp2_with fail
          (try simp only [Exit.inBlock, Exit.then])
          refine bodyPost_ret (results_none rfl _ _ _) rfl ?_
          refine ⟨rfl, ?_, HKP2.out⟩
          rw [← HUP.out, downT, dif_pos HS2.out.symm]
          exact HW2.out
        · have HNE := Lib.hid hsk
          have hsk' : ¬ (s : Int) = (k : Int) := by omega
          have hsm : s < m.length := by
            rcases hs with h | ⟨h1, h2⟩
            · exact h
            · omega
          have hkm : k < m.length := by omega
          clear hsk
          go_wp2_with fail
          refine (swap_any HW2.out k s hkm hsm hmlen).mono ?_
          rintro e w4 ⟨rfl, h4, hk4⟩
          have H4 := Lib.hid h4
          have HK4 := Lib.hid (HKP2.out.trans hk4 (fun x hx => .inl hx))
          clear h4 hk4
          have hgt : k < s := by
            have := least_or m k
            rw [← HS2.out] at this
            have := HNE.out
            omega
          go_wp2_with fail
          go_roundg (go - 1)
          case measure => have := HGO.out; omega
          case rel => exact ⟨s, _, by have := HGO.out; rw [swap_len]; omega, rfl, .inl (by rw [swap_len]; exact hsm), by rw [swap_len]; exact HML.out, by rw [← HUP.out]; conv => { rhs; rw [downT] }; rw [dif_neg (fun h => HNE.out (HS2.out.trans h)), ← HS2.out], H4.out, HK4.out⟩
end Go.Proofs.YtbppaiejpgdbiaaGreat.hw

/- Results that lie in memory, appends of one element and of a whole slice: small laws that several layers share. -/
namespace Go.Proofs.YtbppaiejpgdbiaaGreat
open Go.RowKit Go.Maps Go.WideMaps
set_option maxRecDepth 100000
set_option linter.unusedVariables false
set_option linter.unusedSimpArgs false

/-- append of one element that was just built; whether the row is new is told -/
theorem app_new {P : Program} {w : World} {ops : Array Oper} {rest : List Oper} {o : Oper} {a : Act} {Q : Exit → Act → World → Prop} (base : Nat) (t e : TypeId) (z : Value) (size bytes : Nat) (news : List Value) (c : Nat) (s x : Operand)
    (hgd : o.guard = none) (ho : o.op = .call { callee := .builtin .append, args := #[s, x], argTypes := #[t, t] })
    (ht : P.underlying t = some (.slice e)) (hinfo : (P.info? e).map (fun i => (i.zero, i.size, i.bytes)) = some (some z, size, bytes)) (hzs : z.cells.size = size) (hsz : 0 < size)
    (v : Value) (n : Nat) (xs : List Value) (hs : a.eval s = v) (hx : a.eval x = .slice (some ⟨w.heap.size, 0, none⟩) 1 c) (hl : news.length = size) (h1 : ∀ u ∈ news, u.oneCell' = true)
    (hown : w.ownsRow base e size v n xs) (hbytes : (n + 1) * bytes ≤ 140737488355328) (h63 : n < 9000000000000000000) (hbase : base ≤ w.heap.size)
    (h : ∀ v' w', w'.ownsRow base e size v' (n + 1) (xs ++ news) → w.grownBy w' v.ownBlock → (v'.ownBlock = v.ownBlock ∨ ∃ g, v'.ownBlock = some g ∧ w.heap.size ≤ g) → wpList P ops Q rest (a.put o.dst v') w') : wpList P ops Q (o :: rest) a (w.alloc (.cells news.toArray e)) := by
  refine wpList_plain hgd fun K hK => ?_
  exact wp_app_one base t e z size bytes news c s x ho ht hinfo hzs hsz v n xs hs _ rfl hx hl h1 hown hbytes h63 hbase (fun v' w' r1 r2 r3 => hK _ _ (h v' w' r1 r2 r3))

theorem results_cell1 {fn : Func} {p : Tmp} {ty : TypeId} (h : fn.results = #[.cell p ty]) (tmps : Array Value) (P : Program) (w : World) :
    (results fn tmps).run P w = ((asAddr (tmps.getD p undef)).run P w).andThen fun a w₁ => (loadVar ty a).run P w₁ := by
  simp only [results, h]
  simp [Sem.run_bind, Result.andThen]
/-- one result, a struct in memory -/
theorem ret_cell1 {P : Program} {fn : Func} {R : Ending → World → Prop} {tmps : Array Value} {w : World} {r : Nat} {p : Tmp} {ty : TypeId} {v : Value}
    (h : fn.results = #[.cell p ty]) (hp : tmps.getD p undef = .pointer (some ⟨r, 0, none⟩))
    (hl : (loadVar ty ⟨r, 0, none⟩).run P w = .ok v w) (hR : R (.returned v) w) : bodyPost P fn R .ret ⟨tmps, []⟩ w := by
  refine bodyPost_ret (v := v) ?_ rfl hR
  rw [results_cell1 h, hp]
  simp [asAddr, hl, Result.andThen]
end Go.Proofs.YtbppaiejpgdbiaaGreat

/- Layer 3 (heap): heaps of waits: New, Len, Peek. -/
namespace Go.Proofs.YtbppaiejpgdbiaaGreat.hw
open Go.RowKit Go.Maps Go.WideMaps
set_option maxRecDepth 100000
set_option linter.unusedVariables false
set_option linter.unusedSimpArgs false

theorem results_cell_tmp3 {fn : Func} {p u v x : Tmp} {ty : TypeId} (h : fn.results = #[.cell p ty, .tmp u, .tmp v, .tmp x]) (tmps : Array Value) (P : Program) (w : World) :
    (results fn tmps).run P w = ((asAddr (tmps.getD p undef)).run P w).andThen fun a w₁ => ((loadVar ty a).run P w₁).andThen fun y w₂ => .ok (.tuple #[y, tmps.getD u undef, tmps.getD v undef, tmps.getD x undef]) w₂ := by
  simp only [results, h]
  simp [Sem.run_bind, Result.andThen]
/-- four results, a struct in memory and three values -/
theorem ret_cell_tmp3 {P : Program} {fn : Func} {R : Ending → World → Prop} {tmps : Array Value} {w : World} {r : Nat} {p u u2 u3 : Tmp} {ty : TypeId} {v x y z : Value}
    (h : fn.results = #[.cell p ty, .tmp u, .tmp u2, .tmp u3]) (hp : tmps.getD p undef = .pointer (some ⟨r, 0, none⟩)) (hu : tmps.getD u undef = x) (hu2 : tmps.getD u2 undef = y) (hu3 : tmps.getD u3 undef = z)
    (hl : (loadVar ty ⟨r, 0, none⟩).run P w = .ok v w) (hR : R (.returned (.tuple #[v, x, y, z])) w) : bodyPost P fn R .ret ⟨tmps, []⟩ w := by
  refine bodyPost_ret (v := .tuple #[v, x, y, z]) ?_ rfl hR
  rw [results_cell_tmp3 h, hp, hu, hu2, hu3]
  simp [asAddr, hl, Result.andThen]
theorem load_wt {w : World} {r : Nat} {x y z : Int} (n0 : w.cell? ⟨r, 0, none⟩ = some (.int .i64 x)) (n1 : w.cell? ⟨r, 1, none⟩ = some (.int .i64 y)) (n2 : w.cell? ⟨r, 2, none⟩ = some (.int .i64 z)) : (loadVar 261 ⟨r, 0, none⟩).run Tryz.prog w = .ok (.agg #[.int .i64 x, .int .i64 y, .int .i64 z]) w := by
  simp [go_sem, n0, n1, n2]
/-- a wait as a value -/
def wtV (x : Wt) : Value := .agg #[.int .i64 x.i, .int .i64 x.a, .int .i64 x.b]

theorem new_any (w : World) : Calls Tryz.prog 178 #[] w fun e w' => e = .returned (.pointer (some ⟨w.heap.size, 0, none⟩)) ∧ HeapWs w' w.heap.size w.heap.size [] 0 none 0 ∧ Below w.heap.size w w' := by
  have hb := (Below.refl w.heap.size w).alloc (Nat.le_refl _) (.cells #[.slice none 0 0, .int .i64 0] 277)
  have HS := Lib.hid (show HeapWs (w.alloc (.cells #[.slice none 0 0, .int .i64 0] 277)) w.heap.size w.heap.size [] 0 none 0 from ⟨blk_new w _, by simpa using own_nil _ _ _ _, Nat.le_refl _⟩)
  have HB := Lib.hid hb
  clear hb
  go_enter Tryz.func178, Tryz.ntmps178
  go_wp2_with fail
  go_ret
  exact ⟨rfl, HS.out, HB.out⟩

section
variable {w : World} {base hb : Nat} {l : List (Th Wt)} {turn : Int} {A : Option Addr} {c : Nat}
theorem len_h (h : HeapWs w base hb l turn A c) : Calls Tryz.prog 195 #[.pointer (some ⟨hb, 0, none⟩)] w fun e w' => e = .returned (.int .i64 (l.length : Nat)) ∧ w' = w := by
  have h0 := blk_cell h.blk 0
  simp only [List.getElem?_toArray, List.getElem?_cons_zero, List.getElem?_cons_succ] at h0
  clear h
  go_enter Tryz.func195, Tryz.ntmps195
  go_wp2_with fail
  go_ret
  exact ⟨rfl, rfl⟩
theorem peek_none (h : HeapWs w base hb [] turn A c) : Calls Tryz.prog 191 #[.pointer (some ⟨hb, 0, none⟩)] w fun e w' => e = .returned (.tuple #[wtV ⟨0, 0, 0⟩, .int .i64 0, .int .i64 0, .bool false]) ∧ Below w.heap.size w w' := by
  have HB1 := Lib.hid ((Below.refl w.heap.size w).alloc (Nat.le_refl _) (.cells #[.int .i64 0, .int .i64 0, .int .i64 0] 261))
  have hn := blk_new w (.cells #[.int .i64 0, .int .i64 0, .int .i64 0] 261)
  have HLEN := Lib.hid (len_h (h.below HB1.out (Nat.le_refl _)))
  have hn2 := blk_new (w.alloc (.cells #[.int .i64 0, .int .i64 0, .int .i64 0] 261)) (.cells #[.int .i64 0, .int .i64 0, .int .i64 0] 261)
  have HB2 := Lib.hid (HB1.out.alloc (by simp) (.cells #[.int .i64 0, .int .i64 0, .int .i64 0] 261))
  have HM : Hid (∀ i v, (#[.int .i64 0, .int .i64 0, .int .i64 0] : Array Value)[i]? = some v → ((w.alloc (.cells #[.int .i64 0, .int .i64 0, .int .i64 0] 261)).alloc (.cells #[.int .i64 0, .int .i64 0, .int .i64 0] 261)).cell? ⟨w.heap.size, i, none⟩ = some v) := Lib.hid (fun i v e => by rw [blk_cell (blk_below ((Below.refl _ (w.alloc (.cells #[.int .i64 0, .int .i64 0, .int .i64 0] 261))).alloc (Nat.le_refl _) (.cells #[.int .i64 0, .int .i64 0, .int .i64 0] 261)) (by simp) hn) i]; exact e)
  clear h
  go_enter Tryz.func191, Tryz.ntmps191
  go_wp2_with fail
  refine HLEN.out.mono ?_
  rintro e w' ⟨rfl, rfl⟩
  clear HLEN
  go_wp2_with fail
  refine ret_cell_tmp3 rfl rfl rfl rfl rfl (load_wt (HM.out 0 _ rfl) (HM.out 1 _ rfl) (HM.out 2 _ rfl)) ⟨rfl, HB2.out⟩
set_option maxHeartbeats 4000000 in
theorem peek_h (h : HeapWs w base hb l turn A c) (hl : 0 < l.length) : Calls Tryz.prog 191 #[.pointer (some ⟨hb, 0, none⟩)] w fun e w' => e = .returned (.tuple #[wtV l[0].x, .int .i64 l[0].r, .int .i64 l[0].p, .bool true]) ∧ Below w.heap.size w w' := by
  have HB1 := Lib.hid ((Below.refl w.heap.size w).alloc (Nat.le_refl _) (.cells #[.int .i64 0, .int .i64 0, .int .i64 0] 261))
  have hn := blk_new w (.cells #[.int .i64 0, .int .i64 0, .int .i64 0] 261)
  have h' := h.below HB1.out (Nat.le_refl _)
  obtain ⟨g, rfl, a0, a1, a2, a3, a4, a5⟩ := h'.at 0 hl
  have HLEN := Lib.hid (len_h h')
  have h0 := blk_cell h'.blk 0
  simp only [List.getElem?_toArray, List.getElem?_cons_zero, List.getElem?_cons_succ] at h0
  generalize l[0] = x at *
  obtain ⟨xr, xp, xt, ⟨xx, xy, xz⟩⟩ := x
  simp only [Nat.zero_mul, Nat.zero_add] at a0 a1 a2 a3 a4 a5
  have hs1 : (w.alloc (.cells #[.int .i64 0, .int .i64 0, .int .i64 0] 261)).heap.size = w.heap.size + 1 := by simp
  generalize hW1 : w.alloc (.cells #[.int .i64 0, .int .i64 0, .int .i64 0] 261) = W1 at *
  have HB2 := Lib.hid (HB1.out.alloc (by rw [hs1]; exact Nat.le_succ _) (.cells #[.int .i64 xr, .int .i64 xp, .int .i64 xt, .int .i64 xx, .int .i64 xy, .int .i64 xz] 282))
  have HR := Lib.hid (blk_below ((Below.refl W1.heap.size W1).alloc (Nat.le_refl _) (.cells #[.int .i64 xr, .int .i64 xp, .int .i64 xt, .int .i64 xx, .int .i64 xy, .int .i64 xz] 282)) (by rw [hs1]; exact Nat.lt_succ_self _) hn)
  have hn2 := blk_new W1 (.cells #[.int .i64 xr, .int .i64 xp, .int .i64 xt, .int .i64 xx, .int .i64 xy, .int .i64 xz] 282)
  have n0 := blk_cell hn2 0
  have n1 := blk_cell hn2 1
  have n3 := blk_cell hn2 3
  have n4 := blk_cell hn2 4
  have n5 := blk_cell hn2 5
  simp only [List.getElem?_toArray, List.getElem?_cons_zero, List.getElem?_cons_succ] at n0 n1 n3 n4 n5
  have hl' : ¬ (l.length : Int) = 0 := by omega
  have hl2 : (0 : Int) < (l.length : Int) := by omega
  have HS1 := Lib.hid hs1
  replace hW1 := Lib.hid hW1
  have HN := Lib.hid hn2
  clear h h' hn hn2 hs1
  go_enter Tryz.func191, Tryz.ntmps191
  go_wp2_with fail
  rw [hW1.out]
  refine HLEN.out.mono ?_
  rintro e W1 ⟨rfl, rfl⟩
  clear HLEN
  go_upto_region 5 with fail
  replace HB2 := Lib.hid HB2.out.drew
  refine wp_region_D (Ds := []) (S := fun V => V.cell? ⟨W1.heap.size, 0, none⟩ = some (.int .i64 xr) ∧ V.cell? ⟨W1.heap.size, 1, none⟩ = some (.int .i64 xp) ∧ V.cell? ⟨W1.heap.size, 3, none⟩ = some (.int .i64 xx) ∧ V.cell? ⟨W1.heap.size, 4, none⟩ = some (.int .i64 xy) ∧ V.cell? ⟨W1.heap.size, 5, none⟩ = some (.int .i64 xz)) (by kernel_rfl) (by exact ⟨n0, n1, n3, n4, n5⟩) (fun hHeld => ?_)
  (have HND : Hid ((W1.alloc (.cells #[.int .i64 xr, .int .i64 xp, .int .i64 xt, .int .i64 xx, .int .i64 xy, .int .i64 xz] 282)).drew.heap[W1.heap.size]? = some (.cells #[.int .i64 xr, .int .i64 xp, .int .i64 xt, .int .i64 xx, .int .i64 xy, .int .i64 xz] 282)) := Lib.hid HN.out); (have HRD : Hid ((W1.alloc (.cells #[.int .i64 xr, .int .i64 xp, .int .i64 xt, .int .i64 xx, .int .i64 xy, .int .i64 xz] 282)).drew.heap[w.heap.size]? = some (.cells #[.int .i64 0, .int .i64 0, .int .i64 0] 261)) := Lib.hid HR.out); generalize (W1.alloc (.cells #[.int .i64 xr, .int .i64 xp, .int .i64 xt, .int .i64 xx, .int .i64 xy, .int .i64 xz] 282)).drew = W2 at *
  refine wpAnyD_takeP (i := 0) (oi := { dst := some 18, op := Op.fieldAddr 282 (Operand.tmp 7) 1, type := 0, pos := "heap.go:90", after := #[], guard := none }) (d := 18) (v := ?_) rfl rfl (by kernel_rfl) (by kernel_rfl) (by kernel_rfl) (fun _ _ _ h => h) (Or.inl ⟨by rfl, ?_⟩) ?_
  rotate_left
  · (intro w' _; go_simp; (try with_reducible rfl))
  simp only [List.setIfInBounds_toArray, List.set_cons_zero, List.set_cons_succ]
  refine wpAnyD_takeP (i := 2) (oi := { dst := some 20, op := Op.fieldAddr 282 (Operand.tmp 7) 0, type := 0, pos := "heap.go:90", after := #[{ on := 8, ground := Ground.gcOnly Departure.lateStores }], guard := none }) (d := 20) (v := ?_) rfl rfl (by kernel_rfl) (by kernel_rfl) (by kernel_rfl) (fun _ _ _ h => h) (Or.inl ⟨by rfl, ?_⟩) ?_
  rotate_left
  · (intro w' _; go_simp; (try with_reducible rfl))
  simp only [List.setIfInBounds_toArray, List.set_cons_zero, List.set_cons_succ]
  refine wpAnyD_takeP (i := 3) (oi := { dst := some 21, op := Op.fieldAddr 280 (Operand.tmp 20) 0, type := 0, pos := "heap.go:90", after := #[{ on := 2, ground := Ground.data }, { on := 8, ground := Ground.gcOnly Departure.lateStores }], guard := none }) (d := 21) (v := ?_) rfl rfl (by kernel_rfl) (by kernel_rfl) (by kernel_rfl) (fun _ _ _ h => h) (Or.inl ⟨by rfl, ?_⟩) ?_
  rotate_left
  · (intro w' _; go_simp; (try with_reducible rfl))
  simp only [List.setIfInBounds_toArray, List.set_cons_zero, List.set_cons_succ]
  refine wpAnyD_takeP (i := 5) (oi := { dst := some 23, op := Op.fieldAddr 282 (Operand.tmp 7) 0, type := 0, pos := "heap.go:90", after := #[{ on := 9, ground := Ground.gcOnly Departure.lateStores }], guard := none }) (d := 23) (v := ?_) rfl rfl (by kernel_rfl) (by kernel_rfl) (by kernel_rfl) (fun _ _ _ h => h) (Or.inl ⟨by rfl, ?_⟩) ?_
  rotate_left
  · (intro w' _; go_simp; (try with_reducible rfl))
  simp only [List.setIfInBounds_toArray, List.set_cons_zero, List.set_cons_succ]
  refine wpAnyD_takeP (i := 6) (oi := { dst := some 24, op := Op.fieldAddr 280 (Operand.tmp 23) 1, type := 0, pos := "heap.go:90", after := #[{ on := 5, ground := Ground.data }, { on := 9, ground := Ground.gcOnly Departure.lateStores }], guard := none }) (d := 24) (v := ?_) rfl rfl (by kernel_rfl) (by kernel_rfl) (by kernel_rfl) (fun _ _ _ h => h) (Or.inl ⟨by rfl, ?_⟩) ?_
  rotate_left
  · (intro w' _; go_simp; (try with_reducible rfl))
  simp only [List.setIfInBounds_toArray, List.set_cons_zero, List.set_cons_succ]
  refine wpAnyD_takeD (i := 1) (oi := { dst := some 19, op := Op.load 261 (Operand.tmp 18), type := 261, pos := "heap.go:90", after := #[{ on := 0, ground := Ground.data }], guard := none }) (d := 19) (v := ?_) rfl rfl (by kernel_rfl) (by kernel_rfl) (by kernel_rfl) (by kernel_rfl) (fun _ _ _ h => h) (Or.inl ⟨by rfl, ?_⟩) hHeld ?_
  rotate_left
  · (intro w' hSw; (try dsimp only at hSw); go_simp; (try with_reducible rfl))
  simp only [List.setIfInBounds_toArray, List.set_cons_zero, List.set_cons_succ]
  refine wpAnyD_takeD (i := 4) (oi := { dst := some 22, op := Op.load 3 (Operand.tmp 21), type := 3, pos := "heap.go:90", after := #[{ on := 3, ground := Ground.data }, { on := 8, ground := Ground.gcOnly Departure.lateStores }], guard := none }) (d := 22) (v := ?_) rfl rfl (by kernel_rfl) (by kernel_rfl) (by kernel_rfl) (by kernel_rfl) (fun _ _ _ h => h) (Or.inl ⟨by rfl, ?_⟩) hHeld ?_
  rotate_left
  · (intro w' hSw; (try dsimp only at hSw); go_simp; (try with_reducible rfl))
  simp only [List.setIfInBounds_toArray, List.set_cons_zero, List.set_cons_succ]
  refine wpAnyD_takeD (i := 7) (oi := { dst := some 25, op := Op.load 3 (Operand.tmp 24), type := 3, pos := "heap.go:90", after := #[{ on := 6, ground := Ground.data }, { on := 9, ground := Ground.gcOnly Departure.lateStores }], guard := none }) (d := 25) (v := ?_) rfl rfl (by kernel_rfl) (by kernel_rfl) (by kernel_rfl) (by kernel_rfl) (fun _ _ _ h => h) (Or.inl ⟨by rfl, ?_⟩) hHeld ?_
  rotate_left
  · (intro w' hSw; (try dsimp only at hSw); go_simp; (try with_reducible rfl))
  simp only [List.setIfInBounds_toArray, List.set_cons_zero, List.set_cons_succ]
  refine wpAnyD_one (i := 8) (o := { dst := none, op := Op.store 261 (Operand.tmp 2) (Operand.tmp 19), type := 0, pos := "heap.go:90", after := #[{ on := 1, ground := Ground.data }, { on := 0, ground := Ground.phase }, { on := 1, ground := Ground.phase }, { on := 2, ground := Ground.textOnly Departure.lateStores }, { on := 3, ground := Ground.textOnly Departure.lateStores }, { on := 4, ground := Ground.textOnly Departure.lateStores }, { on := 5, ground := Ground.textOnly Departure.lateStores }, { on := 6, ground := Ground.textOnly Departure.lateStores }, { on := 7, ground := Ground.textOnly Departure.lateStores }], guard := none }) (by kernel_rfl) rfl (by rfl) (fun K hK => ?_)
  have z0 := blk_froz HRD.out 0; have z1 := blk_froz HRD.out 1; have z2 := blk_froz HRD.out 2; have c0 := blk_cell HRD.out 0; have c1 := blk_cell HRD.out 1; have c2 := blk_cell HRD.out 2; simp only [List.getElem?_toArray, List.getElem?_cons_zero, List.getElem?_cons_succ] at c0 c1 c2; go_simp; clear z0 z1 z2 c0 c1 c2; have HK : Hid (Keep (fun x => x = w.heap.size) W2 (((W2.setCell ⟨w.heap.size, 0, none⟩ (.int .i64 xx)).setCell ⟨w.heap.size, 1, none⟩ (.int .i64 xy)).setCell ⟨w.heap.size, 2, none⟩ (.int .i64 xz))) := Lib.hid ((((Keep.refl (fun x => x = w.heap.size) W2).setCell (p := ⟨w.heap.size, 0, none⟩) (.inl rfl) _).setCell (p := ⟨w.heap.size, 1, none⟩) (.inl rfl) _).setCell (p := ⟨w.heap.size, 2, none⟩) (.inl rfl) _); have HB3 : Hid (Below w.heap.size w (((W2.setCell ⟨w.heap.size, 0, none⟩ (.int .i64 xx)).setCell ⟨w.heap.size, 1, none⟩ (.int .i64 xy)).setCell ⟨w.heap.size, 2, none⟩ (.int .i64 xz))) := Lib.hid (((HB2.out.setCell (p := ⟨w.heap.size, 0, none⟩) (Nat.le_refl _) _).setCell (p := ⟨w.heap.size, 1, none⟩) (Nat.le_refl _) _).setCell (p := ⟨w.heap.size, 2, none⟩) (Nat.le_refl _) _); have HR3 : Hid ((((W2.setCell ⟨w.heap.size, 0, none⟩ (.int .i64 xx)).setCell ⟨w.heap.size, 1, none⟩ (.int .i64 xy)).setCell ⟨w.heap.size, 2, none⟩ (.int .i64 xz)).heap[w.heap.size]? = some (.cells #[.int .i64 xx, .int .i64 xy, .int .i64 xz] 261)) := Lib.hid (by simpa using blk_set (blk_set (blk_set HRD.out 0 (.int .i64 xx)) 1 (.int .i64 xy)) 2 (.int .i64 xz)); have HN3 := Lib.hid (HK.out.blk HND.out (by have := HS1.out; omega)); refine gen_set6 rfl (fun W' hW' => ?_); rw [← hW'] at HB3 HR3 HN3; clear hW' HK; have h : W'.cell? ⟨W1.heap.size, 0, none⟩ = some (.int .i64 xr) ∧ W'.cell? ⟨W1.heap.size, 1, none⟩ = some (.int .i64 xp) ∧ W'.cell? ⟨W1.heap.size, 3, none⟩ = some (.int .i64 xx) ∧ W'.cell? ⟨W1.heap.size, 4, none⟩ = some (.int .i64 xy) ∧ W'.cell? ⟨W1.heap.size, 5, none⟩ = some (.int .i64 xz) := ⟨blk_cell HN3.out 0, blk_cell HN3.out 1, blk_cell HN3.out 3, blk_cell HN3.out 4, blk_cell HN3.out 5⟩
  refine hK.out _ _ h (fun hHeld => ?_)
  clear hK K
  try simp only [Act.put, List.setIfInBounds_toArray, List.set_cons_zero, List.set_cons_succ]
  refine wpAnyD_takeP (i := 9) (oi := { dst := some 3, op := Op.assign (Operand.tmp 22), type := 3, pos := "heap.go:90", after := #[{ on := 4, ground := Ground.data }, { on := 8, ground := Ground.chain }, { on := 0, ground := Ground.phase }, { on := 1, ground := Ground.phase }, { on := 2, ground := Ground.phase }, { on := 3, ground := Ground.phase }, { on := 4, ground := Ground.phase }, { on := 5, ground := Ground.textOnly Departure.lateStores }, { on := 6, ground := Ground.textOnly Departure.lateStores }, { on := 7, ground := Ground.textOnly Departure.lateStores }, { on := 8, ground := Ground.phase }], guard := none }) (d := 3) (v := ?_) rfl rfl (by kernel_rfl) (by kernel_rfl) (by kernel_rfl) (fun _ _ _ h => h) (Or.inl ⟨by rfl, ?_⟩) ?_
  rotate_left
  · (intro w' _; go_simp; (try with_reducible rfl))
  simp only [List.setIfInBounds_toArray, List.set_cons_zero, List.set_cons_succ]
  refine wpAnyD_takeP (i := 10) (oi := { dst := some 4, op := Op.assign (Operand.tmp 25), type := 3, pos := "heap.go:90", after := #[{ on := 7, ground := Ground.data }, { on := 9, ground := Ground.chain }, { on := 0, ground := Ground.phase }, { on := 1, ground := Ground.phase }, { on := 2, ground := Ground.phase }, { on := 3, ground := Ground.phase }, { on := 4, ground := Ground.phase }, { on := 5, ground := Ground.phase }, { on := 6, ground := Ground.phase }, { on := 7, ground := Ground.phase }, { on := 8, ground := Ground.phase }, { on := 9, ground := Ground.phase }], guard := none }) (d := 4) (v := ?_) rfl rfl (by kernel_rfl) (by kernel_rfl) (by kernel_rfl) (fun _ _ _ h => h) (Or.inl ⟨by rfl, ?_⟩) ?_
  rotate_left
  · (intro w' _; go_simp; (try with_reducible rfl))
  simp only [List.setIfInBounds_toArray, List.set_cons_zero, List.set_cons_succ]
  refine wpAnyD_takeP (i := 11) (oi := { dst := some 5, op := Op.assign (Operand.const (Value.bool true)), type := 4, pos := "heap.go:90", after := #[{ on := 10, ground := Ground.chain }, { on := 0, ground := Ground.phase }, { on := 1, ground := Ground.phase }, { on := 2, ground := Ground.phase }, { on := 3, ground := Ground.phase }, { on := 4, ground := Ground.phase }, { on := 5, ground := Ground.phase }, { on := 6, ground := Ground.phase }, { on := 7, ground := Ground.phase }, { on := 8, ground := Ground.phase }, { on := 9, ground := Ground.phase }, { on := 10, ground := Ground.phase }], guard := none }) (d := 5) (v := ?_) rfl rfl (by kernel_rfl) (by kernel_rfl) (by kernel_rfl) (fun _ _ _ h => h) (Or.inl ⟨by rfl, ?_⟩) ?_
  rotate_left
  · (intro w' _; go_simp; (try with_reducible rfl))
  simp only [List.setIfInBounds_toArray, List.set_cons_zero, List.set_cons_succ]
  refine wpAnyD_done (by kernel_rfl) ?_ _
  go_wp2_with fail
  refine ret_cell_tmp3 rfl rfl rfl rfl rfl (load_wt (blk_cell HR3.out 0) (blk_cell HR3.out 1) (blk_cell HR3.out 2)) ⟨rfl, ?_⟩
  exact HB3.out
end
end Go.Proofs.YtbppaiejpgdbiaaGreat.hw

/- Layer 3 (heap): heaps of waits: Push, Pop. -/
namespace Go.Proofs.YtbppaiejpgdbiaaGreat.hw
open Go.RowKit Go.Maps Go.WideMaps
set_option maxRecDepth 100000
set_option linter.unusedVariables false
set_option linter.unusedSimpArgs false

/-- a heap's own memory -/
def heapF (hb : Nat) (A : Option Addr) (g : Nat) : Prop := g = hb ∨ A = some ⟨g, 0, none⟩
/-- where the row lies behind a push -/
def NewRow (w : World) (A A' : Option Addr) : Prop := A' = A ∨ ∃ g, A' = some ⟨g, 0, none⟩ ∧ w.heap.size ≤ g
theorem own_addr {w : World} {base n c : Nat} {e : TypeId} {size : Nat} {A : Option Addr} {xs : List Value} (h : w.ownsRow base e size (.slice A n c) n xs) : ∀ g, (Value.slice A n c).ownBlock = some g → A = some ⟨g, 0, none⟩ := by
  intro g hg
  rcases h.2 with ⟨e1, _⟩ | ⟨g', cap, cur, e1, _⟩
  · injection e1 with e1; subst e1; simp [Value.ownBlock] at hg
  · injection e1 with e1; subst e1; simp [Value.ownBlock] at hg; subst hg; rfl
theorem addr_own {A : Option Addr} {n c g : Nat} (h : A = some ⟨g, 0, none⟩) : (Value.slice A n c).ownBlock = some g := by subst h; rfl
theorem HeapWs.base {w : World} {base hb : Nat} {l : List (Th Wt)} {turn : Int} {A : Option Addr} {c : Nat} (h : HeapWs w base hb l turn A c) : ∀ g, heapF hb A g → base ≤ g := by
  intro g hg
  rcases hg with rfl | hg
  · exact h.le
  · exact own_base h.row g (addr_own hg)
theorem HeapWs.keep {w w' : World} {base hb : Nat} {l : List (Th Wt)} {turn : Int} {A : Option Addr} {c : Nat} {F : Nat → Prop} (h : HeapWs w base hb l turn A c) (k : Keep F w w') (hF : ∀ g, heapF hb A g → ¬ F g) : HeapWs w' base hb l turn A c :=
  ⟨k.blk h.blk (hF _ (.inl rfl)), own_keep h.row k (fun g hg => hF g (.inr (own_addr h.row g hg))), h.le⟩

theorem own_lt {w : World} {base n : Nat} {e : TypeId} {size : Nat} {v : Value} {xs : List Value} (h : w.ownsRow base e size v n xs) : ∀ g, v.ownBlock = some g → g < w.heap.size := by
  intro g hg
  rcases h.2 with ⟨rfl, _⟩ | ⟨g', cap, cur, rfl, _, hg', _⟩
  · simp [Value.ownBlock] at hg
  · simp only [Value.ownBlock, Option.some.injEq] at hg
    subst hg
    exact blk_lt hg'

set_option maxHeartbeats 4000000 in
theorem push_any {w : World} {base hb : Nat} {l : List (Th Wt)} {turn : Int} {A : Option Addr} {c : Nat} (h : HeapWs w base hb l turn A c) (r p : Int) (x : Wt) (hlen : l.length < 1000000000) (ht0 : 0 ≤ turn) (ht1 : turn < 1000000000000000000) (hbase : base ≤ w.heap.size) :
    Calls Tryz.prog 190 #[.pointer (some ⟨hb, 0, none⟩), .int .i64 r, .int .i64 p, wtV x] w fun e w' => e = .returned (.tuple #[]) ∧ (∃ A' c', HeapWs w' base hb (pushT l ⟨r, p, turn, x⟩) (turn + 1) A' c' ∧ NewRow w A A') ∧ Keep (heapF hb A) w w' := by
  obtain ⟨xi, xa, xb⟩ := x
  have hbw := (Below.refl w.heap.size w).alloc (Nat.le_refl _) (.cells #[.int .i64 xi, .int .i64 xa, .int .i64 xb] 261)
  have hh := h.below hbw (Nat.le_refl _)
  have h0 := blk_cell hh.blk 0
  have h1 := blk_cell hh.blk 1
  have hn := blk_new w (.cells #[.int .i64 xi, .int .i64 xa, .int .i64 xb] 261)
  have n0 := blk_cell hn 0
  have n1 := blk_cell hn 1
  have n2 := blk_cell hn 2
  simp only [List.getElem?_toArray, List.getElem?_cons_zero, List.getElem?_cons_succ] at h0 h1 n0 n1 n2
  have HH := Lib.hid hh
  have HBW := Lib.hid hbw
  have HNB : Hid ((w.alloc (.cells #[.int .i64 xi, .int .i64 xa, .int .i64 xb] 261)).drew.heap[w.heap.size]? = some (.cells #[.int .i64 xi, .int .i64 xa, .int .i64 xb] 261)) := Lib.hid hn
  have HX := Lib.hid (own_lt h.row)
  have HBASE := Lib.hid hbase
  clear hh hbw hn
  have wt : IntKind.i64.wrap (turn + 1) = turn + 1 := IntWalk.i64_in _ (by omega)
  clear h hbase
  unfold wtV
  go_enter Tryz.func190, Tryz.ntmps190
  go_wp2_with fail
  have HD := Lib.hid (show HeapWs (w.alloc (.cells #[.int .i64 xi, .int .i64 xa, .int .i64 xb] 261)).drew base hb l turn A c from HH.out.drew)
  have HK : Hid (Keep (heapF hb A) w (w.alloc (.cells #[.int .i64 xi, .int .i64 xa, .int .i64 xb] 261)).drew) := Lib.hid ((Keep.of_below HBW.out).drew)
  refine wp_region_D (Ds := [18]) (S := fun V => V.cell? ⟨hb, 0, none⟩ = some (.slice A l.length c) ∧ V.cell? ⟨hb, 1, none⟩ = some (.int .i64 turn) ∧ V.cell? ⟨w.heap.size, 0, none⟩ = some (.int .i64 xi) ∧ V.cell? ⟨w.heap.size, 1, none⟩ = some (.int .i64 xa) ∧ V.cell? ⟨w.heap.size, 2, none⟩ = some (.int .i64 xb)) (by kernel_rfl) (by exact ⟨h0, h1, n0, n1, n2⟩) (fun hHeld => ?_)
  generalize (w.alloc (.cells #[.int .i64 xi, .int .i64 xa, .int .i64 xb] 261)).drew = W0 at *
  refine wpAnyD_takeP (i := 0) (oi := { dst := some 10, op := Op.move (Operand.tmp 0), type := 258, pos := "heap.go:78", after := #[], guard := none }) (d := 10) (v := ?_) rfl rfl (by kernel_rfl) (by kernel_rfl) (by kernel_rfl) (fun _ _ _ h => h) (Or.inl ⟨by rfl, ?_⟩) ?_
  rotate_left
  · (intro w' _; go_simp; (try with_reducible rfl))
  simp only [List.setIfInBounds_toArray, List.set_cons_zero, List.set_cons_succ]
  refine wpAnyD_takeP (i := 1) (oi := { dst := some 11, op := Op.move (Operand.tmp 0), type := 258, pos := "heap.go:78", after := #[], guard := none }) (d := 11) (v := ?_) rfl rfl (by kernel_rfl) (by kernel_rfl) (by kernel_rfl) (fun _ _ _ h => h) (Or.inl ⟨by rfl, ?_⟩) ?_
  rotate_left
  · (intro w' _; go_simp; (try with_reducible rfl))
  simp only [List.setIfInBounds_toArray, List.set_cons_zero, List.set_cons_succ]
  refine wpAnyD_takeP (i := 2) (oi := { dst := some 12, op := Op.nilCheck (Operand.tmp 11), type := 0, pos := "heap.go:78", after := #[{ on := 1, ground := Ground.data }], guard := none }) (d := 12) (v := ?_) rfl rfl (by kernel_rfl) (by kernel_rfl) (by kernel_rfl) (fun _ _ _ h => h) (Or.inl ⟨by rfl, ?_⟩) ?_
  rotate_left
  · (intro w' _; go_simp; (try with_reducible rfl))
  simp only [List.setIfInBounds_toArray, List.set_cons_zero, List.set_cons_succ]
  refine wpAnyD_takeP (i := 3) (oi := { dst := some 13, op := Op.fieldAddr 277 (Operand.tmp 12) 0, type := 0, pos := "heap.go:78", after := #[{ on := 2, ground := Ground.data }], guard := none }) (d := 13) (v := ?_) rfl rfl (by kernel_rfl) (by kernel_rfl) (by kernel_rfl) (fun _ _ _ h => h) (Or.inl ⟨by rfl, ?_⟩) ?_
  rotate_left
  · (intro w' _; go_simp; (try with_reducible rfl))
  simp only [List.setIfInBounds_toArray, List.set_cons_zero, List.set_cons_succ]
  refine wpAnyD_takeP (i := 5) (oi := { dst := some 15, op := Op.move (Operand.tmp 1), type := 3, pos := "heap.go:78", after := #[], guard := none }) (d := 15) (v := ?_) rfl rfl (by kernel_rfl) (by kernel_rfl) (by kernel_rfl) (fun _ _ _ h => h) (Or.inl ⟨by rfl, ?_⟩) ?_
  rotate_left
  · (intro w' _; go_simp; (try with_reducible rfl))
  simp only [List.setIfInBounds_toArray, List.set_cons_zero, List.set_cons_succ]
  refine wpAnyD_takeP (i := 6) (oi := { dst := some 16, op := Op.move (Operand.tmp 2), type := 3, pos := "heap.go:78", after := #[], guard := none }) (d := 16) (v := ?_) rfl rfl (by kernel_rfl) (by kernel_rfl) (by kernel_rfl) (fun _ _ _ h => h) (Or.inl ⟨by rfl, ?_⟩) ?_
  rotate_left
  · (intro w' _; go_simp; (try with_reducible rfl))
  simp only [List.setIfInBounds_toArray, List.set_cons_zero, List.set_cons_succ]
  refine wpAnyD_takeP (i := 7) (oi := { dst := some 17, op := Op.move (Operand.tmp 0), type := 258, pos := "heap.go:78", after := #[], guard := none }) (d := 17) (v := ?_) rfl rfl (by kernel_rfl) (by kernel_rfl) (by kernel_rfl) (fun _ _ _ h => h) (Or.inl ⟨by rfl, ?_⟩) ?_
  rotate_left
  · (intro w' _; go_simp; (try with_reducible rfl))
  simp only [List.setIfInBounds_toArray, List.set_cons_zero, List.set_cons_succ]
  refine wpAnyD_takeP (i := 8) (oi := { dst := some 18, op := Op.nilCheck (Operand.tmp 17), type := 0, pos := "heap.go:78", after := #[{ on := 7, ground := Ground.data }], guard := none }) (d := 18) (v := ?_) rfl rfl (by kernel_rfl) (by kernel_rfl) (by kernel_rfl) (fun _ _ _ h => h) (Or.inl ⟨by rfl, ?_⟩) ?_
  rotate_left
  · (intro w' _; go_simp; (try with_reducible rfl))
  simp only [List.setIfInBounds_toArray, List.set_cons_zero, List.set_cons_succ]
  refine wpAnyD_takeP (i := 9) (oi := { dst := some 19, op := Op.fieldAddr 277 (Operand.tmp 18) 1, type := 0, pos := "heap.go:78", after := #[{ on := 8, ground := Ground.data }], guard := none }) (d := 19) (v := ?_) rfl rfl (by kernel_rfl) (by kernel_rfl) (by kernel_rfl) (fun _ _ _ h => h) (Or.inl ⟨by rfl, ?_⟩) ?_
  rotate_left
  · (intro w' _; go_simp; (try with_reducible rfl))
  simp only [List.setIfInBounds_toArray, List.set_cons_zero, List.set_cons_succ]
  refine wpAnyD_takeD (i := 4) (oi := { dst := some 14, op := Op.load 275 (Operand.tmp 13), type := 275, pos := "heap.go:78", after := #[{ on := 3, ground := Ground.data }], guard := none }) (d := 14) (v := ?_) rfl rfl (by kernel_rfl) (by kernel_rfl) (by kernel_rfl) (by kernel_rfl) (fun _ _ _ h => h) (Or.inl ⟨by rfl, ?_⟩) hHeld ?_
  rotate_left
  · (intro w' hSw; (try dsimp only at hSw); go_simp; (try with_reducible rfl))
  simp only [List.setIfInBounds_toArray, List.set_cons_zero, List.set_cons_succ]
  refine wpAnyD_takeD (i := 10) (oi := { dst := some 20, op := Op.load 3 (Operand.tmp 19), type := 3, pos := "heap.go:78", after := #[{ on := 9, ground := Ground.data }], guard := none }) (d := 20) (v := ?_) rfl rfl (by kernel_rfl) (by kernel_rfl) (by kernel_rfl) (by kernel_rfl) (fun _ _ _ h => h) (Or.inl ⟨by rfl, ?_⟩) hHeld ?_
  rotate_left
  · (intro w' hSw; (try dsimp only at hSw); go_simp; (try with_reducible rfl))
  simp only [List.setIfInBounds_toArray, List.set_cons_zero, List.set_cons_succ]
  refine wpAnyD_takeP (i := 11) (oi := { dst := some 21, op := Op.build 280 #[(0, Operand.tmp 15), (1, Operand.tmp 16), (2, Operand.tmp 20)], type := 280, pos := "heap.go:78", after := #[{ on := 5, ground := Ground.data }, { on := 6, ground := Ground.data }, { on := 10, ground := Ground.data }], guard := none }) (d := 21) (v := ?_) rfl rfl (by kernel_rfl) (by kernel_rfl) (by kernel_rfl) (fun _ _ _ h => h) (Or.inl ⟨by rfl, ?_⟩) ?_
  rotate_left
  · (intro w' _; go_simp; (try with_reducible rfl))
  simp only [List.setIfInBounds_toArray, List.set_cons_zero, List.set_cons_succ]
  refine wpAnyD_takeD (i := 12) (oi := { dst := some 22, op := Op.load 261 (Operand.tmp 7), type := 261, pos := "heap.go:78", after := #[], guard := none }) (d := 22) (v := ?_) rfl rfl (by kernel_rfl) (by kernel_rfl) (by kernel_rfl) (by kernel_rfl) (fun _ _ _ h => h) (Or.inl ⟨by rfl, ?_⟩) hHeld ?_
  rotate_left
  · (intro w' hSw; (try dsimp only at hSw); go_simp; (try with_reducible rfl))
  simp only [List.setIfInBounds_toArray, List.set_cons_zero, List.set_cons_succ]
  refine wpAnyD_takeP (i := 13) (oi := { dst := some 23, op := Op.build 282 #[(0, Operand.tmp 21), (1, Operand.tmp 22)], type := 282, pos := "heap.go:78", after := #[{ on := 11, ground := Ground.data }, { on := 12, ground := Ground.data }], guard := none }) (d := 23) (v := ?_) rfl rfl (by kernel_rfl) (by kernel_rfl) (by kernel_rfl) (fun _ _ _ h => h) (Or.inl ⟨by rfl, ?_⟩) ?_
  rotate_left
  · (intro w' _; go_simp; (try with_reducible rfl))
  simp only [List.setIfInBounds_toArray, List.set_cons_zero, List.set_cons_succ]
  refine wpAnyD_one (i := 14) (o := { dst := some 24, op := Op.buildSlice 275 1 #[(0, Operand.tmp 23)], type := 275, pos := "heap.go:78", after := #[{ on := 13, ground := Ground.data }], guard := none }) (by kernel_rfl) rfl (by rfl) (fun K hK => ?_)
  go_simp; have hbl := (Below.refl W0.heap.size W0).alloc (Nat.le_refl _) (.cells #[.int .i64 r, .int .i64 p, .int .i64 turn, .int .i64 xi, .int .i64 xa, .int .i64 xb] 282); have h := And.intro (below_cell hbl (Nat.le_refl _) hHeld.1) (And.intro (below_cell hbl (Nat.le_refl _) hHeld.2.1) (And.intro (below_cell hbl (Nat.le_refl _) hHeld.2.2.1) (And.intro (below_cell hbl (Nat.le_refl _) hHeld.2.2.2.1) (below_cell hbl (Nat.le_refl _) hHeld.2.2.2.2)))); clear hbl
  refine hK.out _ _ h (fun hHeld => ?_)
  clear hK K
  try simp only [Act.put, List.setIfInBounds_toArray, List.set_cons_zero, List.set_cons_succ]
  refine wpAnyD_one (i := 15) (o := { dst := some 25, op := Op.call { callee := Callee.builtin Builtin.append, args := #[Operand.tmp 14, Operand.tmp 24], argTypes := #[275, 275] }, type := 275, pos := "heap.go:78", after := #[{ on := 4, ground := Ground.data }, { on := 14, ground := Ground.data }], guard := none }) (by kernel_rfl) rfl (by rfl) (fun K hK => ?_)
  refine wp_app_one base 275 282 (.agg #[.int .i64 0, .int .i64 0, .int .i64 0, .int .i64 0, .int .i64 0, .int .i64 0]) 6 48 [_, _, _, _, _, _] 1 _ _ rfl Tryz.underlying275 info_th rfl (by decide) _ _ _ rfl _ rfl rfl rfl (by intro u hu; simp at hu; rcases hu with rfl | rfl | rfl | rfl | rfl | rfl <;> rfl) HD.out.row (by omega) (by omega) (Nat.le_trans HBASE.out HK.out.size) ?_; intro v' w1 hown1 hg1 hnew; obtain ⟨A1, cA1, rfl⟩ := own_slice hown1; have hk1 : Keep (heapF hb A) W0 w1 := Keep.of_grown hg1 (fun g hg => .inr (own_addr HD.out.row g hg)); have b1 := (Keep.of_grown (F := fun g => (Value.slice A l.length c).ownBlock = some g) hg1 (fun g hg => hg)).blk HD.out.blk (row_ne HD.out.row HD.out.blk (by decide)); have b5 := (Keep.of_grown (F := fun g => (Value.slice A l.length c).ownBlock = some g) hg1 (fun g hg => hg)).blk HNB.out (fun e => Nat.lt_irrefl _ (HX.out _ e)); have h := And.intro (blk_cell b1 0) (And.intro (blk_cell b1 1) (And.intro (blk_cell b5 0) (And.intro (blk_cell b5 1) (blk_cell b5 2)))); clear b5
  refine hK.out _ _ h (fun hHeld => ?_)
  clear hK K
  try simp only [Act.put, List.setIfInBounds_toArray, List.set_cons_zero, List.set_cons_succ]
  refine wpAnyD_takeP (i := 16) (oi := { dst := some 26, op := Op.nilCheck (Operand.tmp 10), type := 0, pos := "heap.go:78", after := #[{ on := 0, ground := Ground.data }, { on := 0, ground := Ground.phase }, { on := 1, ground := Ground.phase }, { on := 2, ground := Ground.phase }, { on := 3, ground := Ground.phase }, { on := 4, ground := Ground.phase }, { on := 5, ground := Ground.phase }, { on := 6, ground := Ground.phase }, { on := 7, ground := Ground.phase }, { on := 8, ground := Ground.phase }, { on := 9, ground := Ground.phase }, { on := 10, ground := Ground.phase }, { on := 11, ground := Ground.phase }, { on := 12, ground := Ground.phase }, { on := 13, ground := Ground.phase }, { on := 14, ground := Ground.phase }, { on := 15, ground := Ground.phase }], guard := none }) (d := 26) (v := ?_) rfl rfl (by kernel_rfl) (by kernel_rfl) (by kernel_rfl) (fun _ _ _ h => h) (Or.inl ⟨by rfl, ?_⟩) ?_
  rotate_left
  · (intro w' _; go_simp; (try with_reducible rfl))
  simp only [List.setIfInBounds_toArray, List.set_cons_zero, List.set_cons_succ]
  refine wpAnyD_takeP (i := 17) (oi := { dst := some 27, op := Op.fieldAddr 277 (Operand.tmp 26) 0, type := 0, pos := "heap.go:78", after := #[{ on := 16, ground := Ground.data }, { on := 0, ground := Ground.phase }, { on := 1, ground := Ground.phase }, { on := 2, ground := Ground.phase }, { on := 3, ground := Ground.phase }, { on := 4, ground := Ground.phase }, { on := 5, ground := Ground.phase }, { on := 6, ground := Ground.phase }, { on := 7, ground := Ground.phase }, { on := 8, ground := Ground.phase }, { on := 9, ground := Ground.phase }, { on := 10, ground := Ground.phase }, { on := 11, ground := Ground.phase }, { on := 12, ground := Ground.phase }, { on := 13, ground := Ground.phase }, { on := 14, ground := Ground.phase }, { on := 15, ground := Ground.phase }], guard := none }) (d := 27) (v := ?_) rfl rfl (by kernel_rfl) (by kernel_rfl) (by kernel_rfl) (fun _ _ _ h => h) (Or.inl ⟨by rfl, ?_⟩) ?_
  rotate_left
  · (intro w' _; go_simp; (try with_reducible rfl))
  simp only [List.setIfInBounds_toArray, List.set_cons_zero, List.set_cons_succ]
  refine wpAnyD_last (D := 18) (by decide) (o := { dst := none, op := Op.store 275 (Operand.tmp 27) (Operand.tmp 25), type := 0, pos := "heap.go:78", after := #[{ on := 17, ground := Ground.data }, { on := 15, ground := Ground.data }, { on := 15, ground := Ground.chain }, { on := 0, ground := Ground.phase }, { on := 1, ground := Ground.phase }, { on := 2, ground := Ground.phase }, { on := 3, ground := Ground.phase }, { on := 4, ground := Ground.phase }, { on := 5, ground := Ground.phase }, { on := 6, ground := Ground.phase }, { on := 7, ground := Ground.phase }, { on := 8, ground := Ground.phase }, { on := 9, ground := Ground.phase }, { on := 10, ground := Ground.phase }, { on := 11, ground := Ground.phase }, { on := 12, ground := Ground.phase }, { on := 13, ground := Ground.phase }, { on := 14, ground := Ground.phase }, { on := 15, ground := Ground.phase }], guard := none }) (by kernel_rfl) rfl (by rfl) (fun K hK => ?_)
  have z0 := blk_froz b1 0; have c0 := hHeld.1; go_simp
  refine hK.out _ _ ?_
  clear hK K
  try simp only [Act.put, List.setIfInBounds_toArray, List.set_cons_zero, List.set_cons_succ]
  refine wpAnyD_done (by kernel_rfl) ?_ _
  have b2 := blk_set b1 0 (.slice A1 (l.length + 1) cA1)
  simp only [List.setIfInBounds_toArray, List.set_cons_zero] at b2
  have HNR : Hid (NewRow w A A1) := Lib.hid (by
    obtain ⟨g, cap, e1, _, _, _⟩ := own_open hown1 (by omega)
    injection e1 with e1
    subst e1
    rcases hnew with e | ⟨g', e, hg⟩
    · exact .inl (own_addr HD.out.row g e.symm).symm
    · have e : some g = some g' := e
      injection e with e
      subst e
      exact .inr ⟨g, rfl, Nat.le_trans HK.out.size hg⟩)
  have hne : ∀ g, (Value.slice A1 (l.length + 1) cA1).ownBlock = some g → ¬ g = hb := fun g hg e => row_ne hown1 b1 (by decide) (by rw [hg, e])
  have K3 : ∀ (W : World) (i : Nat) (u : Value), Keep (fun g => g = hb) W (W.setCell ⟨hb, i, none⟩ u) := fun W i u => Keep.setCell (F := fun g => g = hb) (p := ⟨hb, i, none⟩) (Keep.refl _ _) (Or.inl rfl) _
  have hrow2 := own_keep (own_keep hown1 (K3 _ 0 (.slice A1 (l.length + 1) cA1)) hne) (K3 _ 1 (.int .i64 (turn + 1))) hne
  have b3 := blk_set b2 1 (.int .i64 (turn + 1))
  simp only [List.setIfInBounds_toArray, List.set_cons_zero, List.set_cons_succ] at b3
  have e0 := blk_cell b2 0
  have e1 := blk_cell b2 1
  have f1 := blk_froz b2 1
  have e3 := blk_cell b3 0
  simp only [List.getElem?_toArray, List.getElem?_cons_zero, List.getElem?_cons_succ] at e0 e1 e3
  have HK2 := Lib.hid ((HK.out.trans hk1 (fun g hg => .inl hg)).setCell (p := ⟨hb, 0, none⟩) (.inl (.inl rfl)) (.slice A1 (l.length + 1) cA1) |>.setCell (p := ⟨hb, 1, none⟩) (.inl (.inl rfl)) (.int .i64 (turn + 1)))
  have HN : Hid (HeapWs ((w1.setCell ⟨hb, 0, none⟩ (.slice A1 (l.length + 1) cA1)).setCell ⟨hb, 1, none⟩ (.int .i64 (turn + 1))) base hb (l ++ [⟨r, p, turn, ⟨xi, xa, xb⟩⟩]) (turn + 1) A1 cA1) := Lib.hid (by
    refine ⟨?_, ?_, HD.out.le⟩
    · rw [List.length_append]; exact b3
    · rw [List.length_append, List.flatMap_append]; simpa [encTh] using hrow2)
  clear hHeld h c0 z0 b1 b2 b3 hown1 hg1 hnew hk1 hne K3 hrow2
  generalize w1.setCell ⟨hb, 0, none⟩ (.slice A1 (l.length + 1) cA1) = W2 at *
  go_upto_region 4 with fail
  generalize W2.setCell ⟨hb, 1, none⟩ (.int .i64 (turn + 1)) = W3 at *
  have wl : IntKind.i64.wrap ((l.length : Int) + 1 - 1) = (l.length : Int) := by rw [IntWalk.i64_in _ (by omega)]; omega
  go_wp2_with fail
  refine (up_any HN.out l.length (by simp) (by simp; omega)).mono ?_
  rintro e w4 ⟨rfl, h4, hk4⟩
  have H4 := Lib.hid h4
  have HK4 := Lib.hid (HK2.out.trans hk4 (fun g hg => by
    rcases HNR.out with e | ⟨g', e, hg'⟩
    · exact .inl (.inr (by rw [← e]; exact hg))
    · rw [e] at hg
      injection hg with hg
      injection hg with hg
      subst hg
      exact .inr hg'))
  clear h4 hk4
  go_wp2_with fail
  go_end0
  exact ⟨rfl, ⟨_, _, H4.out, HNR.out⟩, HK4.out⟩

theorem own_take {w : World} {base n m c : Nat} {e : TypeId} {size : Nat} {A : Option Addr} {xs : List Value} (h : w.ownsRow base e size (.slice A n c) n xs) (hm : m ≤ n) (h0 : 0 < n) : w.ownsRow base e size (.slice A m c) m (xs.take (m * size)) := by
  obtain ⟨hl, h⟩ := h
  rcases h with ⟨_, h2⟩ | ⟨g, cap, cur, e1, hb, hg, hc1, hc2, hc3, ht⟩
  · omega
  · injection e1 with e1 e2 e3
    subst e1; subst e3
    refine ⟨?_, .inr ⟨g, c, cur, rfl, hb, hg, by omega, hc2, hc3, ?_⟩⟩
    · rw [List.length_take, hl]
      exact Nat.min_eq_left (Nat.mul_le_mul_right _ hm)
    · rw [← ht, List.take_take, Nat.min_eq_left (Nat.mul_le_mul_right _ hm)]
theorem take_flat (l : List (Th Wt)) : ∀ m, (l.take m).flatMap encTh = (l.flatMap encTh).take (m * 6) := by
  induction l with
  | nil => intro m; simp
  | cons a l ih =>
    intro m
    cases m with
    | zero => simp
    | succ m =>
      rw [List.take_succ_cons, List.flatMap_cons, List.flatMap_cons, ih, List.take_append, List.take_of_length_le (l := encTh a) (by rw [encTh_len]; omega), encTh_len]
      have : (m + 1) * 6 - 6 = m * 6 := by omega
      rw [this]
theorem own_cap {w : World} {base n c : Nat} {e : TypeId} {size : Nat} {A : Option Addr} {xs : List Value} (h : w.ownsRow base e size (.slice A n c) n xs) : n ≤ c := by
  rcases h.2 with ⟨e1, e2⟩ | ⟨g, cap, cur, e1, hb, hg, hc1, _⟩
  · injection e1 with _ _ e3; omega
  · injection e1 with _ _ e3; omega

theorem put_wt {V : World} {g : Nat} {a b c : Value} (h : V.heap[g]? = some (.cells #[a, b, c] 261)) (x y z : Int) :
    (((V.setCell ⟨g, 0, none⟩ (.int .i64 x)).setCell ⟨g, 1, none⟩ (.int .i64 y)).setCell ⟨g, 2, none⟩ (.int .i64 z)).heap[g]? = some (.cells #[.int .i64 x, .int .i64 y, .int .i64 z] 261) := by
  simpa using blk_set (blk_set (blk_set h 0 (.int .i64 x)) 1 (.int .i64 y)) 2 (.int .i64 z)
theorem pop_none {w : World} {base hb : Nat} {turn : Int} {A : Option Addr} {c : Nat} (h : HeapWs w base hb [] turn A c) : Calls Tryz.prog 180 #[.pointer (some ⟨hb, 0, none⟩)] w fun e w' => e = .returned (.tuple #[wtV ⟨0, 0, 0⟩, .int .i64 0, .int .i64 0, .bool false]) ∧ Below w.heap.size w w' := by
  have HBW := Lib.hid ((Below.refl w.heap.size w).alloc (Nat.le_refl _) (.cells #[.int .i64 0, .int .i64 0, .int .i64 0] 261))
  have hh := h.below HBW.out (Nat.le_refl _)
  have HP := Lib.hid (by simpa only [wtV] using peek_none hh)
  have hs1 : (w.alloc (.cells #[.int .i64 0, .int .i64 0, .int .i64 0] 261)).heap.size = w.heap.size + 1 := by simp
  have HN := Lib.hid (blk_new w (.cells #[.int .i64 0, .int .i64 0, .int .i64 0] 261))
  generalize hW1 : w.alloc (.cells #[.int .i64 0, .int .i64 0, .int .i64 0] 261) = W1 at *
  have HS1 := Lib.hid hs1
  replace hW1 := Lib.hid hW1
  clear h hs1 hh
  go_enter Tryz.func180, Tryz.ntmps180
  go_wp2_with fail
  rw [hW1.out]
  refine HP.out.mono ?_
  rintro e w2 ⟨rfl, hb2⟩
  have HB2 := Lib.hid (HBW.out.trans (hb2.mono (by rw [HS1.out]; exact Nat.le_succ _)))
  have HN2 := Lib.hid (blk_below hb2 (by rw [HS1.out]; exact Nat.lt_succ_self _) HN.out)
  have hz2 := hb2.size
  clear hb2 HP
  go_upto_region 7 with fail
  replace HB2 := Lib.hid (HB2.out.alloc HB2.out.size (.cells #[.int .i64 0, .int .i64 0, .int .i64 0] 261))
  replace HN2 := Lib.hid (blk_alloc HN2.out (.cells #[.int .i64 0, .int .i64 0, .int .i64 0] 261))
  have n0 := blk_cell (blk_new w2 (.cells #[.int .i64 0, .int .i64 0, .int .i64 0] 261)) 0
  have n1 := blk_cell (blk_new w2 (.cells #[.int .i64 0, .int .i64 0, .int .i64 0] 261)) 1
  have n2 := blk_cell (blk_new w2 (.cells #[.int .i64 0, .int .i64 0, .int .i64 0] 261)) 2
  have HG := Lib.hid (Nat.le_trans (by rw [HS1.out]; exact Nat.lt_succ_self _) hz2)
  generalize w2.alloc (.cells #[.int .i64 0, .int .i64 0, .int .i64 0] 261) = W3 at *
  have z0 := blk_froz HN2.out 0
  have z1 := blk_froz HN2.out 1
  have z2 := blk_froz HN2.out 2
  have c0 := blk_cell HN2.out 0
  have c1 := blk_cell HN2.out 1
  have c2 := blk_cell HN2.out 2
  simp only [List.getElem?_toArray, List.getElem?_cons_zero, List.getElem?_cons_succ] at n0 n1 n2 c0 c1 c2
  go_wp2_with fail
  refine ret_cell_tmp3 rfl rfl rfl rfl rfl (load_wt (blk_cell (put_wt HN2.out 0 0 0) 0) (blk_cell (put_wt HN2.out 0 0 0) 1) (blk_cell (put_wt HN2.out 0 0 0) 2)) ⟨rfl, ?_⟩
  exact ((HB2.out.setCell (p := ⟨_, 0, none⟩) (Nat.le_refl _) _).setCell (p := ⟨_, 1, none⟩) (Nat.le_refl _) _).setCell (p := ⟨_, 2, none⟩) (Nat.le_refl _) _

set_option maxHeartbeats 4000000 in
theorem pop_h {w : World} {base hb : Nat} {l : List (Th Wt)} {turn : Int} {A : Option Addr} {c : Nat} (h : HeapWs w base hb l turn A c) (hl : 0 < l.length) (hlen : l.length < 1000000000) :
    Calls Tryz.prog 180 #[.pointer (some ⟨hb, 0, none⟩)] w fun e w' => e = .returned (.tuple #[wtV l[0].x, .int .i64 l[0].r, .int .i64 l[0].p, .bool true]) ∧ HeapWs w' base hb (popT l) turn A c ∧ Keep (heapF hb A) w w' := by
  have HX := Lib.hid (own_lt h.row)
  have HHB := Lib.hid (blk_lt h.blk)
  have HBW := Lib.hid ((Below.refl w.heap.size w).alloc (Nat.le_refl _) (.cells #[.int .i64 0, .int .i64 0, .int .i64 0] 261))
  have hh := h.below HBW.out (Nat.le_refl _)
  have HP := Lib.hid (by simpa only [wtV] using peek_h hh hl)
  have HH := Lib.hid hh
  have hs1 : (w.alloc (.cells #[.int .i64 0, .int .i64 0, .int .i64 0] 261)).heap.size = w.heap.size + 1 := by simp
  have HN := Lib.hid (blk_new w (.cells #[.int .i64 0, .int .i64 0, .int .i64 0] 261))
  generalize hW1 : w.alloc (.cells #[.int .i64 0, .int .i64 0, .int .i64 0] 261) = W1 at *
  have HS1 := Lib.hid hs1
  replace hW1 := Lib.hid hW1
  clear hs1
  unfold wtV
  generalize l[0].x = x0 at *
  obtain ⟨xi, xa, xb⟩ := x0
  simp only at HP
  generalize l[0].r = r0 at *
  generalize l[0].p = p0 at *
  clear h hh
  go_enter Tryz.func180, Tryz.ntmps180
  go_wp2_with fail
  rw [hW1.out]
  refine HP.out.mono ?_
  rintro e w2 ⟨rfl, hb2⟩
  have HZ2 := Lib.hid (Nat.lt_of_lt_of_le (by rw [HS1.out]; exact Nat.lt_succ_self _) hb2.size)
  replace HBW := Lib.hid ((HBW.out.trans (hb2.mono (by rw [HS1.out]; exact Nat.le_succ _))).alloc (Nat.le_of_lt HZ2.out) (.cells #[.int .i64 xi, .int .i64 xa, .int .i64 xb] 261))
  replace HH := Lib.hid ((HH.out.below hb2 (Nat.le_refl _)).below ((Below.refl w2.heap.size w2).alloc (Nat.le_refl _) (.cells #[.int .i64 xi, .int .i64 xa, .int .i64 xb] 261)) (Nat.le_refl _))
  replace HN := Lib.hid (blk_alloc (blk_below hb2 (by rw [HS1.out]; exact Nat.lt_succ_self _) HN.out) (.cells #[.int .i64 xi, .int .i64 xa, .int .i64 xb] 261))
  have HN6 := Lib.hid (blk_new w2 (.cells #[.int .i64 xi, .int .i64 xa, .int .i64 xb] 261))
  have h0 := blk_cell HH.out.blk 0
  simp only [List.getElem?_toArray, List.getElem?_cons_zero, List.getElem?_cons_succ] at h0
  have wl : IntKind.i64.wrap ((l.length : Int) - 1) = ((l.length - 1 : Nat) : Int) := by rw [IntWalk.i64_in _ (by omega)]; omega
  clear hb2 HP
  go_upto_region 3 with fail
  generalize w2.alloc (.cells #[.int .i64 xi, .int .i64 xa, .int .i64 xb] 261) = W3 at *
  have HK1 : Hid (Keep (heapF hb A) w W3) := Lib.hid (Keep.of_below HBW.out)
  have HA2 : Hid (∀ g, A = some ⟨g, 0, none⟩ → g < w.heap.size) := Lib.hid (fun g hg => HX.out g (addr_own hg))
  go_wp2_with fail
  have hsw := swap_any HH.out 0 (l.length - 1) hl (by omega) (by omega)
  rw [show ((0 : Nat) : Int) = 0 from rfl] at hsw
  refine hsw.mono ?_
  rintro e w4 ⟨rfl, h2, hk2⟩
  have HK2 := Lib.hid (HK1.out.trans hk2 (fun g hg => .inl (.inr hg)))
  replace HN := Lib.hid (hk2.blk HN.out (fun e => Nat.lt_irrefl _ (HA2.out _ e)))
  replace HN6 := Lib.hid (hk2.blk HN6.out (fun e => Nat.lt_asymm (HA2.out _ e) HZ2.out))
  obtain ⟨g, rfl, _⟩ := HH.out.at 0 hl
  have H2 := Lib.hid h2
  have e0 := blk_cell h2.blk 0
  have f0 := blk_froz h2.blk 0
  simp only [List.getElem?_toArray, List.getElem?_cons_zero, List.getElem?_cons_succ] at e0
  rw [swap_len] at e0
  have hcap := own_cap HH.out.row
  obtain ⟨q, hq⟩ : ∃ q, l.length - 1 = q := ⟨_, rfl⟩
  have HQ := Lib.hid hq
  rw [hq] at h2 H2 ⊢
  have q0 : (0 : Int) ≤ (q : Int) := by omega
  have q1 : (q : Int) ≤ (c : Int) := by omega
  have q2 : q ≤ c := by omega
  have hlq : l.length = q + 1 := by omega
  have b3 := blk_set h2.blk 0 (.slice (some ⟨g, 0, none⟩) q c)
  simp only [List.setIfInBounds_toArray, List.set_cons_zero] at b3
  have K3 : Keep (fun x => x = hb) w4 (w4.setCell ⟨hb, 0, none⟩ (.slice (some ⟨g, 0, none⟩) q c)) := Keep.setCell (F := fun x => x = hb) (p := ⟨hb, 0, none⟩) (Keep.refl _ _) (Or.inl rfl) _
  have hne : ∀ x, (Value.slice (some ⟨g, 0, none⟩) (swapT l 0 q).length c).ownBlock = some x → ¬ x = hb := fun x hx e => row_ne h2.row h2.blk (by decide) (by rw [hx, e])
  have hrow := own_take (own_keep h2.row K3 hne) (m := q) (by rw [swap_len]; omega) (by rw [swap_len]; omega)
  rw [← take_flat] at hrow
  have htl : ((swapT l 0 q).take q).length = q := by rw [List.length_take, swap_len]; omega
  have HNN : Hid (HeapWs (w4.setCell ⟨hb, 0, none⟩ (.slice (some ⟨g, 0, none⟩) q c)) base hb ((swapT l 0 q).take q) turn (some ⟨g, 0, none⟩) c) := Lib.hid ⟨by rw [htl]; exact b3, by rw [htl]; exact hrow, h2.le⟩
  have HK3 := Lib.hid (HK2.out.setCell (p := ⟨hb, 0, none⟩) (.inl (.inl rfl)) (.slice (some ⟨g, 0, none⟩) q c))
  replace HN := Lib.hid (K3.blk HN.out (fun e => Nat.lt_irrefl _ (e ▸ HHB.out)))
  replace HN6 := Lib.hid (K3.blk HN6.out (fun e => Nat.lt_asymm (e ▸ HHB.out) HZ2.out))
  have HPOP := Lib.hid (show downT ((swapT l 0 q).take q) 0 = popT l from by unfold popT; rw [HQ.out])
  have HTL := Lib.hid htl
  clear h2 hk2 h0 wl hq hsw b3 K3 hne hrow htl hlq
  go_upto_region 6 with fail
  generalize w4.setCell ⟨hb, 0, none⟩ (.slice (some ⟨g, 0, none⟩) q c) = w5 at *
  go_wp2_with fail
  refine (down_any HNN.out (by rw [HTL.out]; have := HQ.out; omega)).mono ?_
  rintro e w6 ⟨rfl, h4, hk4⟩
  rw [HPOP.out] at h4
  have H4 := Lib.hid h4
  have HK4 := Lib.hid (HK3.out.trans hk4 (fun x hx => .inl (.inr hx)))
  replace HN := Lib.hid (hk4.blk HN.out (fun e => Nat.lt_irrefl _ (HA2.out _ e)))
  replace HN6 := Lib.hid (hk4.blk HN6.out (fun e => Nat.lt_asymm (HA2.out _ e) HZ2.out))
  clear h4 hk4 H2 HNN HK3 HK2 e0 f0
  have n0 := blk_cell HN6.out 0
  have n1 := blk_cell HN6.out 1
  have n2 := blk_cell HN6.out 2
  have z0 := blk_froz HN.out 0
  have z1 := blk_froz HN.out 1
  have z2 := blk_froz HN.out 2
  have c0 := blk_cell HN.out 0
  have c1 := blk_cell HN.out 1
  have c2 := blk_cell HN.out 2
  simp only [List.getElem?_toArray, List.getElem?_cons_zero, List.getElem?_cons_succ] at n0 n1 n2 c0 c1 c2
  go_wp2_with fail
  have HP6 := put_wt HN.out xi xa xb
  have KF : Keep (fun x => x = w.heap.size) w6 (((w6.setCell ⟨w.heap.size, 0, none⟩ (.int .i64 xi)).setCell ⟨w.heap.size, 1, none⟩ (.int .i64 xa)).setCell ⟨w.heap.size, 2, none⟩ (.int .i64 xb)) := (((Keep.refl (fun x => x = w.heap.size) w6).setCell (p := ⟨w.heap.size, 0, none⟩) (.inl rfl) _).setCell (p := ⟨w.heap.size, 1, none⟩) (.inl rfl) _).setCell (p := ⟨w.heap.size, 2, none⟩) (.inl rfl) _
  refine ret_cell_tmp3 rfl rfl rfl rfl rfl (load_wt (blk_cell HP6 0) (blk_cell HP6 1) (blk_cell HP6 2)) ⟨rfl, H4.out.keep KF ?_, HK4.out.trans KF (fun x hx => .inr (Nat.le_of_eq hx.symm))⟩
  rintro x (rfl | hx) e
  · subst e; exact Nat.lt_irrefl _ HHB.out
  · subst e; exact Nat.lt_irrefl _ (HA2.out _ hx)
end Go.Proofs.YtbppaiejpgdbiaaGreat.hw

/- Layer 5 (chain): nodes in a row against the chain of those that live; what waits; one step of the queue: the plain law. -/
namespace Go.Proofs.YtbppaiejpgdbiaaGreat
set_option linter.unusedVariables false
set_option linter.unusedSimpArgs false

/-- a node: its token, who is ahead, who is next -/
abbrev Node := Int × Int × Int
def lastI (p : List Nd) : Int := (p.getLast?.map Prod.fst).getD (-1)
def headI (q : List Nd) : Int := (q.head?.map Prod.fst).getD (-1)
theorem headI_nil : headI [] = -1 := rfl
theorem lastI_snoc (p : List Nd) (x : Nd) : lastI (p ++ [x]) = x.1 := by simp [lastI]
theorem lastI_mid (p u : List Nd) (x y : Nd) : lastI (p ++ y :: (u ++ [x])) = x.1 := by
  have : p ++ y :: (u ++ [x]) = (p ++ y :: u) ++ [x] := by simp
  rw [this, lastI_snoc]
theorem headI_cons (x : Nd) (q : List Nd) : headI (x :: q) = x.1 := rfl

/-- N's nodes, of which those of L live -/
structure Lives (N : List Node) (L : List Nd) : Prop where
  at_ : ∀ (p : List Nd) (i a : Int) (q : List Nd), L = p ++ (i, a) :: q → ∃ k : Nat, i = k ∧ N[k]? = some (a, lastI p, headI q)
  dead : ∀ (k : Nat) (x : Node), N[k]? = some x → (∀ a : Int, ((k : Int), a) ∉ L) → x.1 = -2
  first : N ≠ [] → ∃ (a : Int) (q : List Nd), L = (0, a) :: q
  nn : ∀ x ∈ L, 0 ≤ x.2 ∧ x.2 < 1000000
  srt : L.Pairwise (fun x y => x.1 < y.1)

def idN (v : Int) (x : Node) : Node := (v, x.2.1, x.2.2)
def aheadN (v : Int) (x : Node) : Node := (x.1, v, x.2.2)
def nextN (v : Int) (x : Node) : Node := (x.1, x.2.1, v)
def aftI : Option Nat → Int
  | none => -1
  | some k => k
def aheadO (N : List Node) (i : Nat) : Option Nat → List Node
  | none => N
  | some k => N.modify k (aheadN i)
/-- i takes in the next one, j; k is behind that -/
def joinN (N : List Node) (i j : Nat) (r : Int) (k : Option Nat) : List Node :=
  aheadO (((N.modify j (idN (-2))).modify i (idN r)).modify i (nextN (aftI k))) i k
theorem joinN_len (N : List Node) (i j : Nat) (r : Int) (k : Option Nat) : (joinN N i j r k).length = N.length := by
  cases k <;> simp [joinN, aheadO]
theorem joinN_at (N : List Node) (i j : Nat) (r : Int) (k : Option Nat) (m : Nat) :
    (joinN N i j r k)[m]? = (N[m]?).map (fun x => (if m = i then r else if m = j then -2 else x.1, if k = some m then (i : Int) else x.2.1, if m = i then aftI k else x.2.2)) := by
  cases h : N[m]? with
  | none =>
    rw [List.getElem?_eq_none_iff] at h
    rw [Option.map_none, List.getElem?_eq_none_iff, joinN_len]
    exact h
  | some x =>
    cases k with
    | none =>
      simp only [joinN, aheadO, List.getElem?_modify, h]
      by_cases h1 : i = m
      · subst h1
        by_cases h2 : j = i
        · subst h2; simp [idN, nextN, aftI]
        · simp [idN, nextN, aftI, h2]
      · by_cases h2 : j = m
        · subst h2; simp [idN, nextN, aftI, h1, Ne.symm h1]
        · simp [idN, nextN, aftI, h1, h2, Ne.symm h1, Ne.symm h2]
    | some k =>
      simp only [joinN, aheadO, List.getElem?_modify, h]
      by_cases h3 : k = m
      · subst h3
        by_cases h1 : i = k
        · subst h1
          by_cases h2 : j = i
          · subst h2; simp [idN, nextN, aheadN, aftI]
          · simp [idN, nextN, aheadN, aftI, h2]
        · by_cases h2 : j = k
          · subst h2; simp [idN, nextN, aheadN, aftI, h1, Ne.symm h1]
          · simp [idN, nextN, aheadN, aftI, h1, h2, Ne.symm h1, Ne.symm h2]
      · by_cases h1 : i = m
        · subst h1
          by_cases h2 : j = i
          · subst h2; simp [idN, nextN, aheadN, aftI, h3]
          · simp [idN, nextN, aheadN, aftI, h2, h3]
        · by_cases h2 : j = m
          · subst h2; simp [idN, nextN, aheadN, aftI, h1, Ne.symm h1, h3]
          · simp [idN, nextN, aheadN, aftI, h1, h2, Ne.symm h1, Ne.symm h2, h3]

/-- the first place of what is behind -/
def kOf (L2 : List Nd) : Option Nat := L2.head?.map (fun x => x.1.toNat)

theorem Lives.place {N : List Node} {L : List Nd} (h : Lives N L) {x : Nd} (hx : x ∈ L) : ∃ k : Nat, x.1 = k ∧ k < N.length := by
  obtain ⟨p, q, rfl⟩ := List.append_of_mem hx
  obtain ⟨k, h1, h2⟩ := h.at_ p x.1 x.2 q rfl
  exact ⟨k, h1, (List.getElem?_eq_some_iff.1 h2).1⟩

theorem Lives.aft {N : List Node} {L1 L2 : List Nd} {x : Nd} (h : Lives N (L1 ++ x :: L2)) : aftI (kOf L2) = headI L2 := by
  rcases L2 with _ | ⟨y, L2⟩
  · rfl
  · obtain ⟨k, h1, _⟩ := h.place (x := y) (by simp)
    show aftI (some y.1.toNat) = y.1
    show ((y.1.toNat : Nat) : Int) = y.1
    omega

theorem Lives.join {N : List Node} {L1 L2 : List Nd} {i j : Nat} {a b r : Int} (h : Lives N (L1 ++ ((i : Int), a) :: ((j : Int), b) :: L2)) (hr : 0 ≤ r ∧ r < 1000000) :
    Lives (joinN N i j r (kOf L2)) (L1 ++ ((i : Int), r) :: L2) := by
  have hs := h.srt
  have hs1 := (List.pairwise_append.1 hs).1
  have hs2 := (List.pairwise_append.1 hs).2.1
  have hs3 := (List.pairwise_append.1 hs).2.2
  have hs4 := (List.pairwise_cons.1 hs2).2
  have hij : (i : Int) < j := (List.pairwise_cons.1 hs2).1 ((j : Int), b) (by simp)
  have hsrt : (L1 ++ ((i : Int), r) :: L2).Pairwise (fun x y => x.1 < y.1) := by
    rw [List.pairwise_append]
    refine ⟨hs1, ?_, ?_⟩
    · rw [List.pairwise_cons]
      exact ⟨fun x hx => (List.pairwise_cons.1 hs2).1 x (List.mem_cons_of_mem _ hx), (List.pairwise_cons.1 hs4).2⟩
    · intro x hx y hy
      rcases List.mem_cons.1 hy with rfl | hy
      · exact hs3 x hx ((i : Int), a) (by simp)
      · exact hs3 x hx y (by simp [hy])
  have hL1 : ∀ x ∈ L1, x.1 < i := fun x hx => hs3 x hx ((i : Int), a) (by simp)
  have hL2 : ∀ x ∈ L2, (j : Int) < x.1 := fun x hx => (List.pairwise_cons.1 hs4).1 x hx
  have hk : ∀ m : Nat, kOf L2 = some m → ∃ c q, L2 = ((m : Int), c) :: q := by
    intro m hm
    rcases L2 with _ | ⟨y, L2⟩
    · simp [kOf] at hm
    · simp only [kOf, List.head?_cons, Option.map_some, Option.some.injEq] at hm
      have := hL2 y (by simp)
      refine ⟨y.2, L2, ?_⟩
      have : y.1 = (m : Int) := by omega
      rw [← this]
  refine ⟨?_, ?_, ?_, ?_, hsrt⟩
  · intro p x c q heq
    rcases List.append_eq_append_iff.1 heq with ⟨u, hu1, hu2⟩ | ⟨u, hu1, hu2⟩
    · -- p = L1 ++ u
      rcases u with _ | ⟨y, u⟩
      · simp at hu2
        obtain ⟨⟨rfl, rfl⟩, rfl⟩ := hu2
        simp only [List.append_nil] at hu1
        subst hu1
        obtain ⟨m, e1, hm⟩ := h.at_ p i a _ rfl
        have e1 : i = m := by omega
        subst e1
        refine ⟨i, rfl, ?_⟩
        have haft := Lives.aft (N := N) (L1 := p ++ [((i : Int), a)]) (x := ((j : Int), b)) (L2 := L2) (by simpa using h)
        rw [joinN_at, hm]
        have hne : kOf L2 ≠ some i := by
          intro e
          obtain ⟨c', q', e'⟩ := hk i e
          have := hL2 ((i : Int), c') (by rw [e']; simp)
          simp at this
          omega
        simp [hne, haft]
      · simp at hu2
        obtain ⟨rfl, hq⟩ := hu2
        obtain ⟨m, e1, hm⟩ := h.at_ (L1 ++ ((i : Int), a) :: ((j : Int), b) :: u) x c q (by rw [hq]; simp)
        subst e1
        have hlt : (j : Int) < (m : Int) := hL2 ((m : Int), c) (by rw [hq]; simp)
        refine ⟨m, rfl, ?_⟩
        rw [joinN_at, hm, hu1]
        rcases List.eq_nil_or_concat u with rfl | ⟨u', y, rfl⟩
        · have hkm : kOf L2 = some m := by rw [hq]; simp [kOf]
          have h1 : m ≠ i := by omega
          have h2 : m ≠ j := by omega
          have e2 : lastI (L1 ++ [((i : Int), r)]) = i := lastI_snoc _ _
          simp [hkm, h1, h2, e2]
        · have h1 : m ≠ i := by omega
          have h2 : m ≠ j := by omega
          have h3 : kOf L2 ≠ some m := by
            intro e
            obtain ⟨c', q', e'⟩ := hk m e
            have hs5 := (List.pairwise_cons.1 hs4).2
            rw [hq, List.concat_eq_append] at hs5
            rw [hq, List.concat_eq_append] at e'
            have hy : y ∈ u' ++ [y] := by simp
            have h6 := (List.pairwise_append.1 hs5).2.2
            rcases u' with _ | ⟨z, u'⟩
            · simp at e'
              have := h6 y (by simp) ((m : Int), c) (by simp)
              rw [e'.1] at this
              simp at this
            · simp at e'
              have := h6 z (by simp) ((m : Int), c) (by simp)
              rw [e'.1] at this
              simp at this
          rw [List.concat_eq_append]
          have e2 : lastI (L1 ++ ((i : Int), r) :: (u' ++ [y])) = y.1 := lastI_mid _ _ _ _
          have e3 : lastI (L1 ++ ((i : Int), a) :: ((j : Int), b) :: (u' ++ [y])) = y.1 := by
            have : L1 ++ ((i : Int), a) :: ((j : Int), b) :: (u' ++ [y]) = (L1 ++ [((i : Int), a)]) ++ ((j : Int), b) :: (u' ++ [y]) := by simp
            rw [this, lastI_mid]
          simp [h1, h2, h3, e2, e3]
    · -- L1 = p ++ u
      rcases u with _ | ⟨y, u⟩
      · simp at hu2
        obtain ⟨⟨rfl, rfl⟩, rfl⟩ := hu2
        simp only [List.append_nil] at hu1
        subst hu1
        obtain ⟨m, e1, hm⟩ := h.at_ L1 i a _ rfl
        have e1 : i = m := by omega
        subst e1
        refine ⟨i, rfl, ?_⟩
        have haft := Lives.aft (N := N) (L1 := L1 ++ [((i : Int), a)]) (x := ((j : Int), b)) (L2 := q) (by simpa using h)
        rw [joinN_at, hm]
        have hne : kOf q ≠ some i := by
          intro e
          obtain ⟨c', q', e'⟩ := hk i e
          have := hL2 ((i : Int), c') (by rw [e']; simp)
          simp at this
          omega
        simp [hne, haft]
      · simp at hu2
        obtain ⟨rfl, hq⟩ := hu2
        obtain ⟨m, e1, hm⟩ := h.at_ p x c (u ++ ((i : Int), a) :: ((j : Int), b) :: L2) (by rw [hu1]; simp)
        subst e1
        have hlt : (m : Int) < i := hL1 ((m : Int), c) (by rw [hu1]; simp)
        have h1 : m ≠ i := by omega
        have h2 : m ≠ j := by omega
        have h3 : kOf L2 ≠ some m := by
          intro e
          obtain ⟨c', q', e'⟩ := hk m e
          have := hL2 ((m : Int), c') (by rw [e']; simp)
          simp at this
          omega
        refine ⟨m, rfl, ?_⟩
        rw [joinN_at, hm, hq]
        have e2 : headI (u ++ ((i : Int), a) :: ((j : Int), b) :: L2) = headI (u ++ ((i : Int), r) :: L2) := by cases u <;> rfl
        simp [h1, h2, h3, e2]
  · intro m x hx hno
    rw [joinN_at, Option.map_eq_some_iff] at hx
    obtain ⟨y, hy, rfl⟩ := hx
    by_cases h1 : m = i
    · subst h1
      exact absurd (by simp) (hno r)
    · by_cases h2 : m = j
      · subst h2; simp [h1]
      · simp only [h1, h2, if_false]
        refine h.dead m y hy (fun c hc => ?_)
        rw [List.mem_append, List.mem_cons, List.mem_cons] at hc
        rcases hc with hc | hc | hc | hc
        · exact hno c (by simp [hc])
        · simp at hc; omega
        · simp at hc; omega
        · exact hno c (by simp [hc])
  · intro hne
    have hN : N ≠ [] := by
      intro e
      subst e
      apply hne
      apply List.eq_nil_of_length_eq_zero
      rw [joinN_len]; rfl
    obtain ⟨c, q, e⟩ := h.first hN
    rcases L1 with _ | ⟨y, L1⟩
    · simp at e
      exact ⟨r, L2, by rw [List.nil_append, e.1.1]; rfl⟩
    · simp at e
      exact ⟨c, L1 ++ ((i : Int), r) :: L2, by rw [e.1]; rfl⟩
  · intro x hx
    rw [List.mem_append, List.mem_cons] at hx
    rcases hx with hx | rfl | hx
    · exact h.nn x (by simp [hx])
    · exact hr
    · exact h.nn x (by simp [hx])
end Go.Proofs.YtbppaiejpgdbiaaGreat

/- Layer 5 (chain): what waits; the beginning, and each step of the queue: the plain law. -/
namespace Go.Proofs.YtbppaiejpgdbiaaGreat
set_option linter.unusedVariables false
set_option linter.unusedSimpArgs false

/-- a node and the next one wait, if they may become one -/
def askQ (P : Int → Int → Option Int) (Q : List (Th Wt)) (turn i a : Int) : List Nd → List (Th Wt) × Int
  | [] => (Q, turn)
  | y :: _ => match P a y.2 with
    | some r => (pushT Q ⟨r, i, turn, ⟨i, a, y.2⟩⟩, turn + 1)
    | none => (Q, turn)
/-- the last one of those ahead asks -/
def askL (P : Int → Int → Option Int) (Q : List (Th Wt)) (turn : Int) (p q : List Nd) : List (Th Wt) × Int :=
  match p.getLast? with
  | none => (Q, turn)
  | some x => askQ P Q turn x.1 x.2 q
section
variable {P : Int → Int → Option Int} {Q : List (Th Wt)} {turn i a : Int} {q : List Nd}
theorem askQ_mem {e : Th Wt} (h : e ∈ (askQ P Q turn i a q).1) : e ∈ Q ∨ (P e.x.a e.x.b = some e.r ∧ e.p = e.x.i ∧ e.x.i = i ∧ e.x.a = a) := by
  unfold askQ at h
  split at h
  · exact .inl h
  · split at h
    · rename_i r hr
      rcases List.mem_cons.1 ((push_perm _ _).mem_iff.1 h) with rfl | h
      · exact .inr ⟨hr, rfl, rfl, rfl⟩
      · exact .inl h
    · exact .inl h
theorem askQ_sub {e : Th Wt} (h : e ∈ Q) : e ∈ (askQ P Q turn i a q).1 := by
  unfold askQ
  split
  · exact h
  · split
    · exact (push_perm _ _).mem_iff.2 (List.mem_cons_of_mem _ h)
    · exact h
theorem askQ_has {y : Nd} {q' : List Nd} (e : q = y :: q') {r : Int} (hr : P a y.2 = some r) : ∃ e ∈ (askQ P Q turn i a q).1, e.r = r ∧ e.p = i ∧ e.x = ⟨i, a, y.2⟩ := by
  subst e
  simp only [askQ, hr]
  exact ⟨_, (push_perm _ _).mem_iff.2 (List.mem_cons_self), rfl, rfl, rfl⟩
theorem askQ_heap (h : HeapT Q) : HeapT (askQ P Q turn i a q).1 := by
  unfold askQ
  split
  · exact h
  · split
    · exact push_heap _ _ h
    · exact h
theorem askQ_len : (askQ P Q turn i a q).1.length ≤ Q.length + 1 ∧ turn ≤ (askQ P Q turn i a q).2 ∧ (askQ P Q turn i a q).2 ≤ turn + 1 := by
  unfold askQ
  split
  · exact ⟨Nat.le_succ _, by omega, by omega⟩
  · split
    · exact ⟨by rw [push_len]; omega, by omega, by omega⟩
    · exact ⟨Nat.le_succ _, by omega, by omega⟩
end
theorem askL_len {P : Int → Int → Option Int} {Q : List (Th Wt)} {turn : Int} {p q : List Nd} : (askL P Q turn p q).1.length ≤ Q.length + 1 ∧ turn ≤ (askL P Q turn p q).2 ∧ (askL P Q turn p q).2 ≤ turn + 1 := by
  unfold askL
  split
  · exact ⟨Nat.le_succ _, by omega, by omega⟩
  · exact askQ_len
structure QOk (P : Int → Int → Option Int) (n : Nat) (Q : List (Th Wt)) : Prop where
  heap : HeapT Q
  ent : ∀ e ∈ Q, P e.x.a e.x.b = some e.r ∧ e.p = e.x.i
  pos : ∀ e ∈ Q, ∃ k : Nat, e.x.i = k ∧ k < n ∧ 0 ≤ e.x.a
theorem QOk.ask {P : Int → Int → Option Int} {n : Nat} {Q : List (Th Wt)} (h : QOk P n Q) (turn a : Int) (k : Nat) (hk : k < n) (ha : 0 ≤ a) (q : List Nd) : QOk P n (askQ P Q turn k a q).1 := by
  refine ⟨askQ_heap h.heap, ?_, ?_⟩
  · intro e he
    rcases askQ_mem he with h1 | ⟨h1, h2, _⟩
    · exact h.ent e h1
    · exact ⟨h1, h2⟩
  · intro e he
    rcases askQ_mem he with h1 | ⟨h1, h2, h3, h4⟩
    · exact h.pos e h1
    · exact ⟨k, h3, hk, by rw [h4]; exact ha⟩
theorem QOk.pop {P : Int → Int → Option Int} {n : Nat} {Q : List (Th Wt)} (h : QOk P n Q) (hl : 0 < Q.length) : QOk P n (popT Q) :=
  have sub : ∀ e ∈ popT Q, e ∈ Q := fun e he => (pop_perm Q hl).mem_iff.2 (List.mem_cons_of_mem _ he)
  ⟨pop_heap _ h.heap, fun e he => h.ent e (sub e he), fun e he => h.pos e (sub e he)⟩

/-! the beginning -/
/-- the first k nodes have asked -/
structure BegS (P : Int → Int → Option Int) (L : List Nd) (n k : Nat) (Q : List (Th Wt)) (turn : Int) : Prop where
  q : QOk P n Q
  com : ∀ (i a j b : Int) (p q : List Nd), L = p ++ (i, a) :: (j, b) :: q → p.length < k → ∀ r, P a b = some r → ∃ e ∈ Q, e.r = r ∧ e.p = i ∧ e.x = ⟨i, a, b⟩
  size : Q.length ≤ k
  turn : 0 ≤ turn ∧ turn ≤ k
theorem BegS.start (P : Int → Int → Option Int) (L : List Nd) (n : Nat) : BegS P L n 0 [] 0 := by
  refine ⟨⟨?_, by simp, by simp⟩, fun i a j b p q e h => by omega, by simp, by omega⟩
  intro j hj
  simp at hj
theorem BegS.ask {P : Int → Int → Option Int} {L : List Nd} {n : Nat} {Q : List (Th Wt)} {turn : Int} {p q : List Nd} {i : Nat} {a : Int} (h : BegS P L n p.length Q turn) (e : L = p ++ ((i : Int), a) :: q) (hi : i < n) (ha : 0 ≤ a) :
    BegS P L n (p.length + 1) (askQ P Q turn i a q).1 (askQ P Q turn i a q).2 := by
  have hl := askQ_len (P := P) (Q := Q) (turn := turn) (i := i) (a := a) (q := q)
  refine ⟨h.q.ask turn a i hi ha q, ?_, ?_, ?_⟩
  · intro i' a' j b p' q' e' hk r hr
    by_cases hlt : p'.length < p.length
    · obtain ⟨x, hx, h3⟩ := h.com i' a' j b p' q' e' hlt r hr
      exact ⟨x, askQ_sub hx, h3⟩
    · have hpl : p'.length = p.length := by omega
      rw [e] at e'
      obtain ⟨rfl, e2⟩ := List.append_inj e' hpl.symm
      simp only [List.cons.injEq, Prod.mk.injEq] at e2
      obtain ⟨⟨e3, rfl⟩, e4⟩ := e2
      rw [← e3]
      exact askQ_has e4 hr
  · have := h.size; omega
  · have := h.turn; omega
theorem BegS.mach {P : Int → Int → Option Int} {L : List Nd} {n : Nat} {Q : List (Th Wt)} {turn : Int} (h : BegS P L n L.length Q turn) (hs : L.Pairwise (fun x y => x.1 < y.1)) : Mach P L Q :=
  ⟨h.q.ent, fun i a j b p q e r hr => h.com i a j b p q e (by rw [e]; simp) r hr, hs⟩

/-! the queue, step by step -/
structure RunS (P : Int → Int → Option Int) (M : List (Int × Int)) (ids0 : List Int) (N : List Node) (L : List Nd) (Q : List (Th Wt)) (turn steps : Int) (n : Nat) : Prop where
  lives : Lives N L
  nlen : N.length = n
  mach : Mach P L Q
  q : QOk P n Q
  same : seqE M 256 (idsC L) = seqE M 256 ids0
  pos : 0 ≤ steps
  steps : steps + L.length = n
  size : Q.length + 3 * L.length ≤ 4 * n
  turn : 0 ≤ turn ∧ turn + 2 * L.length ≤ 3 * n
theorem RunS.start {P : Int → Int → Option Int} {M : List (Int × Int)} {N : List Node} {L : List Nd} {Q : List (Th Wt)} {turn : Int} (hl : Lives N L) (hn : N.length = L.length) (h : BegS P L L.length L.length Q turn) : RunS P M (idsC L) N L Q turn 0 L.length :=
  ⟨hl, hn, h.mach hl.srt, h.q, rfl, Int.le_refl _, by omega, by have := h.size; omega, by have := h.turn; omega⟩
theorem RunS.fin {P : Int → Int → Option Int} {M : List (Int × Int)} {ids0 : List Int} {N : List Node} {L : List Nd} {turn steps : Int} {n : Nat} (h : RunS P M ids0 N L [] turn steps n)
    (hP : ∀ a b r, P a b = some r ↔ ∃ k : Nat, M[k]? = some (a, b) ∧ r = 256 + k) : idsC L = seqE M 256 ids0 ∧ steps = n - (seqE M 256 ids0).length := by
  have h1 := done_same hP h.mach
  rw [h.same] at h1
  refine ⟨h1.symm, ?_⟩
  rw [h1]
  have := h.steps
  unfold idsC
  rw [List.length_map]
  omega
/-- what waits is stale: passed over -/
theorem RunS.drop {P : Int → Int → Option Int} {M : List (Int × Int)} {ids0 : List Int} {N : List Node} {L : List Nd} {Q : List (Th Wt)} {turn steps : Int} {n : Nat} (h : RunS P M ids0 N L Q turn steps n) (hl : 0 < Q.length)
    (hs : ∀ p j q, L ≠ p ++ (Q[0].x.i, Q[0].x.a) :: (j, Q[0].x.b) :: q) : RunS P M ids0 N L (popT Q) turn steps n :=
  ⟨h.lives, h.nlen, h.mach.stale (pop_perm Q hl) hs, h.q.pop hl, h.same, h.pos, h.steps, by rw [pop_len]; have := h.size; omega, h.turn⟩
theorem RunS.join {P : Int → Int → Option Int} {M : List (Int × Int)} {ids0 : List Int} {N : List Node} {L1 L2 : List Nd} {Q : List (Th Wt)} {turn steps : Int} {n i j : Nat} {a b : Int}
    (h : RunS P M ids0 N (L1 ++ ((i : Int), a) :: ((j : Int), b) :: L2) Q turn steps n) (hl : 0 < Q.length) (hx : Q[0].x = ⟨i, a, b⟩)
    (hP : ∀ a b r, P a b = some r ↔ ∃ k : Nat, M[k]? = some (a, b) ∧ r = 256 + k) (hM : OkM M 256) (hr : Q[0].r < 1000000) :
    RunS P M ids0 (joinN N i j Q[0].r (kOf L2)) (L1 ++ ((i : Int), Q[0].r) :: L2)
      (askQ P (askL P (popT Q) turn L1 (((i : Int), Q[0].r) :: L2)).1 (askL P (popT Q) turn L1 (((i : Int), Q[0].r) :: L2)).2 i Q[0].r L2).1
      (askQ P (askL P (popT Q) turn L1 (((i : Int), Q[0].r) :: L2)).1 (askL P (popT Q) turn L1 (((i : Int), Q[0].r) :: L2)).2 i Q[0].r L2).2 (steps + 1) n := by
  have hp := pop_perm Q hl
  have hmem : Q[0] ∈ Q := List.getElem_mem _
  have hmin : ∀ e ∈ Q, leT Q[0] e := by
    intro e he
    obtain ⟨j', hj', rfl⟩ := List.getElem_of_mem he
    exact heap_min Q h.q.heap j' hj'
  have he0 := h.q.ent Q[0] hmem
  obtain ⟨k0, hk0, hr0⟩ := (hP _ _ _).1 he0.1
  have hr1 : 0 ≤ Q[0].r := by omega
  have hlives := h.lives.join (r := Q[0].r) ⟨hr1, hr⟩
  have hsame := join_same hP hM h.mach hmem hmin hx
  have hqp := h.q.pop hl
  generalize hR : Q[0].r = R at *
  generalize hQ1 : askL P (popT Q) turn L1 (((i : Int), R) :: L2) = Q1 at *
  have hplace : ∀ x ∈ L1 ++ ((i : Int), R) :: L2, ∃ k : Nat, x.1 = k ∧ k < n ∧ 0 ≤ x.2 := by
    intro x hx
    obtain ⟨k, h1, h2⟩ := hlives.place hx
    rw [joinN_len, h.nlen] at h2
    exact ⟨k, h1, h2, (hlives.nn x hx).1⟩
  have hl1 : QOk P n Q1.1 ∧ (∀ e ∈ popT Q, e ∈ Q1.1) ∧ Q1.1.length ≤ (popT Q).length + 1 ∧ turn ≤ Q1.2 ∧ Q1.2 ≤ turn + 1 ∧ (∀ e ∈ Q1.1, e ∈ popT Q ∨ (P e.x.a e.x.b = some e.r ∧ e.p = e.x.i)) ∧
      (∀ p i' a', L1 = p ++ [(i', a')] → ∀ r, P a' R = some r → ∃ e ∈ Q1.1, e.r = r ∧ e.p = i' ∧ e.x = ⟨i', a', R⟩) := by
    subst hQ1
    unfold askL
    rcases List.eq_nil_or_concat L1 with rfl | ⟨p', x, rfl⟩
    · refine ⟨hqp, fun e he => he, by simp, by simp, by simp; omega, fun e he => .inl he, ?_⟩
      intro p i' a' e
      simp at e
    · simp only [List.concat_eq_append, List.getLast?_concat] at *
      obtain ⟨k, hk1, hk2, hk3⟩ := hplace x (by simp)
      have hlen := askQ_len (P := P) (Q := popT Q) (turn := turn) (i := x.1) (a := x.2) (q := ((i : Int), R) :: L2)
      refine ⟨?_, fun e he => askQ_sub he, hlen.1, hlen.2.1, hlen.2.2, ?_, ?_⟩
      · rw [hk1]; exact hqp.ask turn x.2 k hk2 hk3 _
      · intro e he
        rcases askQ_mem he with h1 | ⟨h1, h2, _⟩
        · exact .inl h1
        · exact .inr ⟨h1, h2⟩
      · intro p i' a' e r hr'
        have e2 := (List.append_inj' e rfl).2
        simp at e2
        subst e2
        exact askQ_has rfl hr'
  obtain ⟨q1, q2, q3, q4, q5, q6, q7⟩ := hl1
  obtain ⟨ki, hki1, hki2, hki3⟩ := hplace ((i : Int), R) (by simp)
  have hki : i = ki := by simp at hki1; omega
  subst hki
  have hlen := askQ_len (P := P) (Q := Q1.1) (turn := Q1.2) (i := (i : Int)) (a := R) (q := L2)
  refine ⟨hlives, by rw [joinN_len]; exact h.nlen, ?_, q1.ask Q1.2 R i hki2 hr1 L2, ?_, by have := h.pos; omega, ?_, ?_, ?_⟩
  · have := Mach.join (Q'' := (askQ P Q1.1 Q1.2 i R L2).1) h.mach hp hx (fun e he => askQ_sub (q2 e he)) (fun e he => ?_) (fun p i' a' e r hr' => ?_) (fun j' b' q e r hr' => ?_)
    · rw [hR] at this
      exact this
    · rcases askQ_mem he with h1 | ⟨h1, h2, _⟩
      · exact q6 e h1
      · exact .inr ⟨h1, h2⟩
    · rw [hR] at hr' ⊢
      obtain ⟨x, hx1, hx2⟩ := q7 p i' a' e r hr'
      exact ⟨x, askQ_sub hx1, hx2⟩
    · rw [hR] at hr' ⊢
      exact askQ_has e hr'
  · rw [← hsame]; exact h.same
  · have := h.steps; simp only [List.length_append, List.length_cons] at this ⊢; omega
  · have := h.size
    have h2 := pop_len Q
    simp only [List.length_append, List.length_cons] at this ⊢; omega
  · have := h.turn; simp only [List.length_append, List.length_cons] at this ⊢; omega
end Go.Proofs.YtbppaiejpgdbiaaGreat

/- Layer 4 (token): the document's answer: a table by value. -/
namespace Go.Proofs.YtbppaiejpgdbiaaGreat
open Go.RowKit Go.Maps Go.WideMaps
set_option maxRecDepth 100000
set_option linter.unusedVariables false
set_option linter.unusedSimpArgs false

def bytsT (T : List Ent) : List (List UInt8) := T.map (·.1)
def mrgsT (T : List Ent) : List (Int × Int) := (T.drop 256).map (·.2)
/-- a table of the document's answer, by value: two lists, each with its own memory -/
structure RefIs (w : World) (base : Nat) (T : List Ent) (vb vm : Value) : Prop where
  row : w.ownsRow base 9 1 vb T.length ((bytsT T).map strV)
  mrg : w.ownsRow base 55 2 vm (mrgsT T).length ((mrgsT T).flatMap encM)
  nil : (mrgsT T).length = 0 → vm = .slice none 0 0
theorem RefIs.below {B : Nat} {w w' : World} {base : Nat} {T : List Ent} {vb vm : Value} (h : RefIs w base T vb vm) (hb : Below B w w') (hB : w.heap.size ≤ B) : RefIs w' base T vb vm := ⟨own_below h.row hb hB, own_below h.mrg hb hB, h.nil⟩
theorem RefIs.keep {F : Nat → Prop} {w w' : World} {base : Nat} {T : List Ent} {vb vm : Value} (h : RefIs w base T vb vm) (k : Keep F w w') (hF : ∀ g, F g → g < base) : RefIs w' base T vb vm :=
  ⟨own_keep h.row k (fun g hg hf => by have := own_base h.row g hg; have := hF g hf; omega), own_keep h.mrg k (fun g hg hf => by have := own_base h.mrg g hg; have := hF g hf; omega), h.nil⟩
theorem RefIs.less {w : World} {b base : Nat} {T : List Ent} {vb vm : Value} (h : RefIs w b T vb vm) (hle : base ≤ b) : RefIs w base T vb vm := ⟨own_less h.row hle, own_less h.mrg hle, h.nil⟩

end Go.Proofs.YtbppaiejpgdbiaaGreat

/- Layer 4 (token): the document's answer: Add, where it adds nothing. -/
namespace Go.Proofs.YtbppaiejpgdbiaaGreat
open Go.RowKit Go.Maps Go.WideMaps
set_option maxRecDepth 100000
set_option linter.unusedVariables false
set_option linter.unusedSimpArgs false

/-- Add's own memory: the table, the merge, the result -/
structure RAdd (w W : World) (base : Nat) (T : List Ent) (A : Option Addr) (c : Nat) (A2 : Option Addr) (c2 : Nat) (a b : Int) (r0 r1 r2 : Nat) : Prop where
  t : W.heap[r0]? = some (.cells #[.slice A T.length c, .slice A2 (mrgsT T).length c2] 34)
  m : W.heap[r1]? = some (.cells #[.int .i64 a, .int .i64 b] 55)
  r : W.heap[r2]? = some (.cells #[.slice none 0 0, .slice none 0 0] 34)
  ref : RefIs W base T (.slice A T.length c) (.slice A2 (mrgsT T).length c2)
  below : Below w.heap.size w W
  le : w.heap.size ≤ r0 ∧ w.heap.size ≤ r1 ∧ w.heap.size ≤ r2
theorem RAdd.step {w W W' : World} {base : Nat} {T : List Ent} {A : Option Addr} {c : Nat} {A2 : Option Addr} {c2 : Nat} {a b : Int} {r0 r1 r2 : Nat} (h : RAdd w W base T A c A2 c2 a b r0 r1 r2) (hb : Below W.heap.size W W') : RAdd w W' base T A c A2 c2 a b r0 r1 r2 :=
  ⟨blk_below hb (blk_lt h.t) h.t, blk_below hb (blk_lt h.m) h.m, blk_below hb (blk_lt h.r) h.r, h.ref.below hb (Nat.le_refl _), h.below.trans (hb.mono h.below.size), h.le⟩
theorem RAdd.drewN {w W : World} {base : Nat} {T : List Ent} {A : Option Addr} {c : Nat} {A2 : Option Addr} {c2 : Nat} {a b : Int} {r0 r1 r2 : Nat} (h : RAdd w W base T A c A2 c2 a b r0 r1 r2) (n : Nat) : RAdd w (W.drewN n) base T A c A2 c2 a b r0 r1 r2 := h.step (below_drewN (Below.refl _ _) n)
theorem RAdd.cells {w W : World} {base : Nat} {T : List Ent} {A : Option Addr} {c : Nat} {A2 : Option Addr} {c2 : Nat} {a b : Int} {r0 r1 r2 : Nat} (h : RAdd w W base T A c A2 c2 a b r0 r1 r2) :
    W.cell? ⟨r0, 0, none⟩ = some (.slice A T.length c) ∧ W.cell? ⟨r0, 1, none⟩ = some (.slice A2 (mrgsT T).length c2) ∧ W.cell? ⟨r1, 0, none⟩ = some (.int .i64 a) ∧ W.cell? ⟨r1, 1, none⟩ = some (.int .i64 b) ∧
    W.cell? ⟨r2, 0, none⟩ = some (.slice none 0 0) ∧ W.cell? ⟨r2, 1, none⟩ = some (.slice none 0 0) ∧ W.frozen? ⟨r2, 0, none⟩ = false ∧ W.frozen? ⟨r2, 1, none⟩ = false :=
  ⟨blk_cell h.t 0, blk_cell h.t 1, blk_cell h.m 0, blk_cell h.m 1, blk_cell h.r 0, blk_cell h.r 1, blk_froz h.r 0, blk_froz h.r 1⟩
/-- the result is what came in -/
theorem RAdd.same {w W : World} {base : Nat} {T : List Ent} {A : Option Addr} {c : Nat} {A2 : Option Addr} {c2 : Nat} {a b : Int} {r0 r1 r2 : Nat} (h : RAdd w W base T A c A2 c2 a b r0 r1 r2) :
    ((W.setCell ⟨r2, 0, none⟩ (.slice A T.length c)).setCell ⟨r2, 1, none⟩ (.slice A2 (mrgsT T).length c2)).heap[r2]? = some (.cells #[.slice A T.length c, .slice A2 (mrgsT T).length c2] 34) ∧
    Below w.heap.size w ((W.setCell ⟨r2, 0, none⟩ (.slice A T.length c)).setCell ⟨r2, 1, none⟩ (.slice A2 (mrgsT T).length c2)) ∧
    RefIs ((W.setCell ⟨r2, 0, none⟩ (.slice A T.length c)).setCell ⟨r2, 1, none⟩ (.slice A2 (mrgsT T).length c2)) base T (.slice A T.length c) (.slice A2 (mrgsT T).length c2) := by
  have K3 : ∀ (W : World) (i : Nat) (u : Value), Keep (fun g => g = r2) W (W.setCell ⟨r2, i, none⟩ u) := fun W i u => Keep.setCell (F := fun g => g = r2) (p := ⟨r2, i, none⟩) (Keep.refl _ _) (Or.inl rfl) _
  refine ⟨by simpa using blk_set (blk_set h.r 0 _) 1 _, (h.below.setCell (p := ⟨r2, 0, none⟩) h.le.2.2 _).setCell (p := ⟨r2, 1, none⟩) h.le.2.2 _, ?_, ?_, h.ref.nil⟩
  · exact own_keep (own_keep h.ref.row (K3 _ 0 _) (fun g hg e => row_ne h.ref.row h.r (by decide) (by rw [hg, e]))) (K3 _ 1 _) (fun g hg e => row_ne h.ref.row h.r (by decide) (by rw [hg, e]))
  · exact own_keep (own_keep h.ref.mrg (K3 _ 0 _) (fun g hg e => row_ne h.ref.mrg h.r (by decide) (by rw [hg, e]))) (K3 _ 1 _) (fun g hg e => row_ne h.ref.mrg h.r (by decide) (by rw [hg, e]))
end Go.Proofs.YtbppaiejpgdbiaaGreat

/- Layer 4 (token): what the document's Grow makes, as plain lists. -/
namespace Go.Proofs.YtbppaiejpgdbiaaGreat

/-- a number as a token: where it is beyond the tokens it is one of those that were made -/
def foldT (T : List Ent) (x : Nat) : Nat := if x % (T.length + (T.length - 256)) ≥ T.length then 256 + x % (T.length + (T.length - 256)) - T.length else x % (T.length + (T.length - 256))
def growStep (T : List Ent) (x y : Nat) : List Ent := if (addT T (foldT T x : Nat) (foldT T y : Nat)).2.1 = 0 then (addT T (foldT T x : Nat) (foldT T y : Nat)).2.2 else T
/-- the table behind j rounds -/
def growT (l : List Nat) : Nat → List Ent
  | 0 => baseT
  | j + 1 => growStep (growT l j) (l.getD (2 * j) 0) (l.getD (2 * j + 1) 0)
theorem okT_256 {T : List Ent} (h : OkT T) : 256 ≤ T.length := by
  obtain ⟨M, hM⟩ := h.base
  rw [hM, List.length_append, base_len]
  omega
theorem mrgs_len {T : List Ent} : (mrgsT T).length = T.length - 256 := by simp [mrgsT]
end Go.Proofs.YtbppaiejpgdbiaaGreat

/- Layer 4 (token): the document's Grow. -/
namespace Go.Proofs.YtbppaiejpgdbiaaGreat
open Go.RowKit Go.Maps Go.WideMaps
set_option maxRecDepth 100000
set_option linter.unusedVariables false
set_option linter.unusedSimpArgs false

/-- Grow's memory behind j rounds: the result, the table -/
structure GrowIs (w W : World) (l : List Nat) (r tb j : Nat) : Prop where
  ex : ∃ A c A2 c2, W.heap[tb]? = some (.cells #[.slice A (growT l j).length c, .slice A2 (mrgsT (growT l j)).length c2] 34) ∧ RefIs W w.heap.size (growT l j) (.slice A (growT l j).length c) (.slice A2 (mrgsT (growT l j)).length c2)
  res : W.heap[r]? = some (.cells #[.slice none 0 0, .slice none 0 0] 34)
  below : Below w.heap.size w W
  le : w.heap.size ≤ r ∧ w.heap.size ≤ tb
  ne : r ≠ tb
theorem grow_start {w w1 : World} {l : List Nat} {A1 : Option Addr} {c1 : Nat} (hr : RefIs w1 (w.alloc (.cells #[.slice none 0 0, .slice none 0 0] 34)).heap.size baseT (.slice A1 baseT.length c1) (.slice none 0 0))
    (hb : Below (w.alloc (.cells #[.slice none 0 0, .slice none 0 0] 34)).heap.size (w.alloc (.cells #[.slice none 0 0, .slice none 0 0] 34)) w1) :
    GrowIs w (w1.alloc (.cells #[.slice A1 baseT.length c1, .slice none 0 0] 34)) l w.heap.size w1.heap.size 0 := by
  have e0 : (mrgsT (growT l 0)).length = 0 := by rw [mrgs_len]; simp [growT, base_len]
  have hb2 := (Below.refl w1.heap.size w1).alloc (Nat.le_refl _) (.cells #[.slice A1 baseT.length c1, .slice none 0 0] 34)
  have hr2 := (hr.below hb2 (Nat.le_refl _)).less (base := w.heap.size) (by simp)
  have hsz := hb.size
  rw [size_alloc] at hsz
  refine ⟨⟨A1, c1, none, 0, ?_, ?_⟩, blk_alloc (blk_below hb (by simp) (blk_new w _)) _, ?_, ⟨Nat.le_refl _, by omega⟩, by omega⟩
  · rw [e0]; exact blk_new w1 _
  · rw [e0]; exact hr2
  · exact (((Below.refl w.heap.size w).alloc (Nat.le_refl _) _).trans (hb.mono (by simp))).alloc (by omega) _

theorem GrowIs.ok {w W w2 : World} {l : List Nat} {r tb j n m c c2 : Nat} {A A2 : Option Addr} (h : GrowIs w W l r tb j) (hb : Below W.heap.size W w2) (href : RefIs w2 w.heap.size (growT l (j + 1)) (.slice A n c) (.slice A2 m c2)) (o : Obj) :
    GrowIs w (((w2.alloc o).setCell ⟨tb, 0, none⟩ (.slice A n c)).setCell ⟨tb, 1, none⟩ (.slice A2 m c2)) l r tb (j + 1) := by
  obtain ⟨A0, c0, A20, c20, hbk, _⟩ := h.ex
  have hb2 := hb.alloc hb.size o
  have en : n = (growT l (j + 1)).length := by obtain ⟨_, _, e⟩ := own_slice href.row; injection e
  have em : m = (mrgsT (growT l (j + 1))).length := by obtain ⟨_, _, e⟩ := own_slice href.mrg; injection e
  subst en; subst em
  have hr1 := href.below ((Below.refl w2.heap.size w2).alloc (Nat.le_refl _) o) (Nat.le_refl _)
  have b1 := blk_set (blk_set (blk_below hb2 (blk_lt hbk) hbk) 0 (.slice A (growT l (j + 1)).length c)) 1 (.slice A2 (mrgsT (growT l (j + 1))).length c2)
  simp only [List.setIfInBounds_toArray, List.set_cons_zero, List.set_cons_succ] at b1
  have K3 : ∀ (W : World) (i : Nat) (u : Value), Keep (fun g => g = tb) W (W.setCell ⟨tb, i, none⟩ u) := fun W i u => Keep.setCell (F := fun g => g = tb) (p := ⟨tb, i, none⟩) (Keep.refl _ _) (Or.inl rfl) _
  have hk1 := blk_below hb2 (blk_lt hbk) hbk
  refine ⟨⟨A, c, A2, c2, b1, ?_, ?_, hr1.nil⟩, blk_far (p := ⟨tb, 1, none⟩) (blk_far (p := ⟨tb, 0, none⟩) (blk_below hb2 (blk_lt h.res) h.res) h.ne _) h.ne _, ((h.below.trans (hb2.mono h.below.size)).setCell (p := ⟨tb, 0, none⟩) h.le.2 _).setCell (p := ⟨tb, 1, none⟩) h.le.2 _, h.le, h.ne⟩
  · exact own_keep (own_keep hr1.row (K3 _ 0 _) (fun g hg e => row_ne hr1.row hk1 (by decide) (by rw [hg, e]))) (K3 _ 1 _) (fun g hg e => row_ne hr1.row hk1 (by decide) (by rw [hg, e]))
  · exact own_keep (own_keep hr1.mrg (K3 _ 0 _) (fun g hg e => row_ne hr1.mrg hk1 (by decide) (by rw [hg, e]))) (K3 _ 1 _) (fun g hg e => row_ne hr1.mrg hk1 (by decide) (by rw [hg, e]))
theorem GrowIs.fin {w W : World} {l : List Nat} {r tb j n m c c2 : Nat} {A A2 : Option Addr} (h : GrowIs w W l r tb j) (href : RefIs W w.heap.size (growT l j) (.slice A n c) (.slice A2 m c2)) :
    ((W.setCell ⟨r, 0, none⟩ (.slice A n c)).setCell ⟨r, 1, none⟩ (.slice A2 m c2)).heap[r]? = some (.cells #[.slice A n c, .slice A2 m c2] 34) ∧ Below w.heap.size w ((W.setCell ⟨r, 0, none⟩ (.slice A n c)).setCell ⟨r, 1, none⟩ (.slice A2 m c2)) ∧
      RefIs ((W.setCell ⟨r, 0, none⟩ (.slice A n c)).setCell ⟨r, 1, none⟩ (.slice A2 m c2)) w.heap.size (growT l j) (.slice A n c) (.slice A2 m c2) := by
  have b1 := blk_set (blk_set h.res 0 (.slice A n c)) 1 (.slice A2 m c2)
  simp only [List.setIfInBounds_toArray, List.set_cons_zero, List.set_cons_succ] at b1
  have K3 : ∀ (W : World) (i : Nat) (u : Value), Keep (fun g => g = r) W (W.setCell ⟨r, i, none⟩ u) := fun W i u => Keep.setCell (F := fun g => g = r) (p := ⟨r, i, none⟩) (Keep.refl _ _) (Or.inl rfl) _
  have n1 := blk_set h.res 0 (.slice A n c)
  refine ⟨b1, (h.below.setCell (p := ⟨r, 0, none⟩) h.le.1 _).setCell (p := ⟨r, 1, none⟩) h.le.1 _, ?_, ?_, href.nil⟩
  · exact own_keep (own_keep href.row (K3 _ 0 _) (fun g hg e => row_ne href.row h.res (by decide) (by rw [hg, e]))) (K3 _ 1 _) (fun g hg e => row_ne href.row h.res (by decide) (by rw [hg, e]))
  · exact own_keep (own_keep href.mrg (K3 _ 0 _) (fun g hg e => row_ne href.mrg h.res (by decide) (by rw [hg, e]))) (K3 _ 1 _) (fun g hg e => row_ne href.mrg h.res (by decide) (by rw [hg, e]))

theorem GrowIs.drewN {w W : World} {l : List Nat} {r tb j : Nat} (h : GrowIs w W l r tb j) (n : Nat) : GrowIs w (W.drewN n) l r tb j := by
  obtain ⟨A, c, A2, c2, hbk, href⟩ := h.ex
  exact ⟨⟨A, c, A2, c2, hbk, href.row, href.mrg, href.nil⟩, h.res, below_drewN h.below n, h.le, h.ne⟩

end Go.Proofs.YtbppaiejpgdbiaaGreat

/- Layer 4 (token): what is grown can be added again; a made token's parents. -/
namespace Go.Proofs.YtbppaiejpgdbiaaGreat
open Go.RowKit Go.Maps Go.WideMaps
set_option linter.unusedVariables false
set_option linter.unusedSimpArgs false

theorem base_ent {T : List Ent} (h : OkT T) {i : Nat} (hi : i < 256) : entT T (i : Int) = ([UInt8.ofNat i], -1, -1) := by
  obtain ⟨M, hM⟩ := h.base
  have h2 := okT_256 h
  rw [entT_nat _ _ (by omega)]
  have h0 : (baseT ++ M)[i]? = some ([UInt8.ofNat i], -1, -1) := by
    rw [List.getElem?_append_left (by rw [base_len]; exact hi), List.getElem?_eq_getElem (by rw [base_len]; exact hi), base_at i hi]
  rw [← hM, List.getElem?_eq_getElem (by omega)] at h0
  exact Option.some.inj h0

/-- of a token that was made: its parents are there, its bytes are theirs, it is their token -/
theorem made_all {T : List Ent} (h : OkT T) {i : Nat} (h1 : 256 ≤ i) (h2 : i < T.length) :
    bornT T (i : Int) = true ∧ hasT T (parT T (i : Int)).1 = true ∧ hasT T (parT T (i : Int)).2 = true ∧ hasT T (i : Int) = true ∧
    bytesT T (i : Int) = bytesT T (parT T (i : Int)).1 ++ bytesT T (parT T (i : Int)).2 ∧ pairT T (parT T (i : Int)) = some i ∧
    0 ≤ (parT T (i : Int)).1 ∧ 0 ≤ (parT T (i : Int)).2 ∧ (parT T (i : Int)).1 < i ∧ (parT T (i : Int)).2 < i := by
  obtain ⟨q1, q2, q3, q4, q5⟩ := h.made i h1 h2
  have hi : hasT T (i : Int) = true := by simp [hasT]; omega
  have hne : (entT T (i : Int)).2 ≠ (-1, -1) := by intro e; rw [e] at q1; simp at q1
  have hborn : bornT T (i : Int) = true := by
    unfold bornT
    rw [hi]
    simpa using hne
  have hpar : parT T (i : Int) = (entT T (i : Int)).2 := by unfold parT; rw [if_pos hborn]
  rw [hpar]
  have ha : hasT T (entT T (i : Int)).2.1 = true := by simp [hasT]; omega
  have hb : hasT T (entT T (i : Int)).2.2 = true := by simp [hasT]; omega
  refine ⟨hborn, ha, hb, hi, ?_, ?_, q1, q3, q2, q4⟩
  · unfold bytesT
    rw [if_pos hi, if_pos ha, if_pos hb]
    exact q5
  · unfold pairT
    rw [List.findIdx?_eq_some_iff_getElem]
    refine ⟨h2, ?_, ?_⟩
    · rw [entT_nat _ _ h2] at hne ⊢
      simpa using hne
    · intro j hj
      rw [Bool.not_eq_true, Bool.eq_false_iff]
      intro hh
      simp only [Bool.and_eq_true, beq_iff_eq] at hh
      have hjl : j < T.length := by omega
      by_cases hj2 : j < 256
      · have := base_ent h hj2
        rw [entT_nat _ _ hjl] at this
        rw [this] at hh
        exact hne hh.1.symm
      · obtain ⟨p1, p2, p3, p4, p5⟩ := h.made j (by omega) hjl
        have e2 : (entT T (j : Int)).2 = (entT T (i : Int)).2 := by rw [entT_nat _ _ hjl]; exact hh.1
        rw [e2, ← q5] at p5
        have := h.nodup j i hjl h2 p5
        omega

end Go.Proofs.YtbppaiejpgdbiaaGreat

/- Layer 5 (chain): a chain in memory: its nodes, its queue, the table; asks. -/
namespace Go.Proofs.YtbppaiejpgdbiaaGreat
open Go.RowKit Go.Maps Go.WideMaps
set_option maxRecDepth 100000
set_option linter.unusedVariables false
set_option linter.unusedSimpArgs false

def encN (x : Node) : List Value := [.int .i64 x.1, .int .i64 x.2.1, .int .i64 x.2.2]
theorem encN_len (x : Node) : (encN x).length = 3 := rfl
theorem info_node : (Tryz.prog.info? 266).map (fun i => (i.zero, i.size, i.bytes)) = some (some (.agg #[.int .i64 0, .int .i64 0, .int .i64 0]), 3, 24) := by kernel_rfl
theorem flat_modify (N : List Node) (f : Node → Node) (o : Nat) (v : Node → Value) (hf : ∀ x, encN (f x) = (encN x).set o (v x)) (ho : o < 3) : ∀ (k : Nat) (x : Node), N[k]? = some x → (N.modify k f).flatMap encN = (N.flatMap encN).set (k * 3 + o) (v x) := by
  induction N with
  | nil => intro k x h; simp at h
  | cons a N ih =>
    intro k x h
    cases k with
    | zero =>
      simp at h
      subst h
      simp only [List.modify_zero_cons, List.flatMap_cons, hf]
      rw [List.set_append_left _ _ (by rw [encN_len]; omega)]
      congr 1
      simp
    | succ k =>
      simp at h
      simp only [List.modify_succ_cons, List.flatMap_cons, ih k x h]
      have e : (k + 1) * 3 + o = (encN a).length + (k * 3 + o) := by rw [encN_len]; omega
      rw [e, List.set_append_right _ _ (Nat.le_add_right _ _), Nat.add_sub_cancel_left]
theorem flat_id (N : List Node) (u : Int) (k : Nat) (hk : k < N.length) : (N.modify k (idN u)).flatMap encN = (N.flatMap encN).set (k * 3) (.int .i64 u) :=
  flat_modify N (idN u) 0 (fun _ => .int .i64 u) (fun x => rfl) (by omega) k N[k] (List.getElem?_eq_getElem hk)
theorem flat_ahead (N : List Node) (u : Int) (k : Nat) (hk : k < N.length) : (N.modify k (aheadN u)).flatMap encN = (N.flatMap encN).set (k * 3 + 1) (.int .i64 u) :=
  flat_modify N (aheadN u) 1 (fun _ => .int .i64 u) (fun x => rfl) (by omega) k N[k] (List.getElem?_eq_getElem hk)
theorem flat_next (N : List Node) (u : Int) (k : Nat) (hk : k < N.length) : (N.modify k (nextN u)).flatMap encN = (N.flatMap encN).set (k * 3 + 2) (.int .i64 u) :=
  flat_modify N (nextN u) 2 (fun _ => .int .i64 u) (fun x => rfl) (by omega) k N[k] (List.getElem?_eq_getElem hk)

/-- a chain's own block and its nodes -/
structure LinkIs (w : World) (base cb tb qb : Nat) (N : List Node) (bel steps : Int) (A : Option Addr) (c : Nat) : Prop where
  blk : w.heap[cb]? = some (.cells #[.pointer (some ⟨tb, 0, none⟩), .slice A N.length c, .pointer (some ⟨qb, 0, none⟩), .int .i64 bel, .int .i64 steps] 264)
  row : w.ownsRow base 266 3 (.slice A N.length c) N.length (N.flatMap encN)
  le : base ≤ cb
theorem LinkIs.below {B : Nat} {w w' : World} {base cb tb qb : Nat} {N : List Node} {bel steps : Int} {A : Option Addr} {c : Nat} (h : LinkIs w base cb tb qb N bel steps A c) (hb : Below B w w') (hB : w.heap.size ≤ B) : LinkIs w' base cb tb qb N bel steps A c :=
  ⟨blk_below hb (Nat.lt_of_lt_of_le (blk_lt h.blk) hB) h.blk, own_below h.row hb hB, h.le⟩
theorem LinkIs.keep {F : Nat → Prop} {w w' : World} {base cb tb qb : Nat} {N : List Node} {bel steps : Int} {A : Option Addr} {c : Nat} (h : LinkIs w base cb tb qb N bel steps A c) (k : Keep F w w') (hF : ¬ F cb) (hA : ∀ g, A = some ⟨g, 0, none⟩ → ¬ F g) : LinkIs w' base cb tb qb N bel steps A c :=
  ⟨k.blk h.blk hF, own_keep h.row k (fun g hg => hA g (hw.own_addr h.row g hg)), h.le⟩
/-- a node, where it lies -/
theorem LinkIs.at {w : World} {base cb tb qb : Nat} {N : List Node} {bel steps : Int} {A : Option Addr} {c : Nat} (h : LinkIs w base cb tb qb N bel steps A c) (i : Nat) (x : Node) (hi : N[i]? = some x) :
    ∃ g, A = some ⟨g, 0, none⟩ ∧ w.cell? ⟨g, i * 3, none⟩ = some (.int .i64 x.1) ∧ w.cell? ⟨g, i * 3 + 1, none⟩ = some (.int .i64 x.2.1) ∧ w.cell? ⟨g, i * 3 + 2, none⟩ = some (.int .i64 x.2.2) := by
  have hlt := (List.getElem?_eq_some_iff.1 hi).1
  obtain ⟨g, cap, e, _, _, _⟩ := own_open h.row (by omega)
  injection e with e1 e2 e3
  subst e1
  obtain ⟨b, o, e2, hc⟩ := (own_sl encN_len h.row (by decide)) i x hi
  injection e2 with e2
  injection e2 with e2 e3
  subst e2; subst e3
  refine ⟨_, rfl, ?_, ?_, ?_⟩
  · have := hc 0 _ rfl; simpa using this
  · have := hc 1 _ rfl; simpa using this
  · have := hc 2 _ rfl; simpa using this
theorem row_row {w : World} {b1 b2 n1 n2 s1 s2 c1 c2 : Nat} {e1 e2 : TypeId} {A1 A2 : Option Addr} {x1 x2 : List Value} (h1 : w.ownsRow b1 e1 s1 (.slice A1 n1 c1) n1 x1) (h2 : w.ownsRow b2 e2 s2 (.slice A2 n2 c2) n2 x2) (hne : e1 ≠ e2) : ∀ g, A1 = some ⟨g, 0, none⟩ → A2 ≠ some ⟨g, 0, none⟩ := by
  intro g hg1 hg2
  rcases h1.2 with ⟨q1, _⟩ | ⟨g1, cap1, cur1, q1, _, hb1, _⟩
  · injection q1 with q1; rw [hg1] at q1; cases q1
  · rcases h2.2 with ⟨q2, _⟩ | ⟨g2, cap2, cur2, q2, _, hb2, _⟩
    · injection q2 with q2; rw [hg2] at q2; cases q2
    · injection q1 with q1; rw [hg1] at q1; injection q1 with q1; injection q1 with q1; subst q1
      injection q2 with q2; rw [hg2] at q2; injection q2 with q2; injection q2 with q2; subst q2
      rw [hb1] at hb2
      injection hb2 with hb2
      injection hb2 with _ hb2 _
      exact hne hb2
theorem row_ne2 {w : World} {b1 n1 s1 c1 : Nat} {e1 e2 : TypeId} {A1 : Option Addr} {x1 : List Value} {g : Nat} {cs : Array Value} {fz : Nat × Nat} (h1 : w.ownsRow b1 e1 s1 (.slice A1 n1 c1) n1 x1) (h2 : w.heap[g]? = some (.cells cs e2 fz)) (hne : e1 ≠ e2) : A1 ≠ some ⟨g, 0, none⟩ := by
  intro hg1
  rcases h1.2 with ⟨q1, _⟩ | ⟨g1, cap1, cur1, q1, _, hb1, _⟩
  · injection q1 with q1; rw [hg1] at q1; cases q1
  · injection q1 with q1; rw [hg1] at q1; injection q1 with q1; injection q1 with q1; subst q1
    rw [hb1] at h2
    injection h2 with h2
    injection h2 with _ h2 _
    exact hne h2
theorem blk_ne {w : World} {e1 e2 : TypeId} {g1 g2 : Nat} {c1 c2 : Array Value} {f1 f2 : Nat × Nat} (h1 : w.heap[g1]? = some (.cells c1 e1 f1)) (h2 : w.heap[g2]? = some (.cells c2 e2 f2)) (hne : e1 ≠ e2) : g1 ≠ g2 := by
  rintro rfl
  rw [h1] at h2
  injection h2 with h2
  injection h2 with _ h2 _
  exact hne h2

/-- a chain, its queue and its table -/
structure ChainIs (w : World) (base tbase tb : Nat) (T : List Ent) (sv : Value) (mb mp cb qb : Nat) (N : List Node) (bel steps : Int) (A : Option Addr) (c : Nat) (Q : List (Th Wt)) (turn : Int) (Aq : Option Addr) (cq : Nat) : Prop where
  lk : LinkIs w base cb tb qb N bel steps A c
  hp : hw.HeapWs w base qb Q turn Aq cq
  tab : TabIs w tbase tb T sv mb mp
  tlt : ∀ x, tabF tb sv mb mp x → x < base
section
variable {w w' : World} {base tbase tb : Nat} {T : List Ent} {sv : Value} {mb mp cb qb : Nat} {N : List Node} {bel steps : Int} {A : Option Addr} {c : Nat} {Q : List (Th Wt)} {turn : Int} {Aq : Option Addr} {cq : Nat}
theorem ChainIs.below {B : Nat} (h : ChainIs w base tbase tb T sv mb mp cb qb N bel steps A c Q turn Aq cq) (hb : Below B w w') (hB : w.heap.size ≤ B) : ChainIs w' base tbase tb T sv mb mp cb qb N bel steps A c Q turn Aq cq :=
  ⟨h.lk.below hb hB, h.hp.below hb hB, h.tab.below hb hB, h.tlt⟩
theorem ChainIs.drew (h : ChainIs w base tbase tb T sv mb mp cb qb N bel steps A c Q turn Aq cq) : ChainIs w.drew base tbase tb T sv mb mp cb qb N bel steps A c Q turn Aq cq :=
  h.below (B := w.heap.size) ⟨rfl, rfl, rfl, Nat.le_refl _, fun _ _ => rfl⟩ (Nat.le_refl _)
theorem ChainIs.sizes (h : ChainIs w base tbase tb T sv mb mp cb qb N bel steps A c Q turn Aq cq) : base ≤ w.heap.size := Nat.le_trans h.lk.le (Nat.le_of_lt (blk_lt h.lk.blk))
/-- the queue has turned -/
theorem ChainIs.queue {Q' : List (Th Wt)} {turn' : Int} {Aq' : Option Addr} {cq' : Nat} (h : ChainIs w base tbase tb T sv mb mp cb qb N bel steps A c Q turn Aq cq) (hq : hw.HeapWs w' base qb Q' turn' Aq' cq') (k : Keep (hw.heapF qb Aq) w w') : ChainIs w' base tbase tb T sv mb mp cb qb N bel steps A c Q' turn' Aq' cq' ∧ Below base w w' := by
  have hF : ∀ g, hw.heapF qb Aq g → base ≤ g := h.hp.base
  refine ⟨⟨h.lk.keep k ?_ ?_, hq, h.tab.keep k ?_, h.tlt⟩, k.below h.sizes hF⟩
  · rintro (e | e)
    · exact blk_ne h.lk.blk h.hp.blk (by decide) e
    · exact row_ne2 h.hp.row h.lk.blk (by decide) e
  · rintro g e (e2 | e2)
    · subst e2; exact row_ne2 h.lk.row h.hp.blk (by decide) e
    · exact row_row h.lk.row h.hp.row (by decide) g e e2
  · intro x hx hx2
    have := h.tlt x hx
    have := hF x hx2
    omega
/-- the nodes, or the chain's block, have turned -/
theorem ChainIs.link {N' : List Node} {steps' : Int} {A' : Option Addr} {c' : Nat} (h : ChainIs w base tbase tb T sv mb mp cb qb N bel steps A c Q turn Aq cq) (hl : LinkIs w' base cb tb qb N' bel steps' A' c') (k : Keep (fun g => g = cb ∨ A = some ⟨g, 0, none⟩) w w') : ChainIs w' base tbase tb T sv mb mp cb qb N' bel steps' A' c' Q turn Aq cq ∧ Below base w w' := by
  have hF : ∀ g, (g = cb ∨ A = some ⟨g, 0, none⟩) → base ≤ g := by
    rintro g (e | e)
    · rw [e]; exact h.lk.le
    · exact own_base h.lk.row g (hw.addr_own e)
  refine ⟨⟨hl, h.hp.keep k ?_, h.tab.keep k ?_, h.tlt⟩, k.below h.sizes hF⟩
  · rintro g (e | e) (e2 | e2)
    · exact blk_ne h.lk.blk h.hp.blk (by decide) (e2.symm.trans e)
    · subst e; exact row_ne2 h.lk.row h.hp.blk (by decide) e2
    · subst e2; exact row_ne2 h.hp.row h.lk.blk (by decide) e
    · exact row_row h.lk.row h.hp.row (by decide) g e2 e
  · intro x hx hx2
    have := h.tlt x hx
    have := hF x hx2
    omega
end
/-- of two tokens the one that they become, below the limit -/
def pairB (T : List Ent) (bel : Int) (a b : Int) : Option Int := (pairT T (a, b)).bind (fun r => if (r : Int) < bel then some (r : Int) else none)
end Go.Proofs.YtbppaiejpgdbiaaGreat

/- Layer 5 (chain): asks. -/
namespace Go.Proofs.YtbppaiejpgdbiaaGreat
open Go.RowKit Go.Maps Go.WideMaps
set_option maxRecDepth 100000
set_option linter.unusedVariables false
set_option linter.unusedSimpArgs false

theorem askQ_none {P : Int → Int → Option Int} {Q : List (Th Wt)} {turn i a : Int} {y : Nd} {q : List Nd} (h : P a y.2 = none) : askQ P Q turn i a (y :: q) = (Q, turn) := by simp only [askQ, h]
theorem askQ_some {P : Int → Int → Option Int} {Q : List (Th Wt)} {turn i a r : Int} {y : Nd} {q : List Nd} (h : P a y.2 = some r) : askQ P Q turn i a (y :: q) = (pushT Q ⟨r, i, turn, ⟨i, a, y.2⟩⟩, turn + 1) := by simp only [askQ, h]

section
variable {w w' : World} {base tbase tb : Nat} {T : List Ent} {sv : Value} {mb mp cb qb : Nat} {N : List Node} {bel steps : Int} {A : Option Addr} {c : Nat} {Q : List (Th Wt)} {turn : Int} {Aq : Option Addr} {cq : Nat}
theorem asks_end (h : ChainIs w base tbase tb T sv mb mp cb qb N bel steps A c Q turn Aq cq) :
    Calls Tryz.prog 179 #[.pointer (some ⟨cb, 0, none⟩), .int .i64 (-1)] w fun e w' => e = .returned (.tuple #[]) ∧ w' = w := by
  clear h
  go_enter Tryz.func179, Tryz.ntmps179
  go_wp2_with fail
  (try simp only [Exit.inBlock, Exit.then])
  refine bodyPost_ret (results_none rfl _ _ _) rfl ?_
  exact ⟨rfl, rfl⟩
theorem asks_last (h : ChainIs w base tbase tb T sv mb mp cb qb N bel steps A c Q turn Aq cq) (i : Nat) (a p : Int) (hi : N[i]? = some (a, p, -1)) :
    Calls Tryz.prog 179 #[.pointer (some ⟨cb, 0, none⟩), .int .i64 (i : Int)] w fun e w' => e = .returned (.tuple #[]) ∧ w' = w := by
  have hlt := (List.getElem?_eq_some_iff.1 hi).1
  obtain ⟨g, rfl, a0, a1, a2⟩ := h.lk.at i _ hi
  have h1 := blk_cell h.lk.blk 1
  simp only [List.getElem?_toArray, List.getElem?_cons_zero, List.getElem?_cons_succ] at h1 a2
  have p0 : (0 : Int) ≤ (i : Int) := by omega
  have p1 : (i : Int) < (N.length : Int) := by omega
  have q1 : ((i : Int) == -1) = false := by simp
  clear hi h a0 a1
  go_enter Tryz.func179, Tryz.ntmps179
  go_wp2_with fail
  (try simp only [Exit.inBlock, Exit.then])
  refine bodyPost_ret (results_none rfl _ _ _) rfl ?_
  exact ⟨rfl, rfl⟩
set_option maxHeartbeats 4000000 in
theorem asks_two (h : ChainIs w base tbase tb T sv mb mp cb qb N bel steps A c Q turn Aq cq) (i j : Nat) (a p : Int) (b : Int) (y : Int × Int) (hi : N[i]? = some (a, p, (j : Int))) (hj : N[j]? = some (b, y))
    (ha : (Lit.int .i64 a).wf = true) (hb : (Lit.int .i64 b).wf = true) (hQ : Q.length < 1000000000) (ht0 : 0 ≤ turn) (ht1 : turn < 1000000000000000000) (R : List (Th Wt) × Int) (hR : askQ (pairB T bel) Q turn i a [((j : Int), b)] = R) :
    Calls Tryz.prog 179 #[.pointer (some ⟨cb, 0, none⟩), .int .i64 (i : Int)] w fun e w' => e = .returned (.tuple #[]) ∧ (∃ Aq' cq', ChainIs w' base tbase tb T sv mb mp cb qb N bel steps A c R.1 R.2 Aq' cq') ∧ Below base w w' := by
  have hlt := (List.getElem?_eq_some_iff.1 hi).1
  have hlt2 := (List.getElem?_eq_some_iff.1 hj).1
  obtain ⟨g, rfl, a0, a1, a2⟩ := h.lk.at i _ hi
  obtain ⟨g', e, b0, b1, b2⟩ := h.lk.at j _ hj
  injection e with e
  injection e with e
  subst e
  have h1 := blk_cell h.lk.blk 1
  simp only [List.getElem?_toArray, List.getElem?_cons_zero, List.getElem?_cons_succ] at h1 a0 a2 b0
  have p0 : (0 : Int) ≤ (i : Int) := by omega
  have p1 : (i : Int) < (N.length : Int) := by omega
  have p2 : (0 : Int) ≤ (j : Int) := by omega
  have p3 : (j : Int) < (N.length : Int) := by omega
  have q1 : ((i : Int) == -1) = false := by simp
  have q2 : ((j : Int) == -1) = false := by simp
  have HH := Lib.hid h
  have HR := Lib.hid hR
  clear hi hj h a1 b1 b2 hR
  go_enter Tryz.func179, Tryz.ntmps179
  go_upto_region 1 with fail
  refine wp_region_D (Ds := [25]) (S := fun V => V.cell? ⟨cb, 1, none⟩ = some (.slice (some ⟨g, 0, none⟩) N.length c) ∧ V.cell? ⟨g, i * 3, none⟩ = some (.int .i64 a) ∧ V.cell? ⟨g, i * 3 + 2, none⟩ = some (.int .i64 (j : Int)) ∧ V.cell? ⟨g, j * 3, none⟩ = some (.int .i64 b)) (by kernel_rfl) (by exact ⟨h1, a0, a2, b0⟩) (fun hHeld => ?_)
  (have HD := Lib.hid HH.out.drew); (have HB0 : Hid (Below w.heap.size w w.drew) := Lib.hid ⟨rfl, rfl, rfl, Nat.le_refl _, fun _ _ => rfl⟩); generalize w.drew = W0 at *
  refine wpAnyD_takeP (i := 0) (oi := { dst := some 20, op := Op.move (Operand.tmp 0), type := 248, pos := "chain.go:54", after := #[], guard := none }) (d := 20) (v := ?_) rfl rfl (by kernel_rfl) (by kernel_rfl) (by kernel_rfl) (fun _ _ _ h => h) (Or.inl ⟨by rfl, ?_⟩) ?_
  rotate_left
  · (intro w' _; go_simp; (try with_reducible rfl))
  simp only [List.setIfInBounds_toArray, List.set_cons_zero, List.set_cons_succ]
  refine wpAnyD_takeP (i := 1) (oi := { dst := some 21, op := Op.nilCheck (Operand.tmp 20), type := 0, pos := "chain.go:54", after := #[{ on := 0, ground := Ground.data }], guard := none }) (d := 21) (v := ?_) rfl rfl (by kernel_rfl) (by kernel_rfl) (by kernel_rfl) (fun _ _ _ h => h) (Or.inl ⟨by rfl, ?_⟩) ?_
  rotate_left
  · (intro w' _; go_simp; (try with_reducible rfl))
  simp only [List.setIfInBounds_toArray, List.set_cons_zero, List.set_cons_succ]
  refine wpAnyD_takeP (i := 2) (oi := { dst := some 22, op := Op.fieldAddr 264 (Operand.tmp 21) 1, type := 0, pos := "chain.go:54", after := #[{ on := 1, ground := Ground.data }], guard := none }) (d := 22) (v := ?_) rfl rfl (by kernel_rfl) (by kernel_rfl) (by kernel_rfl) (fun _ _ _ h => h) (Or.inl ⟨by rfl, ?_⟩) ?_
  rotate_left
  · (intro w' _; go_simp; (try with_reducible rfl))
  simp only [List.setIfInBounds_toArray, List.set_cons_zero, List.set_cons_succ]
  refine wpAnyD_takeP (i := 4) (oi := { dst := some 24, op := Op.move (Operand.tmp 1), type := 3, pos := "chain.go:54", after := #[], guard := none }) (d := 24) (v := ?_) rfl rfl (by kernel_rfl) (by kernel_rfl) (by kernel_rfl) (fun _ _ _ h => h) (Or.inl ⟨by rfl, ?_⟩) ?_
  rotate_left
  · (intro w' _; go_simp; (try with_reducible rfl))
  simp only [List.setIfInBounds_toArray, List.set_cons_zero, List.set_cons_succ]
  refine wpAnyD_takeP (i := 8) (oi := { dst := some 28, op := Op.move (Operand.tmp 0), type := 248, pos := "chain.go:54", after := #[], guard := none }) (d := 28) (v := ?_) rfl rfl (by kernel_rfl) (by kernel_rfl) (by kernel_rfl) (fun _ _ _ h => h) (Or.inl ⟨by rfl, ?_⟩) ?_
  rotate_left
  · (intro w' _; go_simp; (try with_reducible rfl))
  simp only [List.setIfInBounds_toArray, List.set_cons_zero, List.set_cons_succ]
  refine wpAnyD_takeP (i := 9) (oi := { dst := some 29, op := Op.nilCheck (Operand.tmp 28), type := 0, pos := "chain.go:54", after := #[{ on := 8, ground := Ground.data }], guard := none }) (d := 29) (v := ?_) rfl rfl (by kernel_rfl) (by kernel_rfl) (by kernel_rfl) (fun _ _ _ h => h) (Or.inl ⟨by rfl, ?_⟩) ?_
  rotate_left
  · (intro w' _; go_simp; (try with_reducible rfl))
  simp only [List.setIfInBounds_toArray, List.set_cons_zero, List.set_cons_succ]
  refine wpAnyD_takeP (i := 10) (oi := { dst := some 30, op := Op.fieldAddr 264 (Operand.tmp 29) 1, type := 0, pos := "chain.go:54", after := #[{ on := 9, ground := Ground.data }], guard := none }) (d := 30) (v := ?_) rfl rfl (by kernel_rfl) (by kernel_rfl) (by kernel_rfl) (fun _ _ _ h => h) (Or.inl ⟨by rfl, ?_⟩) ?_
  rotate_left
  · (intro w' _; go_simp; (try with_reducible rfl))
  simp only [List.setIfInBounds_toArray, List.set_cons_zero, List.set_cons_succ]
  refine wpAnyD_takeP (i := 12) (oi := { dst := some 32, op := Op.move (Operand.tmp 0), type := 248, pos := "chain.go:54", after := #[], guard := none }) (d := 32) (v := ?_) rfl rfl (by kernel_rfl) (by kernel_rfl) (by kernel_rfl) (fun _ _ _ h => h) (Or.inl ⟨by rfl, ?_⟩) ?_
  rotate_left
  · (intro w' _; go_simp; (try with_reducible rfl))
  simp only [List.setIfInBounds_toArray, List.set_cons_zero, List.set_cons_succ]
  refine wpAnyD_takeP (i := 13) (oi := { dst := some 33, op := Op.nilCheck (Operand.tmp 32), type := 0, pos := "chain.go:54", after := #[{ on := 12, ground := Ground.data }], guard := none }) (d := 33) (v := ?_) rfl rfl (by kernel_rfl) (by kernel_rfl) (by kernel_rfl) (fun _ _ _ h => h) (Or.inl ⟨by rfl, ?_⟩) ?_
  rotate_left
  · (intro w' _; go_simp; (try with_reducible rfl))
  simp only [List.setIfInBounds_toArray, List.set_cons_zero, List.set_cons_succ]
  refine wpAnyD_takeP (i := 14) (oi := { dst := some 34, op := Op.fieldAddr 264 (Operand.tmp 33) 1, type := 0, pos := "chain.go:54", after := #[{ on := 13, ground := Ground.data }], guard := none }) (d := 34) (v := ?_) rfl rfl (by kernel_rfl) (by kernel_rfl) (by kernel_rfl) (fun _ _ _ h => h) (Or.inl ⟨by rfl, ?_⟩) ?_
  rotate_left
  · (intro w' _; go_simp; (try with_reducible rfl))
  simp only [List.setIfInBounds_toArray, List.set_cons_zero, List.set_cons_succ]
  refine wpAnyD_takeP (i := 16) (oi := { dst := some 36, op := Op.move (Operand.tmp 1), type := 3, pos := "chain.go:54", after := #[], guard := none }) (d := 36) (v := ?_) rfl rfl (by kernel_rfl) (by kernel_rfl) (by kernel_rfl) (fun _ _ _ h => h) (Or.inl ⟨by rfl, ?_⟩) ?_
  rotate_left
  · (intro w' _; go_simp; (try with_reducible rfl))
  simp only [List.setIfInBounds_toArray, List.set_cons_zero, List.set_cons_succ]
  refine wpAnyD_takeD (i := 3) (oi := { dst := some 23, op := Op.load 262 (Operand.tmp 22), type := 262, pos := "chain.go:54", after := #[{ on := 2, ground := Ground.data }], guard := none }) (d := 23) (v := ?_) rfl rfl (by kernel_rfl) (by kernel_rfl) (by kernel_rfl) (by kernel_rfl) (fun _ _ _ h => h) (Or.inl ⟨by rfl, ?_⟩) hHeld ?_
  rotate_left
  · (intro w' hSw; (try dsimp only at hSw); go_simp; (try with_reducible rfl))
  simp only [List.setIfInBounds_toArray, List.set_cons_zero, List.set_cons_succ]
  refine wpAnyD_takeP (i := 5) (oi := { dst := some 25, op := Op.indexAddr 262 (Operand.tmp 23) (Operand.tmp 24), type := 0, pos := "chain.go:54", after := #[{ on := 3, ground := Ground.data }, { on := 4, ground := Ground.data }], guard := none }) (d := 25) (v := ?_) rfl rfl (by kernel_rfl) (by kernel_rfl) (by kernel_rfl) (fun _ _ _ h => h) (Or.inl ⟨by rfl, ?_⟩) ?_
  rotate_left
  · (intro w' _; go_simp; (try with_reducible rfl))
  simp only [List.setIfInBounds_toArray, List.set_cons_zero, List.set_cons_succ]
  refine wpAnyD_takeP (i := 6) (oi := { dst := some 26, op := Op.fieldAddr 266 (Operand.tmp 25) 0, type := 0, pos := "chain.go:54", after := #[{ on := 5, ground := Ground.data }], guard := none }) (d := 26) (v := ?_) rfl rfl (by kernel_rfl) (by kernel_rfl) (by kernel_rfl) (fun _ _ _ h => h) (Or.inl ⟨by rfl, ?_⟩) ?_
  rotate_left
  · (intro w' _; go_simp; (try with_reducible rfl))
  simp only [List.setIfInBounds_toArray, List.set_cons_zero, List.set_cons_succ]
  refine wpAnyD_takeD (i := 7) (oi := { dst := some 27, op := Op.load 3 (Operand.tmp 26), type := 3, pos := "chain.go:54", after := #[{ on := 6, ground := Ground.data }], guard := none }) (d := 27) (v := ?_) rfl rfl (by kernel_rfl) (by kernel_rfl) (by kernel_rfl) (by kernel_rfl) (fun _ _ _ h => h) (Or.inl ⟨by rfl, ?_⟩) hHeld ?_
  rotate_left
  · (intro w' hSw; (try dsimp only at hSw); go_simp; (try with_reducible rfl))
  simp only [List.setIfInBounds_toArray, List.set_cons_zero, List.set_cons_succ]
  refine wpAnyD_takeD (i := 11) (oi := { dst := some 31, op := Op.load 262 (Operand.tmp 30), type := 262, pos := "chain.go:54", after := #[{ on := 10, ground := Ground.data }], guard := none }) (d := 31) (v := ?_) rfl rfl (by kernel_rfl) (by kernel_rfl) (by kernel_rfl) (by kernel_rfl) (fun _ _ _ h => h) (Or.inl ⟨by rfl, ?_⟩) hHeld ?_
  rotate_left
  · (intro w' hSw; (try dsimp only at hSw); go_simp; (try with_reducible rfl))
  simp only [List.setIfInBounds_toArray, List.set_cons_zero, List.set_cons_succ]
  refine wpAnyD_takeD (i := 15) (oi := { dst := some 35, op := Op.load 262 (Operand.tmp 34), type := 262, pos := "chain.go:54", after := #[{ on := 14, ground := Ground.data }], guard := none }) (d := 35) (v := ?_) rfl rfl (by kernel_rfl) (by kernel_rfl) (by kernel_rfl) (by kernel_rfl) (fun _ _ _ h => h) (Or.inl ⟨by rfl, ?_⟩) hHeld ?_
  rotate_left
  · (intro w' hSw; (try dsimp only at hSw); go_simp; (try with_reducible rfl))
  simp only [List.setIfInBounds_toArray, List.set_cons_zero, List.set_cons_succ]
  refine wpAnyD_takeP (i := 17) (oi := { dst := some 37, op := Op.indexAddr 262 (Operand.tmp 35) (Operand.tmp 36), type := 0, pos := "chain.go:54", after := #[{ on := 15, ground := Ground.data }, { on := 16, ground := Ground.data }], guard := none }) (d := 37) (v := ?_) rfl rfl (by kernel_rfl) (by kernel_rfl) (by kernel_rfl) (fun _ _ _ h => h) (Or.inl ⟨by rfl, ?_⟩) ?_
  rotate_left
  · (intro w' _; go_simp; (try with_reducible rfl))
  simp only [List.setIfInBounds_toArray, List.set_cons_zero, List.set_cons_succ]
  refine wpAnyD_takeP (i := 18) (oi := { dst := some 38, op := Op.fieldAddr 266 (Operand.tmp 37) 2, type := 0, pos := "chain.go:54", after := #[{ on := 17, ground := Ground.data }], guard := none }) (d := 38) (v := ?_) rfl rfl (by kernel_rfl) (by kernel_rfl) (by kernel_rfl) (fun _ _ _ h => h) (Or.inl ⟨by rfl, ?_⟩) ?_
  rotate_left
  · (intro w' _; go_simp; (try with_reducible rfl))
  simp only [List.setIfInBounds_toArray, List.set_cons_zero, List.set_cons_succ]
  refine wpAnyD_takeD (i := 19) (oi := { dst := some 39, op := Op.load 3 (Operand.tmp 38), type := 3, pos := "chain.go:54", after := #[{ on := 18, ground := Ground.data }], guard := none }) (d := 39) (v := ?_) rfl rfl (by kernel_rfl) (by kernel_rfl) (by kernel_rfl) (by kernel_rfl) (fun _ _ _ h => h) (Or.inl ⟨by rfl, ?_⟩) hHeld ?_
  rotate_left
  · (intro w' hSw; (try dsimp only at hSw); go_simp; (try with_reducible rfl))
  simp only [List.setIfInBounds_toArray, List.set_cons_zero, List.set_cons_succ]
  refine wpAnyD_takeP (i := 20) (oi := { dst := some 40, op := Op.indexAddr 262 (Operand.tmp 31) (Operand.tmp 39), type := 0, pos := "chain.go:54", after := #[{ on := 11, ground := Ground.data }, { on := 19, ground := Ground.data }], guard := none }) (d := 40) (v := ?_) rfl rfl (by kernel_rfl) (by kernel_rfl) (by kernel_rfl) (fun _ _ _ h => h) (Or.inl ⟨by rfl, ?_⟩) ?_
  rotate_left
  · (intro w' _; go_simp; (try with_reducible rfl))
  simp only [List.setIfInBounds_toArray, List.set_cons_zero, List.set_cons_succ]
  refine wpAnyD_takeP (i := 21) (oi := { dst := some 41, op := Op.fieldAddr 266 (Operand.tmp 40) 0, type := 0, pos := "chain.go:54", after := #[{ on := 20, ground := Ground.data }], guard := none }) (d := 41) (v := ?_) rfl rfl (by kernel_rfl) (by kernel_rfl) (by kernel_rfl) (fun _ _ _ h => h) (Or.inl ⟨by rfl, ?_⟩) ?_
  rotate_left
  · (intro w' _; go_simp; (try with_reducible rfl))
  simp only [List.setIfInBounds_toArray, List.set_cons_zero, List.set_cons_succ]
  refine wpAnyD_takeD (i := 22) (oi := { dst := some 42, op := Op.load 3 (Operand.tmp 41), type := 3, pos := "chain.go:54", after := #[{ on := 21, ground := Ground.data }], guard := none }) (d := 42) (v := ?_) rfl rfl (by kernel_rfl) (by kernel_rfl) (by kernel_rfl) (by kernel_rfl) (fun _ _ _ h => h) (Or.inl ⟨by rfl, ?_⟩) hHeld ?_
  rotate_left
  · (intro w' hSw; (try dsimp only at hSw); go_simp; (try with_reducible rfl))
  simp only [List.setIfInBounds_toArray, List.set_cons_zero, List.set_cons_succ]
  refine wpAnyD_takeP (i := 23) (oi := { dst := some 43, op := Op.build 55 #[(0, Operand.tmp 27), (1, Operand.tmp 42)], type := 55, pos := "chain.go:54", after := #[{ on := 7, ground := Ground.data }, { on := 22, ground := Ground.data }], guard := none }) (d := 43) (v := ?_) rfl rfl (by kernel_rfl) (by kernel_rfl) (by kernel_rfl) (fun _ _ _ h => h) (Or.inl ⟨by rfl, ?_⟩) ?_
  rotate_left
  · (intro w' _; go_simp; (try with_reducible rfl))
  simp only [List.setIfInBounds_toArray, List.set_cons_zero, List.set_cons_succ]
  refine wpAnyD_one (i := 24) (o := { dst := some 4, op := Op.alloc 55, type := 0, pos := "chain.go:54", after := #[], guard := none }) (by kernel_rfl) rfl (by rfl) (fun K hK => ?_)
  go_simp; have hbl := (Below.refl W0.heap.size W0).alloc (Nat.le_refl _) (.cells #[.int .i64 0, .int .i64 0] 55); have h := And.intro (below_cell hbl (Nat.le_refl _) hHeld.1) (And.intro (below_cell hbl (Nat.le_refl _) hHeld.2.1) (And.intro (below_cell hbl (Nat.le_refl _) hHeld.2.2.1) (below_cell hbl (Nat.le_refl _) hHeld.2.2.2))); clear hbl
  refine hK.out _ _ h (fun hHeld => ?_)
  clear hK K
  try simp only [Act.put, List.setIfInBounds_toArray, List.set_cons_zero, List.set_cons_succ]
  refine wpAnyD_last (D := 25) (by decide) (o := { dst := none, op := Op.store 55 (Operand.tmp 4) (Operand.tmp 43), type := 0, pos := "chain.go:54", after := #[{ on := 24, ground := Ground.data }, { on := 23, ground := Ground.data }, { on := 0, ground := Ground.phase }, { on := 1, ground := Ground.phase }, { on := 2, ground := Ground.phase }, { on := 3, ground := Ground.phase }, { on := 4, ground := Ground.phase }, { on := 5, ground := Ground.phase }, { on := 6, ground := Ground.phase }, { on := 7, ground := Ground.phase }, { on := 8, ground := Ground.phase }, { on := 9, ground := Ground.phase }, { on := 10, ground := Ground.phase }, { on := 11, ground := Ground.phase }, { on := 12, ground := Ground.phase }, { on := 13, ground := Ground.phase }, { on := 14, ground := Ground.phase }, { on := 15, ground := Ground.phase }, { on := 16, ground := Ground.phase }, { on := 17, ground := Ground.phase }, { on := 18, ground := Ground.phase }, { on := 19, ground := Ground.phase }, { on := 20, ground := Ground.phase }, { on := 21, ground := Ground.phase }, { on := 22, ground := Ground.phase }, { on := 23, ground := Ground.phase }, { on := 24, ground := Ground.phase }], guard := none }) (by kernel_rfl) rfl (by rfl) (fun K hK => ?_)
  go_simp
  refine hK.out _ _ ?_
  clear hK K
  try simp only [Act.put, List.setIfInBounds_toArray, List.set_cons_zero, List.set_cons_succ]
  refine wpAnyD_done (by kernel_rfl) ?_ _
  go_upto_region 2 with fail
  have HBW := Lib.hid ((Below.refl W0.heap.size W0).alloc (Nat.le_refl _) (.cells #[.int .i64 a, .int .i64 b] 55))
  have HN := Lib.hid (blk_new W0 (.cells #[.int .i64 a, .int .i64 b] 55))
  replace HD := Lib.hid (HD.out.below HBW.out (Nat.le_refl _))
  replace HB0 := Lib.hid (HB0.out.trans (HBW.out.mono HB0.out.size))
  clear hHeld h1 a0 a2 b0 HBW p0 p1 p2 p3 q1 q2 h
  generalize W0.heap.size = g4 at *
  generalize W0.alloc (.cells #[.int .i64 a, .int .i64 b] 55) = W1 at *
  have h0 := blk_cell HD.out.lk.blk 0
  have n0 := blk_cell HN.out 0
  have n1 := blk_cell HN.out 1
  simp only [List.getElem?_toArray, List.getElem?_cons_zero, List.getElem?_cons_succ] at h0 n0 n1
  obtain ⟨o, ho⟩ : ∃ o, pairT T (a, b) = o := ⟨_, rfl⟩
  have HO := Lib.hid ho
  refine wp_region_D (Ds := []) (S := fun V => V.cell? ⟨cb, 0, none⟩ = some (.pointer (some ⟨tb, 0, none⟩)) ∧ V.cell? ⟨g4, 0, none⟩ = some (.int .i64 a) ∧ V.cell? ⟨g4, 1, none⟩ = some (.int .i64 b)) (by kernel_rfl) (by exact ⟨h0, n0, n1⟩) (fun hHeld => ?_)
  (replace HD := Lib.hid HD.out.drew); (replace HB0 : Hid (Below w.heap.size w W1.drew) := Lib.hid HB0.out.drew); (have HN1 : Hid (W1.drew.heap[g4]? = some (.cells #[.int .i64 a, .int .i64 b] 55)) := Lib.hid HN.out); (have HP := pair_tab a b ha hb HD.out.tab); rw [ho] at HP; (replace HP := Lib.hid HP); clear HN ho; generalize W1.drew = W2 at *
  refine wpAnyD_takeP (i := 0) (oi := { dst := some 45, op := Op.move (Operand.tmp 0), type := 248, pos := "chain.go:55", after := #[], guard := none }) (d := 45) (v := ?_) rfl rfl (by kernel_rfl) (by kernel_rfl) (by kernel_rfl) (fun _ _ _ h => h) (Or.inl ⟨by rfl, ?_⟩) ?_
  rotate_left
  · (intro w' _; go_simp; (try with_reducible rfl))
  simp only [List.setIfInBounds_toArray, List.set_cons_zero, List.set_cons_succ]
  refine wpAnyD_takeP (i := 1) (oi := { dst := some 46, op := Op.nilCheck (Operand.tmp 45), type := 0, pos := "chain.go:55", after := #[{ on := 0, ground := Ground.data }], guard := none }) (d := 46) (v := ?_) rfl rfl (by kernel_rfl) (by kernel_rfl) (by kernel_rfl) (fun _ _ _ h => h) (Or.inl ⟨by rfl, ?_⟩) ?_
  rotate_left
  · (intro w' _; go_simp; (try with_reducible rfl))
  simp only [List.setIfInBounds_toArray, List.set_cons_zero, List.set_cons_succ]
  refine wpAnyD_takeP (i := 2) (oi := { dst := some 47, op := Op.fieldAddr 264 (Operand.tmp 46) 0, type := 0, pos := "chain.go:55", after := #[{ on := 1, ground := Ground.data }], guard := none }) (d := 47) (v := ?_) rfl rfl (by kernel_rfl) (by kernel_rfl) (by kernel_rfl) (fun _ _ _ h => h) (Or.inl ⟨by rfl, ?_⟩) ?_
  rotate_left
  · (intro w' _; go_simp; (try with_reducible rfl))
  simp only [List.setIfInBounds_toArray, List.set_cons_zero, List.set_cons_succ]
  refine wpAnyD_takeP (i := 4) (oi := { dst := some 49, op := Op.fieldAddr 55 (Operand.tmp 4) 0, type := 0, pos := "chain.go:55", after := #[], guard := none }) (d := 49) (v := ?_) rfl rfl (by kernel_rfl) (by kernel_rfl) (by kernel_rfl) (fun _ _ _ h => h) (Or.inl ⟨by rfl, ?_⟩) ?_
  rotate_left
  · (intro w' _; go_simp; (try with_reducible rfl))
  simp only [List.setIfInBounds_toArray, List.set_cons_zero, List.set_cons_succ]
  refine wpAnyD_takeP (i := 6) (oi := { dst := some 51, op := Op.fieldAddr 55 (Operand.tmp 4) 1, type := 0, pos := "chain.go:55", after := #[], guard := none }) (d := 51) (v := ?_) rfl rfl (by kernel_rfl) (by kernel_rfl) (by kernel_rfl) (fun _ _ _ h => h) (Or.inl ⟨by rfl, ?_⟩) ?_
  rotate_left
  · (intro w' _; go_simp; (try with_reducible rfl))
  simp only [List.setIfInBounds_toArray, List.set_cons_zero, List.set_cons_succ]
  refine wpAnyD_takeD (i := 3) (oi := { dst := some 48, op := Op.load 63 (Operand.tmp 47), type := 63, pos := "chain.go:55", after := #[{ on := 2, ground := Ground.data }], guard := none }) (d := 48) (v := ?_) rfl rfl (by kernel_rfl) (by kernel_rfl) (by kernel_rfl) (by kernel_rfl) (fun _ _ _ h => h) (Or.inl ⟨by rfl, ?_⟩) hHeld ?_
  rotate_left
  · (intro w' hSw; (try dsimp only at hSw); go_simp; (try with_reducible rfl))
  simp only [List.setIfInBounds_toArray, List.set_cons_zero, List.set_cons_succ]
  refine wpAnyD_takeD (i := 5) (oi := { dst := some 50, op := Op.load 3 (Operand.tmp 49), type := 3, pos := "chain.go:55", after := #[{ on := 4, ground := Ground.data }], guard := none }) (d := 50) (v := ?_) rfl rfl (by kernel_rfl) (by kernel_rfl) (by kernel_rfl) (by kernel_rfl) (fun _ _ _ h => h) (Or.inl ⟨by rfl, ?_⟩) hHeld ?_
  rotate_left
  · (intro w' hSw; (try dsimp only at hSw); go_simp; (try with_reducible rfl))
  simp only [List.setIfInBounds_toArray, List.set_cons_zero, List.set_cons_succ]
  refine wpAnyD_takeD (i := 7) (oi := { dst := some 52, op := Op.load 3 (Operand.tmp 51), type := 3, pos := "chain.go:55", after := #[{ on := 6, ground := Ground.data }], guard := none }) (d := 52) (v := ?_) rfl rfl (by kernel_rfl) (by kernel_rfl) (by kernel_rfl) (by kernel_rfl) (fun _ _ _ h => h) (Or.inl ⟨by rfl, ?_⟩) hHeld ?_
  rotate_left
  · (intro w' hSw; (try dsimp only at hSw); go_simp; (try with_reducible rfl))
  simp only [List.setIfInBounds_toArray, List.set_cons_zero, List.set_cons_succ]
  refine wpAnyD_one (i := 8) (o := { dst := some 53, op := Op.call { callee := Callee.value (Operand.func 138), args := #[Operand.tmp 48, Operand.tmp 50, Operand.tmp 52], argTypes := #[63, 3, 3] }, type := 69, pos := "chain.go:55", after := #[{ on := 3, ground := Ground.data }, { on := 5, ground := Ground.data }, { on := 7, ground := Ground.data }], guard := none }) (by kernel_rfl) rfl (by rfl) (fun K hK => ?_)
  go_simp; refine HP.out.mono ?_; rintro e W2 ⟨rfl, rfl⟩; have h := hHeld; go_simp
  refine hK.out _ _ h (fun hHeld => ?_)
  clear hK K
  try simp only [Act.put, List.setIfInBounds_toArray, List.set_cons_zero, List.set_cons_succ]
  refine wpAnyD_takeP (i := 9) (oi := { dst := some 44, op := Op.move (Operand.tmp 53), type := 69, pos := "chain.go:55", after := #[{ on := 8, ground := Ground.data }], guard := none }) (d := 44) (v := ?_) rfl rfl (by kernel_rfl) (by kernel_rfl) (by kernel_rfl) (fun _ _ _ h => h) (Or.inl ⟨by rfl, ?_⟩) ?_
  rotate_left
  · (intro w' _; go_simp; (try with_reducible rfl))
  simp only [List.setIfInBounds_toArray, List.set_cons_zero, List.set_cons_succ]
  refine wpAnyD_takeP (i := 10) (oi := { dst := some 54, op := Op.extract (Operand.tmp 44) 0, type := 3, pos := "chain.go:55", after := #[{ on := 9, ground := Ground.data }], guard := none }) (d := 54) (v := ?_) rfl rfl (by kernel_rfl) (by kernel_rfl) (by kernel_rfl) (fun _ _ _ h => h) (Or.inl ⟨by rfl, ?_⟩) ?_
  rotate_left
  · (intro w' _; go_simp; (try with_reducible rfl))
  simp only [List.setIfInBounds_toArray, List.set_cons_zero, List.set_cons_succ]
  refine wpAnyD_takeP (i := 11) (oi := { dst := some 55, op := Op.extract (Operand.tmp 44) 1, type := 4, pos := "chain.go:55", after := #[{ on := 9, ground := Ground.data }, { on := 12, ground := Ground.gcOnly Departure.lateStores }], guard := none }) (d := 55) (v := ?_) rfl rfl (by kernel_rfl) (by kernel_rfl) (by kernel_rfl) (fun _ _ _ h => h) (Or.inl ⟨by rfl, ?_⟩) ?_
  rotate_left
  · (intro w' _; go_simp; (try with_reducible rfl))
  simp only [List.setIfInBounds_toArray, List.set_cons_zero, List.set_cons_succ]
  refine wpAnyD_takeP (i := 12) (oi := { dst := some 5, op := Op.assign (Operand.tmp 54), type := 3, pos := "chain.go:55", after := #[{ on := 10, ground := Ground.data }, { on := 8, ground := Ground.chain }, { on := 0, ground := Ground.phase }, { on := 1, ground := Ground.phase }, { on := 2, ground := Ground.phase }, { on := 3, ground := Ground.phase }, { on := 4, ground := Ground.phase }, { on := 5, ground := Ground.phase }, { on := 6, ground := Ground.phase }, { on := 7, ground := Ground.phase }, { on := 8, ground := Ground.phase }, { on := 9, ground := Ground.phase }, { on := 10, ground := Ground.phase }, { on := 11, ground := Ground.textOnly Departure.lateStores }], guard := none }) (d := 5) (v := ?_) rfl rfl (by kernel_rfl) (by kernel_rfl) (by kernel_rfl) (fun _ _ _ h => h) (Or.inl ⟨by rfl, ?_⟩) ?_
  rotate_left
  · (intro w' _; go_simp; (try with_reducible rfl))
  simp only [List.setIfInBounds_toArray, List.set_cons_zero, List.set_cons_succ]
  refine wpAnyD_takeP (i := 13) (oi := { dst := some 6, op := Op.assign (Operand.tmp 55), type := 4, pos := "chain.go:55", after := #[{ on := 11, ground := Ground.data }, { on := 12, ground := Ground.chain }, { on := 0, ground := Ground.phase }, { on := 1, ground := Ground.phase }, { on := 2, ground := Ground.phase }, { on := 3, ground := Ground.phase }, { on := 4, ground := Ground.phase }, { on := 5, ground := Ground.phase }, { on := 6, ground := Ground.phase }, { on := 7, ground := Ground.phase }, { on := 8, ground := Ground.phase }, { on := 9, ground := Ground.phase }, { on := 10, ground := Ground.phase }, { on := 11, ground := Ground.phase }, { on := 12, ground := Ground.phase }], guard := none }) (d := 6) (v := ?_) rfl rfl (by kernel_rfl) (by kernel_rfl) (by kernel_rfl) (fun _ _ _ h => h) (Or.inl ⟨by rfl, ?_⟩) ?_
  rotate_left
  · (intro w' _; go_simp; (try with_reducible rfl))
  simp only [List.setIfInBounds_toArray, List.set_cons_zero, List.set_cons_succ]
  refine wpAnyD_done (by kernel_rfl) ?_ _
  clear h hHeld h0 n0 n1
  have h3 := blk_cell HD.out.lk.blk 3
  simp only [List.getElem?_toArray, List.getElem?_cons_zero, List.getElem?_cons_succ] at h3
  cases o with
  | none =>
    simp only [Option.getD_none, Option.isSome_none]
    go_wp2_with fail
    go_end0
    refine ⟨rfl, ⟨Aq, cq, ?_⟩, HB0.out.mono HH.out.sizes⟩
    rw [← HR.out, askQ_none (by show pairB T bel a b = none; unfold pairB; rw [HO.out]; rfl)]
    exact HD.out
  | some r =>
    simp only [Option.getD_some, Option.isSome_some]
    by_cases hlt : (r : Int) < bel
    · have HPB : Hid (pairB T bel a b = some (r : Int)) := Lib.hid (by unfold pairB; rw [HO.out]; simp [hlt])
      have hd : decide ((r : Int) < bel) = true := by simpa using hlt
      go_upto_region 4 with fail
      have h2 := blk_cell HD.out.lk.blk 2
      have n0 := blk_cell HN1.out 0
      have n1 := blk_cell HN1.out 1
      simp only [List.getElem?_toArray, List.getElem?_cons_zero, List.getElem?_cons_succ] at h2 n0 n1
      clear h3 hd HP
      refine wp_region_D (Ds := [9]) (S := fun V => V.cell? ⟨cb, 2, none⟩ = some (.pointer (some ⟨qb, 0, none⟩)) ∧ V.cell? ⟨g4, 0, none⟩ = some (.int .i64 a) ∧ V.cell? ⟨g4, 1, none⟩ = some (.int .i64 b)) (by kernel_rfl) (by exact ⟨h2, n0, n1⟩) (fun hHeld => ?_)
      (replace HD := Lib.hid HD.out.drew); (replace HB0 : Hid (Below w.heap.size w W2.drew) := Lib.hid HB0.out.drew); (have HPU := Lib.hid (by simpa only [hw.wtV] using hw.push_any HD.out.hp (r : Int) (i : Int) ⟨(i : Int), a, b⟩ hQ ht0 ht1 HD.out.sizes)); clear HN1; generalize W2.drew = W3 at *
      refine wpAnyD_takeP (i := 0) (oi := { dst := some 65, op := Op.move (Operand.tmp 0), type := 248, pos := "chain.go:56", after := #[], guard := none }) (d := 65) (v := ?_) rfl rfl (by kernel_rfl) (by kernel_rfl) (by kernel_rfl) (fun _ _ _ h => h) (Or.inl ⟨by rfl, ?_⟩) ?_
      rotate_left
      · (intro w' _; go_simp; (try with_reducible rfl))
      simp only [List.setIfInBounds_toArray, List.set_cons_zero, List.set_cons_succ]
      refine wpAnyD_takeP (i := 1) (oi := { dst := some 66, op := Op.nilCheck (Operand.tmp 65), type := 0, pos := "chain.go:56", after := #[{ on := 0, ground := Ground.data }], guard := none }) (d := 66) (v := ?_) rfl rfl (by kernel_rfl) (by kernel_rfl) (by kernel_rfl) (fun _ _ _ h => h) (Or.inl ⟨by rfl, ?_⟩) ?_
      rotate_left
      · (intro w' _; go_simp; (try with_reducible rfl))
      simp only [List.setIfInBounds_toArray, List.set_cons_zero, List.set_cons_succ]
      refine wpAnyD_takeP (i := 2) (oi := { dst := some 67, op := Op.fieldAddr 264 (Operand.tmp 66) 2, type := 0, pos := "chain.go:56", after := #[{ on := 1, ground := Ground.data }], guard := none }) (d := 67) (v := ?_) rfl rfl (by kernel_rfl) (by kernel_rfl) (by kernel_rfl) (fun _ _ _ h => h) (Or.inl ⟨by rfl, ?_⟩) ?_
      rotate_left
      · (intro w' _; go_simp; (try with_reducible rfl))
      simp only [List.setIfInBounds_toArray, List.set_cons_zero, List.set_cons_succ]
      refine wpAnyD_takeP (i := 4) (oi := { dst := some 69, op := Op.move (Operand.tmp 5), type := 3, pos := "chain.go:56", after := #[], guard := none }) (d := 69) (v := ?_) rfl rfl (by kernel_rfl) (by kernel_rfl) (by kernel_rfl) (fun _ _ _ h => h) (Or.inl ⟨by rfl, ?_⟩) ?_
      rotate_left
      · (intro w' _; go_simp; (try with_reducible rfl))
      simp only [List.setIfInBounds_toArray, List.set_cons_zero, List.set_cons_succ]
      refine wpAnyD_takeP (i := 5) (oi := { dst := some 70, op := Op.move (Operand.tmp 1), type := 3, pos := "chain.go:56", after := #[], guard := none }) (d := 70) (v := ?_) rfl rfl (by kernel_rfl) (by kernel_rfl) (by kernel_rfl) (fun _ _ _ h => h) (Or.inl ⟨by rfl, ?_⟩) ?_
      rotate_left
      · (intro w' _; go_simp; (try with_reducible rfl))
      simp only [List.setIfInBounds_toArray, List.set_cons_zero, List.set_cons_succ]
      refine wpAnyD_takeP (i := 6) (oi := { dst := some 71, op := Op.move (Operand.tmp 1), type := 3, pos := "chain.go:56", after := #[], guard := none }) (d := 71) (v := ?_) rfl rfl (by kernel_rfl) (by kernel_rfl) (by kernel_rfl) (fun _ _ _ h => h) (Or.inl ⟨by rfl, ?_⟩) ?_
      rotate_left
      · (intro w' _; go_simp; (try with_reducible rfl))
      simp only [List.setIfInBounds_toArray, List.set_cons_zero, List.set_cons_succ]
      refine wpAnyD_takeD (i := 3) (oi := { dst := some 68, op := Op.load 258 (Operand.tmp 67), type := 258, pos := "chain.go:56", after := #[{ on := 2, ground := Ground.data }], guard := none }) (d := 68) (v := ?_) rfl rfl (by kernel_rfl) (by kernel_rfl) (by kernel_rfl) (by kernel_rfl) (fun _ _ _ h => h) (Or.inl ⟨by rfl, ?_⟩) hHeld ?_
      rotate_left
      · (intro w' hSw; (try dsimp only at hSw); go_simp; (try with_reducible rfl))
      simp only [List.setIfInBounds_toArray, List.set_cons_zero, List.set_cons_succ]
      refine wpAnyD_one (i := 7) (o := { dst := some 72, op := Op.load 55 (Operand.tmp 4), type := 55, pos := "chain.go:56", after := #[], guard := none }) (by kernel_rfl) rfl (by rfl) (fun K hK => ?_)
      go_simp
      refine hK.out _ _ hHeld (fun hHeld => ?_)
      clear hK K
      try simp only [Act.put, List.setIfInBounds_toArray, List.set_cons_zero, List.set_cons_succ]
      refine wpAnyD_takeP (i := 8) (oi := { dst := some 73, op := Op.build 261 #[(0, Operand.tmp 71), (1, Operand.tmp 72)], type := 261, pos := "chain.go:56", after := #[{ on := 6, ground := Ground.data }, { on := 7, ground := Ground.data }], guard := none }) (d := 73) (v := ?_) rfl rfl (by kernel_rfl) (by kernel_rfl) (by kernel_rfl) (fun _ _ _ h => h) (Or.inl ⟨by rfl, ?_⟩) ?_
      rotate_left
      · (intro w' _; go_simp; (try with_reducible rfl))
      simp only [List.setIfInBounds_toArray, List.set_cons_zero, List.set_cons_succ]
      refine wpAnyD_last (D := 9) (by decide) (o := { dst := some 74, op := Op.call { callee := Callee.value (Operand.func 190), args := #[Operand.tmp 68, Operand.tmp 69, Operand.tmp 70, Operand.tmp 73], argTypes := #[258, 3, 3, 261] }, type := 0, pos := "chain.go:56", after := #[{ on := 3, ground := Ground.data }, { on := 4, ground := Ground.data }, { on := 5, ground := Ground.data }, { on := 8, ground := Ground.data }], guard := none }) (by kernel_rfl) rfl (by rfl) (fun K hK => ?_)
      go_simp; refine HPU.out.mono ?_; rintro e W4 ⟨rfl, h5, hk⟩; have H5 := Lib.hid h5; have HK := Lib.hid hk; clear h5 hk; go_simp
      refine hK.out _ _ ?_
      clear hK K
      try simp only [Act.put, List.setIfInBounds_toArray, List.set_cons_zero, List.set_cons_succ]
      refine wpAnyD_done (by kernel_rfl) ?_ _
      go_wp2_with fail
      go_end0
      obtain ⟨Aq', cq', h6, _⟩ := H5.out
      obtain ⟨hC, hB⟩ := HD.out.queue h6 HK.out
      refine ⟨rfl, ⟨Aq', cq', ?_⟩, (HB0.out.mono HH.out.sizes).trans hB⟩
      rw [← HR.out, askQ_some HPB.out]
      exact hC
    · have hd : decide ((r : Int) < bel) = false := by simpa using hlt
      have HPB : Hid (pairB T bel a b = none) := Lib.hid (by unfold pairB; rw [HO.out]; simp; omega)
      go_wp2_with fail
      go_end0
      refine ⟨rfl, ⟨Aq, cq, ?_⟩, HB0.out.mono HH.out.sizes⟩
      rw [← HR.out, askQ_none HPB.out]
      exact HD.out
theorem wf_id {a : Int} (h : 0 ≤ a ∧ a < 1000000) : (Lit.int .i64 a).wf = true := by
  have e1 : IntKind.i64.min = -9223372036854775808 := by decide
  have e2 : IntKind.i64.max = 9223372036854775807 := by decide
  simp only [Lit.wf, e1, e2, Bool.and_eq_true, decide_eq_true_eq]
  omega
theorem asks_live (h : ChainIs w base tbase tb T sv mb mp cb qb N bel steps A c Q turn Aq cq) {p q : List Nd} {i : Nat} {a : Int} (hL : Lives N (p ++ ((i : Int), a) :: q)) (hQ : Q.length < 1000000000) (ht0 : 0 ≤ turn) (ht1 : turn < 1000000000000000000) :
    Calls Tryz.prog 179 #[.pointer (some ⟨cb, 0, none⟩), .int .i64 (i : Int)] w fun e w' => e = .returned (.tuple #[]) ∧ (∃ Aq' cq', ChainIs w' base tbase tb T sv mb mp cb qb N bel steps A c (askQ (pairB T bel) Q turn i a q).1 (askQ (pairB T bel) Q turn i a q).2 Aq' cq') ∧ Below base w w' := by
  obtain ⟨k, e, hk⟩ := hL.at_ p i a q rfl
  have e : i = k := by omega
  subst e
  rcases q with _ | ⟨⟨j, b⟩, q⟩
  · exact (asks_last h i a _ hk).mono fun e w' ⟨h1, h2⟩ => ⟨h1, by subst h2; exact ⟨Aq, cq, h⟩, by subst h2; exact Below.refl _ _⟩
  · obtain ⟨m, rfl, hm⟩ := hL.at_ (p ++ [((i : Int), a)]) j b q (by simp)
    exact asks_two h i m a _ b _ hk hm (wf_id (hL.nn ((i : Int), a) (by simp))) (wf_id (hL.nn ((m : Int), b) (by simp))) hQ ht0 ht1 _ rfl
theorem asks_ahead (h : ChainIs w base tbase tb T sv mb mp cb qb N bel steps A c Q turn Aq cq) {p q : List Nd} (hL : Lives N (p ++ q)) (hQ : Q.length < 1000000000) (ht0 : 0 ≤ turn) (ht1 : turn < 1000000000000000000) :
    Calls Tryz.prog 179 #[.pointer (some ⟨cb, 0, none⟩), .int .i64 (lastI p)] w fun e w' => e = .returned (.tuple #[]) ∧ (∃ Aq' cq', ChainIs w' base tbase tb T sv mb mp cb qb N bel steps A c (askL (pairB T bel) Q turn p q).1 (askL (pairB T bel) Q turn p q).2 Aq' cq') ∧ Below base w w' := by
  rcases List.eq_nil_or_concat p with rfl | ⟨p', x, rfl⟩
  · exact (asks_end h).mono fun e w' ⟨h1, h2⟩ => ⟨h1, by subst h2; exact ⟨Aq, cq, h⟩, by subst h2; exact Below.refl _ _⟩
  · rw [List.concat_eq_append] at *
    have hL' : Lives N (p' ++ x :: q) := by simpa using hL
    obtain ⟨k, e, _⟩ := hL'.place (x := x) (by simp)
    obtain ⟨x1, x2⟩ := x
    simp only at e
    subst e
    have := asks_live h hL' hQ ht0 ht1
    rw [lastI_snoc]
    unfold askL
    rw [List.getLast?_concat]
    exact this
end
end Go.Proofs.YtbppaiejpgdbiaaGreat

