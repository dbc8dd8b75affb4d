/- Texts of several layers, one behind the other: Chain5, Chain6, Chain7, Chain8, Chain9, ChainA, ChainB, Ref6, Ref7, ChainC, ChainD. -/
import Derived.Test.YtbppaiejpgdbiaaGreatZA2
import Derived.WalkKit
import Derived.KernelRfl
import Derived.Lib.Hide
import Derived.Deep.QuietTactic
import Derived.BigQuiet
import Derived.OwnWalk
import Derived.Lib.Strings
import Derived.Deep.DeepCutAuto
import Derived.Deep.RegionHeld3
import Derived.StillTailTactics
import Derived.Test.YtbppaiejpgdbiaaGreatProg
import Derived.Deep.Slices
import Derived.Deep.Fields
import Derived.ChangeSame
import Derived.SliceStrings
import Derived.OpenShut
import Derived.Maps.OwnSet
import Derived.Maps.OwnOps
import Derived.DeepKeys4
import Derived.WideKeyEntry
import Derived.Maps.AppendAt
import Derived.Laws.ResultCell
import Derived.Laws.IdiomStrings
import Derived.Laws.AppendOwnNone
import Derived.Lib.AppendStr
import Derived.Laws.LoneSync
import Derived.Tactics
import Derived.Tactics2
import Derived.Defers
import Derived.Laws.Pointers
import Derived.RegionTactic
import Derived.RegionCalls
import Derived.ChangeAlike
import Derived.Test.YtbppaiejpgdbiaaGreatRows
import Derived.ProofKit
import Derived.ShutString
import Derived.ChangeOld
import Derived.Below
import Derived.Lib.SmallJoins
/- Layer 5 (chain): asks. -/
namespace Go.Proofs.YtbppaiejpgdbiaaGreat
open Go.RowKit Go.Maps Go.WideMaps
set_option maxRecDepth 100000
set_option linter.unusedVariables false
set_option linter.unusedSimpArgs false

theorem askQ_none {P : Int → Int → Option Int} {Q : List (Th Wt)} {turn i a : Int} {y : Nd} {q : List Nd} (h : P a y.2 = none) : askQ P Q turn i a (y :: q) = (Q, turn) := by simp only [askQ, h]
theorem askQ_some {P : Int → Int → Option Int} {Q : List (Th Wt)} {turn i a r : Int} {y : Nd} {q : List Nd} (h : P a y.2 = some r) : askQ P Q turn i a (y :: q) = (pushT Q ⟨r, i, turn, ⟨i, a, y.2⟩⟩, turn + 1) := by simp only [askQ, h]

section
variable {w w' : World} {base tbase tb : Nat} {T : List Ent} {sv : Value} {mb mp cb qb : Nat} {N : List Node} {bel steps : Int} {A : Option Addr} {c : Nat} {Q : List (Th Wt)} {turn : Int} {Aq : Option Addr} {cq : Nat}
theorem asks_end (h : ChainIs w base tbase tb T sv mb mp cb qb N bel steps A c Q turn Aq cq) :
    Calls Tryz.prog 179 #[.pointer (some ⟨cb, 0, none⟩), .int .i64 (-1)] w fun e w' => e = .returned (.tuple #[]) ∧ w' = w := by
  clear h
  go_enter Tryz.func179, Tryz.ntmps179
  go_wp2_with fail
  (try simp only [Exit.inBlock, Exit.then])
  refine bodyPost_ret (results_none rfl _ _ _) rfl ?_
  exact ⟨rfl, rfl⟩
theorem asks_last (h : ChainIs w base tbase tb T sv mb mp cb qb N bel steps A c Q turn Aq cq) (i : Nat) (a p : Int) (hi : N[i]? = some (a, p, -1)) :
    Calls Tryz.prog 179 #[.pointer (some ⟨cb, 0, none⟩), .int .i64 (i : Int)] w fun e w' => e = .returned (.tuple #[]) ∧ w' = w := by
  have hlt := (List.getElem?_eq_some_iff.1 hi).1
  obtain ⟨g, rfl, a0, a1, a2⟩ := h.lk.at i _ hi
  have h1 := blk_cell h.lk.blk 1
  simp only [List.getElem?_toArray, List.getElem?_cons_zero, List.getElem?_cons_succ] at h1 a2
  have p0 : (0 : Int) ≤ (i : Int) := by omega
  have p1 : (i : Int) < (N.length : Int) := by omega
  have q1 : ((i : Int) == -1) = false := by simp
  clear hi h a0 a1
  go_enter Tryz.func179, Tryz.ntmps179
  go_wp2_with fail
  (try simp only [Exit.inBlock, Exit.then])
  refine bodyPost_ret (results_none rfl _ _ _) rfl ?_
  exact ⟨rfl, rfl⟩
set_option maxHeartbeats 4000000 in
theorem asks_two (h : ChainIs w base tbase tb T sv mb mp cb qb N bel steps A c Q turn Aq cq) (i j : Nat) (a p : Int) (b : Int) (y : Int × Int) (hi : N[i]? = some (a, p, (j : Int))) (hj : N[j]? = some (b, y))
    (ha : (Lit.int .i64 a).wf = true) (hb : (Lit.int .i64 b).wf = true) (hQ : Q.length < 1000000000) (ht0 : 0 ≤ turn) (ht1 : turn < 1000000000000000000) (R : List (Th Wt) × Int) (hR : askQ (pairB T bel) Q turn i a [((j : Int), b)] = R) :
    Calls Tryz.prog 179 #[.pointer (some ⟨cb, 0, none⟩), .int .i64 (i : Int)] w fun e w' => e = .returned (.tuple #[]) ∧ (∃ Aq' cq', ChainIs w' base tbase tb T sv mb mp cb qb N bel steps A c R.1 R.2 Aq' cq') ∧ Below base w w' := by
  have hlt := (List.getElem?_eq_some_iff.1 hi).1
  have hlt2 := (List.getElem?_eq_some_iff.1 hj).1
  obtain ⟨g, rfl, a0, a1, a2⟩ := h.lk.at i _ hi
  obtain ⟨g', e, b0, b1, b2⟩ := h.lk.at j _ hj
  injection e with e
  injection e with e
  subst e
  have h1 := blk_cell h.lk.blk 1
  simp only [List.getElem?_toArray, List.getElem?_cons_zero, List.getElem?_cons_succ] at h1 a0 a2 b0
  have p0 : (0 : Int) ≤ (i : Int) := by omega
  have p1 : (i : Int) < (N.length : Int) := by omega
  have p2 : (0 : Int) ≤ (j : Int) := by omega
  have p3 : (j : Int) < (N.length : Int) := by omega
  have q1 : ((i : Int) == -1) = false := by simp
  have q2 : ((j : Int) == -1) = false := by simp
  have HH := Lib.hid h
  have HR := Lib.hid hR
  clear hi hj h a1 b1 b2 hR
  go_enter Tryz.func179, Tryz.ntmps179
  go_upto_region 1 with fail
  refine wp_region_D (Ds := [25]) (S := fun V => V.cell? ⟨cb, 1, none⟩ = some (.slice (some ⟨g, 0, none⟩) N.length c) ∧ V.cell? ⟨g, i * 3, none⟩ = some (.int .i64 a) ∧ V.cell? ⟨g, i * 3 + 2, none⟩ = some (.int .i64 (j : Int)) ∧ V.cell? ⟨g, j * 3, none⟩ = some (.int .i64 b)) (by kernel_rfl) (by exact ⟨h1, a0, a2, b0⟩) (fun hHeld => ?_)
  (have HD := Lib.hid HH.out.drew); (have HB0 : Hid (Below w.heap.size w w.drew) := Lib.hid ⟨rfl, rfl, rfl, Nat.le_refl _, fun _ _ => rfl⟩); generalize w.drew = W0 at *
  refine wpAnyD_takeP (i := 0) (oi := { dst := some 20, op := Op.move (Operand.tmp 0), type := 248, pos := "chain.go:54", after := #[], guard := none }) (d := 20) (v := ?_) rfl rfl (by kernel_rfl) (by kernel_rfl) (by kernel_rfl) (fun _ _ _ h => h) (Or.inl ⟨by rfl, ?_⟩) ?_
  rotate_left
  · (intro w' _; go_simp; (try with_reducible rfl))
  simp only [List.setIfInBounds_toArray, List.set_cons_zero, List.set_cons_succ]
  refine wpAnyD_takeP (i := 1) (oi := { dst := some 21, op := Op.nilCheck (Operand.tmp 20), type := 0, pos := "chain.go:54", after := #[{ on := 0, ground := Ground.data }], guard := none }) (d := 21) (v := ?_) rfl rfl (by kernel_rfl) (by kernel_rfl) (by kernel_rfl) (fun _ _ _ h => h) (Or.inl ⟨by rfl, ?_⟩) ?_
  rotate_left
  · (intro w' _; go_simp; (try with_reducible rfl))
  simp only [List.setIfInBounds_toArray, List.set_cons_zero, List.set_cons_succ]
  refine wpAnyD_takeP (i := 2) (oi := { dst := some 22, op := Op.fieldAddr 264 (Operand.tmp 21) 1, type := 0, pos := "chain.go:54", after := #[{ on := 1, ground := Ground.data }], guard := none }) (d := 22) (v := ?_) rfl rfl (by kernel_rfl) (by kernel_rfl) (by kernel_rfl) (fun _ _ _ h => h) (Or.inl ⟨by rfl, ?_⟩) ?_
  rotate_left
  · (intro w' _; go_simp; (try with_reducible rfl))
  simp only [List.setIfInBounds_toArray, List.set_cons_zero, List.set_cons_succ]
  refine wpAnyD_takeP (i := 4) (oi := { dst := some 24, op := Op.move (Operand.tmp 1), type := 3, pos := "chain.go:54", after := #[], guard := none }) (d := 24) (v := ?_) rfl rfl (by kernel_rfl) (by kernel_rfl) (by kernel_rfl) (fun _ _ _ h => h) (Or.inl ⟨by rfl, ?_⟩) ?_
  rotate_left
  · (intro w' _; go_simp; (try with_reducible rfl))
  simp only [List.setIfInBounds_toArray, List.set_cons_zero, List.set_cons_succ]
  refine wpAnyD_takeP (i := 8) (oi := { dst := some 28, op := Op.move (Operand.tmp 0), type := 248, pos := "chain.go:54", after := #[], guard := none }) (d := 28) (v := ?_) rfl rfl (by kernel_rfl) (by kernel_rfl) (by kernel_rfl) (fun _ _ _ h => h) (Or.inl ⟨by rfl, ?_⟩) ?_
  rotate_left
  · (intro w' _; go_simp; (try with_reducible rfl))
  simp only [List.setIfInBounds_toArray, List.set_cons_zero, List.set_cons_succ]
  refine wpAnyD_takeP (i := 9) (oi := { dst := some 29, op := Op.nilCheck (Operand.tmp 28), type := 0, pos := "chain.go:54", after := #[{ on := 8, ground := Ground.data }], guard := none }) (d := 29) (v := ?_) rfl rfl (by kernel_rfl) (by kernel_rfl) (by kernel_rfl) (fun _ _ _ h => h) (Or.inl ⟨by rfl, ?_⟩) ?_
  rotate_left
  · (intro w' _; go_simp; (try with_reducible rfl))
  simp only [List.setIfInBounds_toArray, List.set_cons_zero, List.set_cons_succ]
  refine wpAnyD_takeP (i := 10) (oi := { dst := some 30, op := Op.fieldAddr 264 (Operand.tmp 29) 1, type := 0, pos := "chain.go:54", after := #[{ on := 9, ground := Ground.data }], guard := none }) (d := 30) (v := ?_) rfl rfl (by kernel_rfl) (by kernel_rfl) (by kernel_rfl) (fun _ _ _ h => h) (Or.inl ⟨by rfl, ?_⟩) ?_
  rotate_left
  · (intro w' _; go_simp; (try with_reducible rfl))
  simp only [List.setIfInBounds_toArray, List.set_cons_zero, List.set_cons_succ]
  refine wpAnyD_takeP (i := 12) (oi := { dst := some 32, op := Op.move (Operand.tmp 0), type := 248, pos := "chain.go:54", after := #[], guard := none }) (d := 32) (v := ?_) rfl rfl (by kernel_rfl) (by kernel_rfl) (by kernel_rfl) (fun _ _ _ h => h) (Or.inl ⟨by rfl, ?_⟩) ?_
  rotate_left
  · (intro w' _; go_simp; (try with_reducible rfl))
  simp only [List.setIfInBounds_toArray, List.set_cons_zero, List.set_cons_succ]
  refine wpAnyD_takeP (i := 13) (oi := { dst := some 33, op := Op.nilCheck (Operand.tmp 32), type := 0, pos := "chain.go:54", after := #[{ on := 12, ground := Ground.data }], guard := none }) (d := 33) (v := ?_) rfl rfl (by kernel_rfl) (by kernel_rfl) (by kernel_rfl) (fun _ _ _ h => h) (Or.inl ⟨by rfl, ?_⟩) ?_
  rotate_left
  · (intro w' _; go_simp; (try with_reducible rfl))
  simp only [List.setIfInBounds_toArray, List.set_cons_zero, List.set_cons_succ]
  refine wpAnyD_takeP (i := 14) (oi := { dst := some 34, op := Op.fieldAddr 264 (Operand.tmp 33) 1, type := 0, pos := "chain.go:54", after := #[{ on := 13, ground := Ground.data }], guard := none }) (d := 34) (v := ?_) rfl rfl (by kernel_rfl) (by kernel_rfl) (by kernel_rfl) (fun _ _ _ h => h) (Or.inl ⟨by rfl, ?_⟩) ?_
  rotate_left
  · (intro w' _; go_simp; (try with_reducible rfl))
  simp only [List.setIfInBounds_toArray, List.set_cons_zero, List.set_cons_succ]
  refine wpAnyD_takeP (i := 16) (oi := { dst := some 36, op := Op.move (Operand.tmp 1), type := 3, pos := "chain.go:54", after := #[], guard := none }) (d := 36) (v := ?_) rfl rfl (by kernel_rfl) (by kernel_rfl) (by kernel_rfl) (fun _ _ _ h => h) (Or.inl ⟨by rfl, ?_⟩) ?_
  rotate_left
  · (intro w' _; go_simp; (try with_reducible rfl))
  simp only [List.setIfInBounds_toArray, List.set_cons_zero, List.set_cons_succ]
  refine wpAnyD_takeD (i := 3) (oi := { dst := some 23, op := Op.load 262 (Operand.tmp 22), type := 262, pos := "chain.go:54", after := #[{ on := 2, ground := Ground.data }], guard := none }) (d := 23) (v := ?_) rfl rfl (by kernel_rfl) (by kernel_rfl) (by kernel_rfl) (by kernel_rfl) (fun _ _ _ h => h) (Or.inl ⟨by rfl, ?_⟩) hHeld ?_
  rotate_left
  · (intro w' hSw; (try dsimp only at hSw); go_simp; (try with_reducible rfl))
  simp only [List.setIfInBounds_toArray, List.set_cons_zero, List.set_cons_succ]
  refine wpAnyD_takeP (i := 5) (oi := { dst := some 25, op := Op.indexAddr 262 (Operand.tmp 23) (Operand.tmp 24), type := 0, pos := "chain.go:54", after := #[{ on := 3, ground := Ground.data }, { on := 4, ground := Ground.data }], guard := none }) (d := 25) (v := ?_) rfl rfl (by kernel_rfl) (by kernel_rfl) (by kernel_rfl) (fun _ _ _ h => h) (Or.inl ⟨by rfl, ?_⟩) ?_
  rotate_left
  · (intro w' _; go_simp; (try with_reducible rfl))
  simp only [List.setIfInBounds_toArray, List.set_cons_zero, List.set_cons_succ]
  refine wpAnyD_takeP (i := 6) (oi := { dst := some 26, op := Op.fieldAddr 266 (Operand.tmp 25) 0, type := 0, pos := "chain.go:54", after := #[{ on := 5, ground := Ground.data }], guard := none }) (d := 26) (v := ?_) rfl rfl (by kernel_rfl) (by kernel_rfl) (by kernel_rfl) (fun _ _ _ h => h) (Or.inl ⟨by rfl, ?_⟩) ?_
  rotate_left
  · (intro w' _; go_simp; (try with_reducible rfl))
  simp only [List.setIfInBounds_toArray, List.set_cons_zero, List.set_cons_succ]
  refine wpAnyD_takeD (i := 7) (oi := { dst := some 27, op := Op.load 3 (Operand.tmp 26), type := 3, pos := "chain.go:54", after := #[{ on := 6, ground := Ground.data }], guard := none }) (d := 27) (v := ?_) rfl rfl (by kernel_rfl) (by kernel_rfl) (by kernel_rfl) (by kernel_rfl) (fun _ _ _ h => h) (Or.inl ⟨by rfl, ?_⟩) hHeld ?_
  rotate_left
  · (intro w' hSw; (try dsimp only at hSw); go_simp; (try with_reducible rfl))
  simp only [List.setIfInBounds_toArray, List.set_cons_zero, List.set_cons_succ]
  refine wpAnyD_takeD (i := 11) (oi := { dst := some 31, op := Op.load 262 (Operand.tmp 30), type := 262, pos := "chain.go:54", after := #[{ on := 10, ground := Ground.data }], guard := none }) (d := 31) (v := ?_) rfl rfl (by kernel_rfl) (by kernel_rfl) (by kernel_rfl) (by kernel_rfl) (fun _ _ _ h => h) (Or.inl ⟨by rfl, ?_⟩) hHeld ?_
  rotate_left
  · (intro w' hSw; (try dsimp only at hSw); go_simp; (try with_reducible rfl))
  simp only [List.setIfInBounds_toArray, List.set_cons_zero, List.set_cons_succ]
  refine wpAnyD_takeD (i := 15) (oi := { dst := some 35, op := Op.load 262 (Operand.tmp 34), type := 262, pos := "chain.go:54", after := #[{ on := 14, ground := Ground.data }], guard := none }) (d := 35) (v := ?_) rfl rfl (by kernel_rfl) (by kernel_rfl) (by kernel_rfl) (by kernel_rfl) (fun _ _ _ h => h) (Or.inl ⟨by rfl, ?_⟩) hHeld ?_
  rotate_left
  · (intro w' hSw; (try dsimp only at hSw); go_simp; (try with_reducible rfl))
  simp only [List.setIfInBounds_toArray, List.set_cons_zero, List.set_cons_succ]
  refine wpAnyD_takeP (i := 17) (oi := { dst := some 37, op := Op.indexAddr 262 (Operand.tmp 35) (Operand.tmp 36), type := 0, pos := "chain.go:54", after := #[{ on := 15, ground := Ground.data }, { on := 16, ground := Ground.data }], guard := none }) (d := 37) (v := ?_) rfl rfl (by kernel_rfl) (by kernel_rfl) (by kernel_rfl) (fun _ _ _ h => h) (Or.inl ⟨by rfl, ?_⟩) ?_
  rotate_left
  · (intro w' _; go_simp; (try with_reducible rfl))
  simp only [List.setIfInBounds_toArray, List.set_cons_zero, List.set_cons_succ]
  refine wpAnyD_takeP (i := 18) (oi := { dst := some 38, op := Op.fieldAddr 266 (Operand.tmp 37) 2, type := 0, pos := "chain.go:54", after := #[{ on := 17, ground := Ground.data }], guard := none }) (d := 38) (v := ?_) rfl rfl (by kernel_rfl) (by kernel_rfl) (by kernel_rfl) (fun _ _ _ h => h) (Or.inl ⟨by rfl, ?_⟩) ?_
  rotate_left
  · (intro w' _; go_simp; (try with_reducible rfl))
  simp only [List.setIfInBounds_toArray, List.set_cons_zero, List.set_cons_succ]
  refine wpAnyD_takeD (i := 19) (oi := { dst := some 39, op := Op.load 3 (Operand.tmp 38), type := 3, pos := "chain.go:54", after := #[{ on := 18, ground := Ground.data }], guard := none }) (d := 39) (v := ?_) rfl rfl (by kernel_rfl) (by kernel_rfl) (by kernel_rfl) (by kernel_rfl) (fun _ _ _ h => h) (Or.inl ⟨by rfl, ?_⟩) hHeld ?_
  rotate_left
  · (intro w' hSw; (try dsimp only at hSw); go_simp; (try with_reducible rfl))
  simp only [List.setIfInBounds_toArray, List.set_cons_zero, List.set_cons_succ]
  refine wpAnyD_takeP (i := 20) (oi := { dst := some 40, op := Op.indexAddr 262 (Operand.tmp 31) (Operand.tmp 39), type := 0, pos := "chain.go:54", after := #[{ on := 11, ground := Ground.data }, { on := 19, ground := Ground.data }], guard := none }) (d := 40) (v := ?_) rfl rfl (by kernel_rfl) (by kernel_rfl) (by kernel_rfl) (fun _ _ _ h => h) (Or.inl ⟨by rfl, ?_⟩) ?_
  rotate_left
  · (intro w' _; go_simp; (try with_reducible rfl))
  simp only [List.setIfInBounds_toArray, List.set_cons_zero, List.set_cons_succ]
  refine wpAnyD_takeP (i := 21) (oi := { dst := some 41, op := Op.fieldAddr 266 (Operand.tmp 40) 0, type := 0, pos := "chain.go:54", after := #[{ on := 20, ground := Ground.data }], guard := none }) (d := 41) (v := ?_) rfl rfl (by kernel_rfl) (by kernel_rfl) (by kernel_rfl) (fun _ _ _ h => h) (Or.inl ⟨by rfl, ?_⟩) ?_
  rotate_left
  · (intro w' _; go_simp; (try with_reducible rfl))
  simp only [List.setIfInBounds_toArray, List.set_cons_zero, List.set_cons_succ]
  refine wpAnyD_takeD (i := 22) (oi := { dst := some 42, op := Op.load 3 (Operand.tmp 41), type := 3, pos := "chain.go:54", after := #[{ on := 21, ground := Ground.data }], guard := none }) (d := 42) (v := ?_) rfl rfl (by kernel_rfl) (by kernel_rfl) (by kernel_rfl) (by kernel_rfl) (fun _ _ _ h => h) (Or.inl ⟨by rfl, ?_⟩) hHeld ?_
  rotate_left
  · (intro w' hSw; (try dsimp only at hSw); go_simp; (try with_reducible rfl))
  simp only [List.setIfInBounds_toArray, List.set_cons_zero, List.set_cons_succ]
  refine wpAnyD_takeP (i := 23) (oi := { dst := some 43, op := Op.build 55 #[(0, Operand.tmp 27), (1, Operand.tmp 42)], type := 55, pos := "chain.go:54", after := #[{ on := 7, ground := Ground.data }, { on := 22, ground := Ground.data }], guard := none }) (d := 43) (v := ?_) rfl rfl (by kernel_rfl) (by kernel_rfl) (by kernel_rfl) (fun _ _ _ h => h) (Or.inl ⟨by rfl, ?_⟩) ?_
  rotate_left
  · (intro w' _; go_simp; (try with_reducible rfl))
  simp only [List.setIfInBounds_toArray, List.set_cons_zero, List.set_cons_succ]
  refine wpAnyD_one (i := 24) (o := { dst := some 4, op := Op.alloc 55, type := 0, pos := "chain.go:54", after := #[], guard := none }) (by kernel_rfl) rfl (by rfl) (fun K hK => ?_)
  go_simp; have hbl := (Below.refl W0.heap.size W0).alloc (Nat.le_refl _) (.cells #[.int .i64 0, .int .i64 0] 55); have h := And.intro (below_cell hbl (Nat.le_refl _) hHeld.1) (And.intro (below_cell hbl (Nat.le_refl _) hHeld.2.1) (And.intro (below_cell hbl (Nat.le_refl _) hHeld.2.2.1) (below_cell hbl (Nat.le_refl _) hHeld.2.2.2))); clear hbl
  refine hK.out _ _ h (fun hHeld => ?_)
  clear hK K
  try simp only [Act.put, List.setIfInBounds_toArray, List.set_cons_zero, List.set_cons_succ]
  refine wpAnyD_last (D := 25) (by decide) (o := { dst := none, op := Op.store 55 (Operand.tmp 4) (Operand.tmp 43), type := 0, pos := "chain.go:54", after := #[{ on := 24, ground := Ground.data }, { on := 23, ground := Ground.data }, { on := 0, ground := Ground.phase }, { on := 1, ground := Ground.phase }, { on := 2, ground := Ground.phase }, { on := 3, ground := Ground.phase }, { on := 4, ground := Ground.phase }, { on := 5, ground := Ground.phase }, { on := 6, ground := Ground.phase }, { on := 7, ground := Ground.phase }, { on := 8, ground := Ground.phase }, { on := 9, ground := Ground.phase }, { on := 10, ground := Ground.phase }, { on := 11, ground := Ground.phase }, { on := 12, ground := Ground.phase }, { on := 13, ground := Ground.phase }, { on := 14, ground := Ground.phase }, { on := 15, ground := Ground.phase }, { on := 16, ground := Ground.phase }, { on := 17, ground := Ground.phase }, { on := 18, ground := Ground.phase }, { on := 19, ground := Ground.phase }, { on := 20, ground := Ground.phase }, { on := 21, ground := Ground.phase }, { on := 22, ground := Ground.phase }, { on := 23, ground := Ground.phase }, { on := 24, ground := Ground.phase }], guard := none }) (by kernel_rfl) rfl (by rfl) (fun K hK => ?_)
  go_simp
  refine hK.out _ _ ?_
  clear hK K
  try simp only [Act.put, List.setIfInBounds_toArray, List.set_cons_zero, List.set_cons_succ]
  refine wpAnyD_done (by kernel_rfl) ?_ _
  go_upto_region 2 with fail
  have HBW := Lib.hid ((Below.refl W0.heap.size W0).alloc (Nat.le_refl _) (.cells #[.int .i64 a, .int .i64 b] 55))
  have HN := Lib.hid (blk_new W0 (.cells #[.int .i64 a, .int .i64 b] 55))
  replace HD := Lib.hid (HD.out.below HBW.out (Nat.le_refl _))
  replace HB0 := Lib.hid (HB0.out.trans (HBW.out.mono HB0.out.size))
  clear hHeld h1 a0 a2 b0 HBW p0 p1 p2 p3 q1 q2 h
  generalize W0.heap.size = g4 at *
  generalize W0.alloc (.cells #[.int .i64 a, .int .i64 b] 55) = W1 at *
  have h0 := blk_cell HD.out.lk.blk 0
  have n0 := blk_cell HN.out 0
  have n1 := blk_cell HN.out 1
  simp only [List.getElem?_toArray, List.getElem?_cons_zero, List.getElem?_cons_succ] at h0 n0 n1
  obtain ⟨o, ho⟩ : ∃ o, pairT T (a, b) = o := ⟨_, rfl⟩
  have HO := Lib.hid ho
  refine wp_region_D (Ds := []) (S := fun V => V.cell? ⟨cb, 0, none⟩ = some (.pointer (some ⟨tb, 0, none⟩)) ∧ V.cell? ⟨g4, 0, none⟩ = some (.int .i64 a) ∧ V.cell? ⟨g4, 1, none⟩ = some (.int .i64 b)) (by kernel_rfl) (by exact ⟨h0, n0, n1⟩) (fun hHeld => ?_)
  (replace HD := Lib.hid HD.out.drew); (replace HB0 : Hid (Below w.heap.size w W1.drew) := Lib.hid HB0.out.drew); (have HN1 : Hid (W1.drew.heap[g4]? = some (.cells #[.int .i64 a, .int .i64 b] 55)) := Lib.hid HN.out); (have HP := pair_tab a b ha hb HD.out.tab); rw [ho] at HP; (replace HP := Lib.hid HP); clear HN ho; generalize W1.drew = W2 at *
  refine wpAnyD_takeP (i := 0) (oi := { dst := some 45, op := Op.move (Operand.tmp 0), type := 248, pos := "chain.go:55", after := #[], guard := none }) (d := 45) (v := ?_) rfl rfl (by kernel_rfl) (by kernel_rfl) (by kernel_rfl) (fun _ _ _ h => h) (Or.inl ⟨by rfl, ?_⟩) ?_
  rotate_left
  · (intro w' _; go_simp; (try with_reducible rfl))
  simp only [List.setIfInBounds_toArray, List.set_cons_zero, List.set_cons_succ]
  refine wpAnyD_takeP (i := 1) (oi := { dst := some 46, op := Op.nilCheck (Operand.tmp 45), type := 0, pos := "chain.go:55", after := #[{ on := 0, ground := Ground.data }], guard := none }) (d := 46) (v := ?_) rfl rfl (by kernel_rfl) (by kernel_rfl) (by kernel_rfl) (fun _ _ _ h => h) (Or.inl ⟨by rfl, ?_⟩) ?_
  rotate_left
  · (intro w' _; go_simp; (try with_reducible rfl))
  simp only [List.setIfInBounds_toArray, List.set_cons_zero, List.set_cons_succ]
  refine wpAnyD_takeP (i := 2) (oi := { dst := some 47, op := Op.fieldAddr 264 (Operand.tmp 46) 0, type := 0, pos := "chain.go:55", after := #[{ on := 1, ground := Ground.data }], guard := none }) (d := 47) (v := ?_) rfl rfl (by kernel_rfl) (by kernel_rfl) (by kernel_rfl) (fun _ _ _ h => h) (Or.inl ⟨by rfl, ?_⟩) ?_
  rotate_left
  · (intro w' _; go_simp; (try with_reducible rfl))
  simp only [List.setIfInBounds_toArray, List.set_cons_zero, List.set_cons_succ]
  refine wpAnyD_takeP (i := 4) (oi := { dst := some 49, op := Op.fieldAddr 55 (Operand.tmp 4) 0, type := 0, pos := "chain.go:55", after := #[], guard := none }) (d := 49) (v := ?_) rfl rfl (by kernel_rfl) (by kernel_rfl) (by kernel_rfl) (fun _ _ _ h => h) (Or.inl ⟨by rfl, ?_⟩) ?_
  rotate_left
  · (intro w' _; go_simp; (try with_reducible rfl))
  simp only [List.setIfInBounds_toArray, List.set_cons_zero, List.set_cons_succ]
  refine wpAnyD_takeP (i := 6) (oi := { dst := some 51, op := Op.fieldAddr 55 (Operand.tmp 4) 1, type := 0, pos := "chain.go:55", after := #[], guard := none }) (d := 51) (v := ?_) rfl rfl (by kernel_rfl) (by kernel_rfl) (by kernel_rfl) (fun _ _ _ h => h) (Or.inl ⟨by rfl, ?_⟩) ?_
  rotate_left
  · (intro w' _; go_simp; (try with_reducible rfl))
  simp only [List.setIfInBounds_toArray, List.set_cons_zero, List.set_cons_succ]
  refine wpAnyD_takeD (i := 3) (oi := { dst := some 48, op := Op.load 63 (Operand.tmp 47), type := 63, pos := "chain.go:55", after := #[{ on := 2, ground := Ground.data }], guard := none }) (d := 48) (v := ?_) rfl rfl (by kernel_rfl) (by kernel_rfl) (by kernel_rfl) (by kernel_rfl) (fun _ _ _ h => h) (Or.inl ⟨by rfl, ?_⟩) hHeld ?_
  rotate_left
  · (intro w' hSw; (try dsimp only at hSw); go_simp; (try with_reducible rfl))
  simp only [List.setIfInBounds_toArray, List.set_cons_zero, List.set_cons_succ]
  refine wpAnyD_takeD (i := 5) (oi := { dst := some 50, op := Op.load 3 (Operand.tmp 49), type := 3, pos := "chain.go:55", after := #[{ on := 4, ground := Ground.data }], guard := none }) (d := 50) (v := ?_) rfl rfl (by kernel_rfl) (by kernel_rfl) (by kernel_rfl) (by kernel_rfl) (fun _ _ _ h => h) (Or.inl ⟨by rfl, ?_⟩) hHeld ?_
  rotate_left
  · (intro w' hSw; (try dsimp only at hSw); go_simp; (try with_reducible rfl))
  simp only [List.setIfInBounds_toArray, List.set_cons_zero, List.set_cons_succ]
  refine wpAnyD_takeD (i := 7) (oi := { dst := some 52, op := Op.load 3 (Operand.tmp 51), type := 3, pos := "chain.go:55", after := #[{ on := 6, ground := Ground.data }], guard := none }) (d := 52) (v := ?_) rfl rfl (by kernel_rfl) (by kernel_rfl) (by kernel_rfl) (by kernel_rfl) (fun _ _ _ h => h) (Or.inl ⟨by rfl, ?_⟩) hHeld ?_
  rotate_left
  · (intro w' hSw; (try dsimp only at hSw); go_simp; (try with_reducible rfl))
  simp only [List.setIfInBounds_toArray, List.set_cons_zero, List.set_cons_succ]
  refine wpAnyD_one (i := 8) (o := { dst := some 53, op := Op.call { callee := Callee.value (Operand.func 138), args := #[Operand.tmp 48, Operand.tmp 50, Operand.tmp 52], argTypes := #[63, 3, 3] }, type := 69, pos := "chain.go:55", after := #[{ on := 3, ground := Ground.data }, { on := 5, ground := Ground.data }, { on := 7, ground := Ground.data }], guard := none }) (by kernel_rfl) rfl (by rfl) (fun K hK => ?_)
  go_simp; refine HP.out.mono ?_; rintro e W2 ⟨rfl, rfl⟩; have h := hHeld; go_simp
  refine hK.out _ _ h (fun hHeld => ?_)
  clear hK K
  try simp only [Act.put, List.setIfInBounds_toArray, List.set_cons_zero, List.set_cons_succ]
  refine wpAnyD_takeP (i := 9) (oi := { dst := some 44, op := Op.move (Operand.tmp 53), type := 69, pos := "chain.go:55", after := #[{ on := 8, ground := Ground.data }], guard := none }) (d := 44) (v := ?_) rfl rfl (by kernel_rfl) (by kernel_rfl) (by kernel_rfl) (fun _ _ _ h => h) (Or.inl ⟨by rfl, ?_⟩) ?_
  rotate_left
  · (intro w' _; go_simp; (try with_reducible rfl))
  simp only [List.setIfInBounds_toArray, List.set_cons_zero, List.set_cons_succ]
  refine wpAnyD_takeP (i := 10) (oi := { dst := some 54, op := Op.extract (Operand.tmp 44) 0, type := 3, pos := "chain.go:55", after := #[{ on := 9, ground := Ground.data }], guard := none }) (d := 54) (v := ?_) rfl rfl (by kernel_rfl) (by kernel_rfl) (by kernel_rfl) (fun _ _ _ h => h) (Or.inl ⟨by rfl, ?_⟩) ?_
  rotate_left
  · (intro w' _; go_simp; (try with_reducible rfl))
  simp only [List.setIfInBounds_toArray, List.set_cons_zero, List.set_cons_succ]
  refine wpAnyD_takeP (i := 11) (oi := { dst := some 55, op := Op.extract (Operand.tmp 44) 1, type := 4, pos := "chain.go:55", after := #[{ on := 9, ground := Ground.data }, { on := 12, ground := Ground.gcOnly Departure.lateStores }], guard := none }) (d := 55) (v := ?_) rfl rfl (by kernel_rfl) (by kernel_rfl) (by kernel_rfl) (fun _ _ _ h => h) (Or.inl ⟨by rfl, ?_⟩) ?_
  rotate_left
  · (intro w' _; go_simp; (try with_reducible rfl))
  simp only [List.setIfInBounds_toArray, List.set_cons_zero, List.set_cons_succ]
  refine wpAnyD_takeP (i := 12) (oi := { dst := some 5, op := Op.assign (Operand.tmp 54), type := 3, pos := "chain.go:55", after := #[{ on := 10, ground := Ground.data }, { on := 8, ground := Ground.chain }, { on := 0, ground := Ground.phase }, { on := 1, ground := Ground.phase }, { on := 2, ground := Ground.phase }, { on := 3, ground := Ground.phase }, { on := 4, ground := Ground.phase }, { on := 5, ground := Ground.phase }, { on := 6, ground := Ground.phase }, { on := 7, ground := Ground.phase }, { on := 8, ground := Ground.phase }, { on := 9, ground := Ground.phase }, { on := 10, ground := Ground.phase }, { on := 11, ground := Ground.textOnly Departure.lateStores }], guard := none }) (d := 5) (v := ?_) rfl rfl (by kernel_rfl) (by kernel_rfl) (by kernel_rfl) (fun _ _ _ h => h) (Or.inl ⟨by rfl, ?_⟩) ?_
  rotate_left
  · (intro w' _; go_simp; (try with_reducible rfl))
  simp only [List.setIfInBounds_toArray, List.set_cons_zero, List.set_cons_succ]
  refine wpAnyD_takeP (i := 13) (oi := { dst := some 6, op := Op.assign (Operand.tmp 55), type := 4, pos := "chain.go:55", after := #[{ on := 11, ground := Ground.data }, { on := 12, ground := Ground.chain }, { on := 0, ground := Ground.phase }, { on := 1, ground := Ground.phase }, { on := 2, ground := Ground.phase }, { on := 3, ground := Ground.phase }, { on := 4, ground := Ground.phase }, { on := 5, ground := Ground.phase }, { on := 6, ground := Ground.phase }, { on := 7, ground := Ground.phase }, { on := 8, ground := Ground.phase }, { on := 9, ground := Ground.phase }, { on := 10, ground := Ground.phase }, { on := 11, ground := Ground.phase }, { on := 12, ground := Ground.phase }], guard := none }) (d := 6) (v := ?_) rfl rfl (by kernel_rfl) (by kernel_rfl) (by kernel_rfl) (fun _ _ _ h => h) (Or.inl ⟨by rfl, ?_⟩) ?_
  rotate_left
  · (intro w' _; go_simp; (try with_reducible rfl))
  simp only [List.setIfInBounds_toArray, List.set_cons_zero, List.set_cons_succ]
  refine wpAnyD_done (by kernel_rfl) ?_ _
  clear h hHeld h0 n0 n1
  have h3 := blk_cell HD.out.lk.blk 3
  simp only [List.getElem?_toArray, List.getElem?_cons_zero, List.getElem?_cons_succ] at h3
  cases o with
  | none =>
    simp only [Option.getD_none, Option.isSome_none]
    go_wp2_with fail
    go_end0
    refine ⟨rfl, ⟨Aq, cq, ?_⟩, HB0.out.mono HH.out.sizes⟩
    rw [← HR.out, askQ_none (by show pairB T bel a b = none; unfold pairB; rw [HO.out]; rfl)]
    exact HD.out
  | some r =>
    simp only [Option.getD_some, Option.isSome_some]
    by_cases hlt : (r : Int) < bel
    · have HPB : Hid (pairB T bel a b = some (r : Int)) := Lib.hid (by unfold pairB; rw [HO.out]; simp [hlt])
      have hd : decide ((r : Int) < bel) = true := by simpa using hlt
      go_upto_region 4 with fail
      have h2 := blk_cell HD.out.lk.blk 2
      have n0 := blk_cell HN1.out 0
      have n1 := blk_cell HN1.out 1
      simp only [List.getElem?_toArray, List.getElem?_cons_zero, List.getElem?_cons_succ] at h2 n0 n1
      clear h3 hd HP
      refine wp_region_D (Ds := [9]) (S := fun V => V.cell? ⟨cb, 2, none⟩ = some (.pointer (some ⟨qb, 0, none⟩)) ∧ V.cell? ⟨g4, 0, none⟩ = some (.int .i64 a) ∧ V.cell? ⟨g4, 1, none⟩ = some (.int .i64 b)) (by kernel_rfl) (by exact ⟨h2, n0, n1⟩) (fun hHeld => ?_)
      (replace HD := Lib.hid HD.out.drew); (replace HB0 : Hid (Below w.heap.size w W2.drew) := Lib.hid HB0.out.drew); (have HPU := Lib.hid (by simpa only [hw.wtV] using hw.push_any HD.out.hp (r : Int) (i : Int) ⟨(i : Int), a, b⟩ hQ ht0 ht1 HD.out.sizes)); clear HN1; generalize W2.drew = W3 at *
      refine wpAnyD_takeP (i := 0) (oi := { dst := some 65, op := Op.move (Operand.tmp 0), type := 248, pos := "chain.go:56", after := #[], guard := none }) (d := 65) (v := ?_) rfl rfl (by kernel_rfl) (by kernel_rfl) (by kernel_rfl) (fun _ _ _ h => h) (Or.inl ⟨by rfl, ?_⟩) ?_
      rotate_left
      · (intro w' _; go_simp; (try with_reducible rfl))
      simp only [List.setIfInBounds_toArray, List.set_cons_zero, List.set_cons_succ]
      refine wpAnyD_takeP (i := 1) (oi := { dst := some 66, op := Op.nilCheck (Operand.tmp 65), type := 0, pos := "chain.go:56", after := #[{ on := 0, ground := Ground.data }], guard := none }) (d := 66) (v := ?_) rfl rfl (by kernel_rfl) (by kernel_rfl) (by kernel_rfl) (fun _ _ _ h => h) (Or.inl ⟨by rfl, ?_⟩) ?_
      rotate_left
      · (intro w' _; go_simp; (try with_reducible rfl))
      simp only [List.setIfInBounds_toArray, List.set_cons_zero, List.set_cons_succ]
      refine wpAnyD_takeP (i := 2) (oi := { dst := some 67, op := Op.fieldAddr 264 (Operand.tmp 66) 2, type := 0, pos := "chain.go:56", after := #[{ on := 1, ground := Ground.data }], guard := none }) (d := 67) (v := ?_) rfl rfl (by kernel_rfl) (by kernel_rfl) (by kernel_rfl) (fun _ _ _ h => h) (Or.inl ⟨by rfl, ?_⟩) ?_
      rotate_left
      · (intro w' _; go_simp; (try with_reducible rfl))
      simp only [List.setIfInBounds_toArray, List.set_cons_zero, List.set_cons_succ]
      refine wpAnyD_takeP (i := 4) (oi := { dst := some 69, op := Op.move (Operand.tmp 5), type := 3, pos := "chain.go:56", after := #[], guard := none }) (d := 69) (v := ?_) rfl rfl (by kernel_rfl) (by kernel_rfl) (by kernel_rfl) (fun _ _ _ h => h) (Or.inl ⟨by rfl, ?_⟩) ?_
      rotate_left
      · (intro w' _; go_simp; (try with_reducible rfl))
      simp only [List.setIfInBounds_toArray, List.set_cons_zero, List.set_cons_succ]
      refine wpAnyD_takeP (i := 5) (oi := { dst := some 70, op := Op.move (Operand.tmp 1), type := 3, pos := "chain.go:56", after := #[], guard := none }) (d := 70) (v := ?_) rfl rfl (by kernel_rfl) (by kernel_rfl) (by kernel_rfl) (fun _ _ _ h => h) (Or.inl ⟨by rfl, ?_⟩) ?_
      rotate_left
      · (intro w' _; go_simp; (try with_reducible rfl))
      simp only [List.setIfInBounds_toArray, List.set_cons_zero, List.set_cons_succ]
      refine wpAnyD_takeP (i := 6) (oi := { dst := some 71, op := Op.move (Operand.tmp 1), type := 3, pos := "chain.go:56", after := #[], guard := none }) (d := 71) (v := ?_) rfl rfl (by kernel_rfl) (by kernel_rfl) (by kernel_rfl) (fun _ _ _ h => h) (Or.inl ⟨by rfl, ?_⟩) ?_
      rotate_left
      · (intro w' _; go_simp; (try with_reducible rfl))
      simp only [List.setIfInBounds_toArray, List.set_cons_zero, List.set_cons_succ]
      refine wpAnyD_takeD (i := 3) (oi := { dst := some 68, op := Op.load 258 (Operand.tmp 67), type := 258, pos := "chain.go:56", after := #[{ on := 2, ground := Ground.data }], guard := none }) (d := 68) (v := ?_) rfl rfl (by kernel_rfl) (by kernel_rfl) (by kernel_rfl) (by kernel_rfl) (fun _ _ _ h => h) (Or.inl ⟨by rfl, ?_⟩) hHeld ?_
      rotate_left
      · (intro w' hSw; (try dsimp only at hSw); go_simp; (try with_reducible rfl))
      simp only [List.setIfInBounds_toArray, List.set_cons_zero, List.set_cons_succ]
      refine wpAnyD_one (i := 7) (o := { dst := some 72, op := Op.load 55 (Operand.tmp 4), type := 55, pos := "chain.go:56", after := #[], guard := none }) (by kernel_rfl) rfl (by rfl) (fun K hK => ?_)
      go_simp
      refine hK.out _ _ hHeld (fun hHeld => ?_)
      clear hK K
      try simp only [Act.put, List.setIfInBounds_toArray, List.set_cons_zero, List.set_cons_succ]
      refine wpAnyD_takeP (i := 8) (oi := { dst := some 73, op := Op.build 261 #[(0, Operand.tmp 71), (1, Operand.tmp 72)], type := 261, pos := "chain.go:56", after := #[{ on := 6, ground := Ground.data }, { on := 7, ground := Ground.data }], guard := none }) (d := 73) (v := ?_) rfl rfl (by kernel_rfl) (by kernel_rfl) (by kernel_rfl) (fun _ _ _ h => h) (Or.inl ⟨by rfl, ?_⟩) ?_
      rotate_left
      · (intro w' _; go_simp; (try with_reducible rfl))
      simp only [List.setIfInBounds_toArray, List.set_cons_zero, List.set_cons_succ]
      refine wpAnyD_last (D := 9) (by decide) (o := { dst := some 74, op := Op.call { callee := Callee.value (Operand.func 190), args := #[Operand.tmp 68, Operand.tmp 69, Operand.tmp 70, Operand.tmp 73], argTypes := #[258, 3, 3, 261] }, type := 0, pos := "chain.go:56", after := #[{ on := 3, ground := Ground.data }, { on := 4, ground := Ground.data }, { on := 5, ground := Ground.data }, { on := 8, ground := Ground.data }], guard := none }) (by kernel_rfl) rfl (by rfl) (fun K hK => ?_)
      go_simp; refine HPU.out.mono ?_; rintro e W4 ⟨rfl, h5, hk⟩; have H5 := Lib.hid h5; have HK := Lib.hid hk; clear h5 hk; go_simp
      refine hK.out _ _ ?_
      clear hK K
      try simp only [Act.put, List.setIfInBounds_toArray, List.set_cons_zero, List.set_cons_succ]
      refine wpAnyD_done (by kernel_rfl) ?_ _
      go_wp2_with fail
      go_end0
      obtain ⟨Aq', cq', h6, _⟩ := H5.out
      obtain ⟨hC, hB⟩ := HD.out.queue h6 HK.out
      refine ⟨rfl, ⟨Aq', cq', ?_⟩, (HB0.out.mono HH.out.sizes).trans hB⟩
      rw [← HR.out, askQ_some HPB.out]
      exact hC
    · have hd : decide ((r : Int) < bel) = false := by simpa using hlt
      have HPB : Hid (pairB T bel a b = none) := Lib.hid (by unfold pairB; rw [HO.out]; simp; omega)
      go_wp2_with fail
      go_end0
      refine ⟨rfl, ⟨Aq, cq, ?_⟩, HB0.out.mono HH.out.sizes⟩
      rw [← HR.out, askQ_none HPB.out]
      exact HD.out
theorem wf_id {a : Int} (h : 0 ≤ a ∧ a < 1000000) : (Lit.int .i64 a).wf = true := by
  have e1 : IntKind.i64.min = -9223372036854775808 := by decide
  have e2 : IntKind.i64.max = 9223372036854775807 := by decide
  simp only [Lit.wf, e1, e2, Bool.and_eq_true, decide_eq_true_eq]
  omega
theorem asks_live (h : ChainIs w base tbase tb T sv mb mp cb qb N bel steps A c Q turn Aq cq) {p q : List Nd} {i : Nat} {a : Int} (hL : Lives N (p ++ ((i : Int), a) :: q)) (hQ : Q.length < 1000000000) (ht0 : 0 ≤ turn) (ht1 : turn < 1000000000000000000) :
    Calls Tryz.prog 179 #[.pointer (some ⟨cb, 0, none⟩), .int .i64 (i : Int)] w fun e w' => e = .returned (.tuple #[]) ∧ (∃ Aq' cq', ChainIs w' base tbase tb T sv mb mp cb qb N bel steps A c (askQ (pairB T bel) Q turn i a q).1 (askQ (pairB T bel) Q turn i a q).2 Aq' cq') ∧ Below base w w' := by
  obtain ⟨k, e, hk⟩ := hL.at_ p i a q rfl
  have e : i = k := by omega
  subst e
  rcases q with _ | ⟨⟨j, b⟩, q⟩
  · exact (asks_last h i a _ hk).mono fun e w' ⟨h1, h2⟩ => ⟨h1, by subst h2; exact ⟨Aq, cq, h⟩, by subst h2; exact Below.refl _ _⟩
  · obtain ⟨m, rfl, hm⟩ := hL.at_ (p ++ [((i : Int), a)]) j b q (by simp)
    exact asks_two h i m a _ b _ hk hm (wf_id (hL.nn ((i : Int), a) (by simp))) (wf_id (hL.nn ((m : Int), b) (by simp))) hQ ht0 ht1 _ rfl
theorem asks_ahead (h : ChainIs w base tbase tb T sv mb mp cb qb N bel steps A c Q turn Aq cq) {p q : List Nd} (hL : Lives N (p ++ q)) (hQ : Q.length < 1000000000) (ht0 : 0 ≤ turn) (ht1 : turn < 1000000000000000000) :
    Calls Tryz.prog 179 #[.pointer (some ⟨cb, 0, none⟩), .int .i64 (lastI p)] w fun e w' => e = .returned (.tuple #[]) ∧ (∃ Aq' cq', ChainIs w' base tbase tb T sv mb mp cb qb N bel steps A c (askL (pairB T bel) Q turn p q).1 (askL (pairB T bel) Q turn p q).2 Aq' cq') ∧ Below base w w' := by
  rcases List.eq_nil_or_concat p with rfl | ⟨p', x, rfl⟩
  · exact (asks_end h).mono fun e w' ⟨h1, h2⟩ => ⟨h1, by subst h2; exact ⟨Aq, cq, h⟩, by subst h2; exact Below.refl _ _⟩
  · rw [List.concat_eq_append] at *
    have hL' : Lives N (p' ++ x :: q) := by simpa using hL
    obtain ⟨k, e, _⟩ := hL'.place (x := x) (by simp)
    obtain ⟨x1, x2⟩ := x
    simp only at e
    subst e
    have := asks_live h hL' hQ ht0 ht1
    rw [lastI_snoc]
    unfold askL
    rw [List.getLast?_concat]
    exact this
end
end Go.Proofs.YtbppaiejpgdbiaaGreat

/- Layer 5 (chain): stale. -/
namespace Go.Proofs.YtbppaiejpgdbiaaGreat
open Go.RowKit Go.Maps Go.WideMaps
set_option maxRecDepth 100000
set_option linter.unusedVariables false
set_option linter.unusedSimpArgs false

/-- aren't two any more what they were? -/
def staleB (N : List Node) (x : Node) (a b : Int) : Bool :=
  if x.1 ≠ a then true else if x.2.2 = -1 then true else match N[x.2.2.toNat]? with
    | some y => y.1 != b
    | none => true
section
variable {w w' : World} {base tbase tb : Nat} {T : List Ent} {sv : Value} {mb mp cb qb : Nat} {N : List Node} {bel steps : Int} {A : Option Addr} {c : Nat} {Q : List (Th Wt)} {turn : Int} {Aq : Option Addr} {cq : Nat}
set_option maxHeartbeats 4000000 in
theorem stale_any (h : ChainIs w base tbase tb T sv mb mp cb qb N bel steps A c Q turn Aq cq) (i : Nat) (x : Node) (a b : Int) (hi : N[i]? = some x) (hnx : x.1 = a → x.2.2 ≠ -1 → ∃ j : Nat, x.2.2 = j ∧ ∃ y, N[j]? = some y) :
    Calls Tryz.prog 181 #[.pointer (some ⟨cb, 0, none⟩), hw.wtV ⟨(i : Int), a, b⟩] w fun e w' => e = .returned (.bool (staleB N x a b)) ∧ Below w.heap.size w w' := by
  obtain ⟨B, hB⟩ : ∃ B, staleB N x a b = B := ⟨_, rfl⟩
  rw [hB]
  have HBB := Lib.hid hB
  obtain ⟨x1, x2, x3⟩ := x
  have hlt := (List.getElem?_eq_some_iff.1 hi).1
  have hbx := (Below.refl w.heap.size w).alloc (Nat.le_refl _) (.cells #[.int .i64 (i : Int), .int .i64 a, .int .i64 b] 261)
  have hn := blk_new w (.cells #[.int .i64 (i : Int), .int .i64 a, .int .i64 b] 261)
  have HD := Lib.hid (h.below hbx (Nat.le_refl _))
  have HB0 := Lib.hid hbx
  have HN := Lib.hid hn
  have p0 : (0 : Int) ≤ (i : Int) := by omega
  have p1 : (i : Int) < (N.length : Int) := by omega
  have HI := Lib.hid hi
  have HX := Lib.hid hnx
  have HG : Hid (∃ g3, g3 = w.heap.size) := Lib.hid ⟨_, rfl⟩
  clear h hB hbx hn hi hnx
  unfold hw.wtV
  go_enter Tryz.func181, Tryz.ntmps181
  go_upto_region 1 with fail
  generalize w.alloc (.cells #[.int .i64 (i : Int), .int .i64 a, .int .i64 b] 261) = W1 at *
  obtain ⟨g, hA, a0, a1, a2⟩ := HD.out.lk.at i _ HI.out
  subst hA
  have h1 := blk_cell HD.out.lk.blk 1
  have n0 := blk_cell HN.out 0
  simp only [List.getElem?_toArray, List.getElem?_cons_zero, List.getElem?_cons_succ] at h1 a0 a1 a2 n0
  refine wp_region_D (Ds := [9]) (S := fun V => V.cell? ⟨cb, 1, none⟩ = some (.slice (some ⟨g, 0, none⟩) N.length c) ∧ V.cell? ⟨w.heap.size, 0, none⟩ = some (.int .i64 (i : Int)) ∧ V.cell? ⟨g, i * 3, none⟩ = some (.int .i64 x1) ∧ V.cell? ⟨g, i * 3 + 1, none⟩ = some (.int .i64 x2) ∧ V.cell? ⟨g, i * 3 + 2, none⟩ = some (.int .i64 x3)) (by kernel_rfl) (by exact ⟨h1, n0, a0, a1, a2⟩) (fun hHeld => ?_)
  (replace HD := Lib.hid HD.out.drew); (replace HB0 : Hid (Below w.heap.size w W1.drew) := Lib.hid HB0.out.drew); (replace HN : Hid (W1.drew.heap[w.heap.size]? = some (.cells #[.int .i64 (i : Int), .int .i64 a, .int .i64 b] 261)) := Lib.hid HN.out); generalize W1.drew = W0 at *
  refine wpAnyD_takeP (i := 0) (oi := { dst := some 6, op := Op.move (Operand.tmp 0), type := 248, pos := "chain.go:62", after := #[], guard := none }) (d := 6) (v := ?_) rfl rfl (by kernel_rfl) (by kernel_rfl) (by kernel_rfl) (fun _ _ _ h => h) (Or.inl ⟨by rfl, ?_⟩) ?_
  rotate_left
  · (intro w' _; go_simp; (try with_reducible rfl))
  simp only [List.setIfInBounds_toArray, List.set_cons_zero, List.set_cons_succ]
  refine wpAnyD_takeP (i := 1) (oi := { dst := some 7, op := Op.nilCheck (Operand.tmp 6), type := 0, pos := "chain.go:62", after := #[{ on := 0, ground := Ground.data }], guard := none }) (d := 7) (v := ?_) rfl rfl (by kernel_rfl) (by kernel_rfl) (by kernel_rfl) (fun _ _ _ h => h) (Or.inl ⟨by rfl, ?_⟩) ?_
  rotate_left
  · (intro w' _; go_simp; (try with_reducible rfl))
  simp only [List.setIfInBounds_toArray, List.set_cons_zero, List.set_cons_succ]
  refine wpAnyD_takeP (i := 2) (oi := { dst := some 8, op := Op.fieldAddr 264 (Operand.tmp 7) 1, type := 0, pos := "chain.go:62", after := #[{ on := 1, ground := Ground.data }], guard := none }) (d := 8) (v := ?_) rfl rfl (by kernel_rfl) (by kernel_rfl) (by kernel_rfl) (fun _ _ _ h => h) (Or.inl ⟨by rfl, ?_⟩) ?_
  rotate_left
  · (intro w' _; go_simp; (try with_reducible rfl))
  simp only [List.setIfInBounds_toArray, List.set_cons_zero, List.set_cons_succ]
  refine wpAnyD_takeP (i := 4) (oi := { dst := some 10, op := Op.fieldAddr 261 (Operand.tmp 3) 0, type := 0, pos := "chain.go:62", after := #[], guard := none }) (d := 10) (v := ?_) rfl rfl (by kernel_rfl) (by kernel_rfl) (by kernel_rfl) (fun _ _ _ h => h) (Or.inl ⟨by rfl, ?_⟩) ?_
  rotate_left
  · (intro w' _; go_simp; (try with_reducible rfl))
  simp only [List.setIfInBounds_toArray, List.set_cons_zero, List.set_cons_succ]
  refine wpAnyD_takeD (i := 3) (oi := { dst := some 9, op := Op.load 262 (Operand.tmp 8), type := 262, pos := "chain.go:62", after := #[{ on := 2, ground := Ground.data }], guard := none }) (d := 9) (v := ?_) rfl rfl (by kernel_rfl) (by kernel_rfl) (by kernel_rfl) (by kernel_rfl) (fun _ _ _ h => h) (Or.inl ⟨by rfl, ?_⟩) hHeld ?_
  rotate_left
  · (intro w' hSw; (try dsimp only at hSw); go_simp; (try with_reducible rfl))
  simp only [List.setIfInBounds_toArray, List.set_cons_zero, List.set_cons_succ]
  refine wpAnyD_takeD (i := 5) (oi := { dst := some 11, op := Op.load 3 (Operand.tmp 10), type := 3, pos := "chain.go:62", after := #[{ on := 4, ground := Ground.data }], guard := none }) (d := 11) (v := ?_) rfl rfl (by kernel_rfl) (by kernel_rfl) (by kernel_rfl) (by kernel_rfl) (fun _ _ _ h => h) (Or.inl ⟨by rfl, ?_⟩) hHeld ?_
  rotate_left
  · (intro w' hSw; (try dsimp only at hSw); go_simp; (try with_reducible rfl))
  simp only [List.setIfInBounds_toArray, List.set_cons_zero, List.set_cons_succ]
  refine wpAnyD_takeP (i := 6) (oi := { dst := some 12, op := Op.indexAddr 262 (Operand.tmp 9) (Operand.tmp 11), type := 0, pos := "chain.go:62", after := #[{ on := 3, ground := Ground.data }, { on := 5, ground := Ground.data }], guard := none }) (d := 12) (v := ?_) rfl rfl (by kernel_rfl) (by kernel_rfl) (by kernel_rfl) (fun _ _ _ h => h) (Or.inl ⟨by rfl, ?_⟩) ?_
  rotate_left
  · (intro w' _; go_simp; (try with_reducible rfl))
  simp only [List.setIfInBounds_toArray, List.set_cons_zero, List.set_cons_succ]
  refine wpAnyD_takeD (i := 7) (oi := { dst := some 13, op := Op.load 266 (Operand.tmp 12), type := 266, pos := "chain.go:62", after := #[{ on := 6, ground := Ground.data }], guard := none }) (d := 13) (v := ?_) rfl rfl (by kernel_rfl) (by kernel_rfl) (by kernel_rfl) (by kernel_rfl) (fun _ _ _ h => h) (Or.inl ⟨by rfl, ?_⟩) hHeld ?_
  rotate_left
  · (intro w' hSw; (try dsimp only at hSw); go_simp; (try with_reducible rfl))
  simp only [List.setIfInBounds_toArray, List.set_cons_zero, List.set_cons_succ]
  refine wpAnyD_one (i := 8) (o := { dst := some 5, op := Op.alloc 266, type := 0, pos := "chain.go:62", after := #[], guard := none }) (by kernel_rfl) rfl (by rfl) (fun K hK => ?_)
  go_simp; have hbl := (Below.refl W0.heap.size W0).alloc (Nat.le_refl _) (.cells #[.int .i64 0, .int .i64 0, .int .i64 0] 266); have h := And.intro (below_cell hbl (Nat.le_refl _) hHeld.1) (And.intro (below_cell hbl (Nat.le_refl _) hHeld.2.1) (And.intro (below_cell hbl (Nat.le_refl _) hHeld.2.2.1) (And.intro (below_cell hbl (Nat.le_refl _) hHeld.2.2.2.1) (below_cell hbl (Nat.le_refl _) hHeld.2.2.2.2)))); clear hbl
  refine hK.out _ _ h (fun hHeld => ?_)
  clear hK K
  try simp only [Act.put, List.setIfInBounds_toArray, List.set_cons_zero, List.set_cons_succ]
  refine wpAnyD_last (D := 9) (by decide) (o := { dst := none, op := Op.store 266 (Operand.tmp 5) (Operand.tmp 13), type := 0, pos := "chain.go:62", after := #[{ on := 8, ground := Ground.data }, { on := 7, ground := Ground.data }, { on := 0, ground := Ground.phase }, { on := 1, ground := Ground.phase }, { on := 2, ground := Ground.phase }, { on := 3, ground := Ground.phase }, { on := 4, ground := Ground.phase }, { on := 5, ground := Ground.phase }, { on := 6, ground := Ground.phase }, { on := 7, ground := Ground.phase }, { on := 8, ground := Ground.phase }], guard := none }) (by kernel_rfl) rfl (by rfl) (fun K hK => ?_)
  go_simp
  refine hK.out _ _ ?_
  clear hK K
  try simp only [Act.put, List.setIfInBounds_toArray, List.set_cons_zero, List.set_cons_succ]
  refine wpAnyD_done (by kernel_rfl) ?_ _
  go_upto_region 2 with fail
  clear h hHeld h1 n0 a0 a1 a2 p0 p1
  have HBW := Lib.hid ((Below.refl W0.heap.size W0).alloc (Nat.le_refl _) (.cells #[.int .i64 x1, .int .i64 x2, .int .i64 x3] 266))
  have HN5 := Lib.hid (blk_new W0 (.cells #[.int .i64 x1, .int .i64 x2, .int .i64 x3] 266))
  replace HN := Lib.hid (blk_alloc HN.out (.cells #[.int .i64 x1, .int .i64 x2, .int .i64 x3] 266))
  replace HD := Lib.hid (HD.out.below HBW.out (Nat.le_refl _))
  replace HB0 := Lib.hid (HB0.out.trans (HBW.out.mono HB0.out.size))
  clear HBW
  generalize W0.heap.size = g5 at *
  generalize W0.alloc (.cells #[.int .i64 x1, .int .i64 x2, .int .i64 x3] 266) = W2 at *
  have h1 := blk_cell HD.out.lk.blk 1
  have n1 := blk_cell HN.out 1
  have n2 := blk_cell HN.out 2
  have m0 := blk_cell HN5.out 0
  have m2 := blk_cell HN5.out 2
  simp only [List.getElem?_toArray, List.getElem?_cons_zero, List.getElem?_cons_succ] at h1 n1 n2 m0 m2
  by_cases e1 : x1 = a
  · subst e1
    by_cases e2 : x3 = -1
    · subst e2
      have HT : Hid (B = true) := Lib.hid (by rw [← HBB.out]; simp [staleB])
      refine wp_region_held_drew (S := fun V => V.cell? ⟨cb, 1, none⟩ = some (.slice (some ⟨g, 0, none⟩) N.length c) ∧ V.cell? ⟨w.heap.size, 1, none⟩ = some (.int .i64 x1) ∧ V.cell? ⟨g5, 0, none⟩ = some (.int .i64 x1) ∧ V.cell? ⟨g5, 2, none⟩ = some (.int .i64 (-1))) (by kernel_rfl) (by exact ⟨h1, n1, m0, m2⟩) (fun hHeld => ?_)
      refine wpAnyH_takeD (i := 0) (oi := { dst := some 14, op := Op.fieldAddr 266 (Operand.tmp 5) 0, type := 0, pos := "chain.go:63", after := #[], guard := none }) (d := 14) (v := ?_) rfl rfl (by kernel_rfl) (by kernel_rfl) (by kernel_rfl) (fun _ _ _ h => h) (Or.inl ⟨by rfl, ?_⟩) hHeld ?_
      rotate_left
      · (intro w' hSw; (try dsimp only at hSw); go_simp; (try with_reducible rfl))
      simp only [List.setIfInBounds_toArray, List.set_cons_zero, List.set_cons_succ]
      refine wpAnyH_takeD (i := 1) (oi := { dst := some 15, op := Op.load 3 (Operand.tmp 14), type := 3, pos := "chain.go:63", after := #[{ on := 0, ground := Ground.data }], guard := none }) (d := 15) (v := ?_) rfl rfl (by kernel_rfl) (by kernel_rfl) (by kernel_rfl) (fun _ _ _ h => h) (Or.inl ⟨by rfl, ?_⟩) hHeld ?_
      rotate_left
      · (intro w' hSw; (try dsimp only at hSw); go_simp; (try with_reducible rfl))
      simp only [List.setIfInBounds_toArray, List.set_cons_zero, List.set_cons_succ]
      refine wpAnyH_takeD (i := 2) (oi := { dst := some 16, op := Op.fieldAddr 261 (Operand.tmp 3) 1, type := 0, pos := "chain.go:63", after := #[], guard := none }) (d := 16) (v := ?_) rfl rfl (by kernel_rfl) (by kernel_rfl) (by kernel_rfl) (fun _ _ _ h => h) (Or.inl ⟨by rfl, ?_⟩) hHeld ?_
      rotate_left
      · (intro w' hSw; (try dsimp only at hSw); go_simp; (try with_reducible rfl))
      simp only [List.setIfInBounds_toArray, List.set_cons_zero, List.set_cons_succ]
      refine wpAnyH_takeD (i := 3) (oi := { dst := some 17, op := Op.fieldAddr 55 (Operand.tmp 16) 0, type := 0, pos := "chain.go:63", after := #[{ on := 2, ground := Ground.data }], guard := none }) (d := 17) (v := ?_) rfl rfl (by kernel_rfl) (by kernel_rfl) (by kernel_rfl) (fun _ _ _ h => h) (Or.inl ⟨by rfl, ?_⟩) hHeld ?_
      rotate_left
      · (intro w' hSw; (try dsimp only at hSw); go_simp; (try with_reducible rfl))
      simp only [List.setIfInBounds_toArray, List.set_cons_zero, List.set_cons_succ]
      refine wpAnyH_takeD (i := 4) (oi := { dst := some 18, op := Op.load 3 (Operand.tmp 17), type := 3, pos := "chain.go:63", after := #[{ on := 3, ground := Ground.data }], guard := none }) (d := 18) (v := ?_) rfl rfl (by kernel_rfl) (by kernel_rfl) (by kernel_rfl) (fun _ _ _ h => h) (Or.inl ⟨by rfl, ?_⟩) hHeld ?_
      rotate_left
      · (intro w' hSw; (try dsimp only at hSw); go_simp; (try with_reducible rfl))
      simp only [List.setIfInBounds_toArray, List.set_cons_zero, List.set_cons_succ]
      refine wpAnyH_takeD (i := 5) (oi := { dst := some 19, op := Op.binOp BinOp.neq 3 (Operand.tmp 15) (Operand.tmp 18) 3, type := 4, pos := "chain.go:63", after := #[{ on := 1, ground := Ground.data }, { on := 4, ground := Ground.data }], guard := none }) (d := 19) (v := ?_) rfl rfl (by kernel_rfl) (by kernel_rfl) (by kernel_rfl) (fun _ _ _ h => h) (Or.inl ⟨by rfl, ?_⟩) hHeld ?_
      rotate_left
      · (intro w' hSw; (try dsimp only at hSw); go_simp; (try with_reducible rfl))
      simp only [List.setIfInBounds_toArray, List.set_cons_zero, List.set_cons_succ]
      refine wpAnyH_takeD (i := 6) (oi := { dst := some 20, op := Op.move (Operand.tmp 19), type := 4, pos := "chain.go:63", after := #[{ on := 5, ground := Ground.data }], guard := none }) (d := 20) (v := ?_) rfl rfl (by kernel_rfl) (by kernel_rfl) (by kernel_rfl) (fun _ _ _ h => h) (Or.inl ⟨by rfl, ?_⟩) hHeld ?_
      rotate_left
      · (intro w' hSw; (try dsimp only at hSw); go_simp; (try with_reducible rfl))
      simp only [List.setIfInBounds_toArray, List.set_cons_zero, List.set_cons_succ]
      refine wpAnyH_takeD (i := 7) (oi := { dst := some 21, op := Op.fieldAddr 266 (Operand.tmp 5) 2, type := 0, pos := "chain.go:63", after := #[{ on := 6, ground := Ground.guard }], guard := some (6, false) }) (d := 21) (v := ?_) rfl rfl (by kernel_rfl) (by kernel_rfl) (by kernel_rfl) (fun _ _ _ h => h) (Or.inl ⟨by rfl, ?_⟩) hHeld ?_
      rotate_left
      · (intro w' hSw; (try dsimp only at hSw); go_simp; (try with_reducible rfl))
      simp only [List.setIfInBounds_toArray, List.set_cons_zero, List.set_cons_succ]
      refine wpAnyH_takeD (i := 8) (oi := { dst := some 22, op := Op.load 3 (Operand.tmp 21), type := 3, pos := "chain.go:63", after := #[{ on := 7, ground := Ground.data }, { on := 6, ground := Ground.guard }], guard := some (6, false) }) (d := 22) (v := ?_) rfl rfl (by kernel_rfl) (by kernel_rfl) (by kernel_rfl) (fun _ _ _ h => h) (Or.inl ⟨by rfl, ?_⟩) hHeld ?_
      rotate_left
      · (intro w' hSw; (try dsimp only at hSw); go_simp; (try with_reducible rfl))
      simp only [List.setIfInBounds_toArray, List.set_cons_zero, List.set_cons_succ]
      refine wpAnyH_takeD (i := 9) (oi := { dst := some 23, op := Op.binOp BinOp.eql 3 (Operand.tmp 22) (Operand.const (Value.int IntKind.i64 (-1))) 3, type := 4, pos := "chain.go:63", after := #[{ on := 8, ground := Ground.data }, { on := 6, ground := Ground.guard }], guard := some (6, false) }) (d := 23) (v := ?_) rfl rfl (by kernel_rfl) (by kernel_rfl) (by kernel_rfl) (fun _ _ _ h => h) (Or.inl ⟨by rfl, ?_⟩) hHeld ?_
      rotate_left
      · (intro w' hSw; (try dsimp only at hSw); go_simp; (try with_reducible rfl))
      simp only [List.setIfInBounds_toArray, List.set_cons_zero, List.set_cons_succ]
      refine wpAnyH_takeD (i := 10) (oi := { dst := some 24, op := Op.pick (Operand.tmp 20) (Operand.const (Value.bool true)) (Operand.tmp 23), type := 4, pos := "chain.go:63", after := #[{ on := 6, ground := Ground.data }, { on := 9, ground := Ground.data }], guard := none }) (d := 24) (v := ?_) rfl rfl (by kernel_rfl) (by kernel_rfl) (by kernel_rfl) (fun _ _ _ h => h) (Or.inl ⟨by rfl, ?_⟩) hHeld ?_
      rotate_left
      · (intro w' hSw; (try dsimp only at hSw); go_simp; (try with_reducible rfl))
      simp only [List.setIfInBounds_toArray, List.set_cons_zero, List.set_cons_succ]
      refine wpAnyH_takeD (i := 11) (oi := { dst := some 25, op := Op.move (Operand.tmp 24), type := 4, pos := "chain.go:63", after := #[{ on := 10, ground := Ground.data }, { on := 6, ground := Ground.chain }], guard := none }) (d := 25) (v := ?_) rfl rfl (by kernel_rfl) (by kernel_rfl) (by kernel_rfl) (fun _ _ _ h => h) (Or.inl ⟨by rfl, ?_⟩) hHeld ?_
      rotate_left
      · (intro w' hSw; (try dsimp only at hSw); go_simp; (try with_reducible rfl))
      simp only [List.setIfInBounds_toArray, List.set_cons_zero, List.set_cons_succ]
      refine wpAnyH_takeD (i := 12) (oi := { dst := some 26, op := Op.move (Operand.tmp 0), type := 248, pos := "chain.go:63", after := #[{ on := 11, ground := Ground.guard }], guard := some (11, false) }) (d := 26) (v := undef) rfl rfl (by kernel_rfl) (by kernel_rfl) (by kernel_rfl) (fun _ _ _ h => h) (Or.inr ⟨by rfl, rfl⟩) hHeld ?_
      simp only [List.setIfInBounds_toArray, List.set_cons_zero, List.set_cons_succ]
      refine wpAnyH_takeD (i := 13) (oi := { dst := some 27, op := Op.nilCheck (Operand.tmp 26), type := 0, pos := "chain.go:63", after := #[{ on := 12, ground := Ground.data }, { on := 11, ground := Ground.guard }], guard := some (11, false) }) (d := 27) (v := undef) rfl rfl (by kernel_rfl) (by kernel_rfl) (by kernel_rfl) (fun _ _ _ h => h) (Or.inr ⟨by rfl, rfl⟩) hHeld ?_
      simp only [List.setIfInBounds_toArray, List.set_cons_zero, List.set_cons_succ]
      refine wpAnyH_takeD (i := 14) (oi := { dst := some 28, op := Op.fieldAddr 264 (Operand.tmp 27) 1, type := 0, pos := "chain.go:63", after := #[{ on := 13, ground := Ground.data }, { on := 11, ground := Ground.guard }], guard := some (11, false) }) (d := 28) (v := undef) rfl rfl (by kernel_rfl) (by kernel_rfl) (by kernel_rfl) (fun _ _ _ h => h) (Or.inr ⟨by rfl, rfl⟩) hHeld ?_
      simp only [List.setIfInBounds_toArray, List.set_cons_zero, List.set_cons_succ]
      refine wpAnyH_takeD (i := 15) (oi := { dst := some 29, op := Op.load 262 (Operand.tmp 28), type := 262, pos := "chain.go:63", after := #[{ on := 14, ground := Ground.data }, { on := 11, ground := Ground.guard }], guard := some (11, false) }) (d := 29) (v := undef) rfl rfl (by kernel_rfl) (by kernel_rfl) (by kernel_rfl) (fun _ _ _ h => h) (Or.inr ⟨by rfl, rfl⟩) hHeld ?_
      simp only [List.setIfInBounds_toArray, List.set_cons_zero, List.set_cons_succ]
      refine wpAnyH_takeD (i := 16) (oi := { dst := some 30, op := Op.fieldAddr 266 (Operand.tmp 5) 2, type := 0, pos := "chain.go:63", after := #[{ on := 11, ground := Ground.guard }], guard := some (11, false) }) (d := 30) (v := undef) rfl rfl (by kernel_rfl) (by kernel_rfl) (by kernel_rfl) (fun _ _ _ h => h) (Or.inr ⟨by rfl, rfl⟩) hHeld ?_
      simp only [List.setIfInBounds_toArray, List.set_cons_zero, List.set_cons_succ]
      refine wpAnyH_takeD (i := 17) (oi := { dst := some 31, op := Op.load 3 (Operand.tmp 30), type := 3, pos := "chain.go:63", after := #[{ on := 16, ground := Ground.data }, { on := 11, ground := Ground.guard }], guard := some (11, false) }) (d := 31) (v := undef) rfl rfl (by kernel_rfl) (by kernel_rfl) (by kernel_rfl) (fun _ _ _ h => h) (Or.inr ⟨by rfl, rfl⟩) hHeld ?_
      simp only [List.setIfInBounds_toArray, List.set_cons_zero, List.set_cons_succ]
      refine wpAnyH_takeD (i := 18) (oi := { dst := some 32, op := Op.indexAddr 262 (Operand.tmp 29) (Operand.tmp 31), type := 0, pos := "chain.go:63", after := #[{ on := 15, ground := Ground.data }, { on := 17, ground := Ground.data }, { on := 11, ground := Ground.guard }], guard := some (11, false) }) (d := 32) (v := undef) rfl rfl (by kernel_rfl) (by kernel_rfl) (by kernel_rfl) (fun _ _ _ h => h) (Or.inr ⟨by rfl, rfl⟩) hHeld ?_
      simp only [List.setIfInBounds_toArray, List.set_cons_zero, List.set_cons_succ]
      refine wpAnyH_takeD (i := 19) (oi := { dst := some 33, op := Op.fieldAddr 266 (Operand.tmp 32) 0, type := 0, pos := "chain.go:63", after := #[{ on := 18, ground := Ground.data }, { on := 11, ground := Ground.guard }], guard := some (11, false) }) (d := 33) (v := undef) rfl rfl (by kernel_rfl) (by kernel_rfl) (by kernel_rfl) (fun _ _ _ h => h) (Or.inr ⟨by rfl, rfl⟩) hHeld ?_
      simp only [List.setIfInBounds_toArray, List.set_cons_zero, List.set_cons_succ]
      refine wpAnyH_takeD (i := 20) (oi := { dst := some 34, op := Op.load 3 (Operand.tmp 33), type := 3, pos := "chain.go:63", after := #[{ on := 19, ground := Ground.data }, { on := 11, ground := Ground.guard }], guard := some (11, false) }) (d := 34) (v := undef) rfl rfl (by kernel_rfl) (by kernel_rfl) (by kernel_rfl) (fun _ _ _ h => h) (Or.inr ⟨by rfl, rfl⟩) hHeld ?_
      simp only [List.setIfInBounds_toArray, List.set_cons_zero, List.set_cons_succ]
      refine wpAnyH_takeD (i := 21) (oi := { dst := some 35, op := Op.fieldAddr 261 (Operand.tmp 3) 1, type := 0, pos := "chain.go:63", after := #[{ on := 11, ground := Ground.guard }], guard := some (11, false) }) (d := 35) (v := undef) rfl rfl (by kernel_rfl) (by kernel_rfl) (by kernel_rfl) (fun _ _ _ h => h) (Or.inr ⟨by rfl, rfl⟩) hHeld ?_
      simp only [List.setIfInBounds_toArray, List.set_cons_zero, List.set_cons_succ]
      refine wpAnyH_takeD (i := 22) (oi := { dst := some 36, op := Op.fieldAddr 55 (Operand.tmp 35) 1, type := 0, pos := "chain.go:63", after := #[{ on := 21, ground := Ground.data }, { on := 11, ground := Ground.guard }], guard := some (11, false) }) (d := 36) (v := undef) rfl rfl (by kernel_rfl) (by kernel_rfl) (by kernel_rfl) (fun _ _ _ h => h) (Or.inr ⟨by rfl, rfl⟩) hHeld ?_
      simp only [List.setIfInBounds_toArray, List.set_cons_zero, List.set_cons_succ]
      refine wpAnyH_takeD (i := 23) (oi := { dst := some 37, op := Op.load 3 (Operand.tmp 36), type := 3, pos := "chain.go:63", after := #[{ on := 22, ground := Ground.data }, { on := 11, ground := Ground.guard }], guard := some (11, false) }) (d := 37) (v := undef) rfl rfl (by kernel_rfl) (by kernel_rfl) (by kernel_rfl) (fun _ _ _ h => h) (Or.inr ⟨by rfl, rfl⟩) hHeld ?_
      simp only [List.setIfInBounds_toArray, List.set_cons_zero, List.set_cons_succ]
      refine wpAnyH_takeD (i := 24) (oi := { dst := some 38, op := Op.binOp BinOp.neq 3 (Operand.tmp 34) (Operand.tmp 37) 3, type := 4, pos := "chain.go:63", after := #[{ on := 20, ground := Ground.data }, { on := 23, ground := Ground.data }, { on := 11, ground := Ground.guard }], guard := some (11, false) }) (d := 38) (v := undef) rfl rfl (by kernel_rfl) (by kernel_rfl) (by kernel_rfl) (fun _ _ _ h => h) (Or.inr ⟨by rfl, rfl⟩) hHeld ?_
      simp only [List.setIfInBounds_toArray, List.set_cons_zero, List.set_cons_succ]
      refine wpAnyH_takeD (i := 25) (oi := { dst := some 39, op := Op.pick (Operand.tmp 25) (Operand.const (Value.bool true)) (Operand.tmp 38), type := 4, pos := "chain.go:63", after := #[{ on := 11, ground := Ground.data }, { on := 24, ground := Ground.data }], guard := none }) (d := 39) (v := ?_) rfl rfl (by kernel_rfl) (by kernel_rfl) (by kernel_rfl) (fun _ _ _ h => h) (Or.inl ⟨by rfl, ?_⟩) hHeld ?_
      rotate_left
      · (intro w' hSw; (try dsimp only at hSw); go_simp; (try with_reducible rfl))
      simp only [List.setIfInBounds_toArray, List.set_cons_zero, List.set_cons_succ]
      refine wpAnyH_takeD (i := 26) (oi := { dst := some 4, op := Op.assign (Operand.tmp 39), type := 4, pos := "chain.go:63", after := #[{ on := 25, ground := Ground.data }, { on := 11, ground := Ground.chain }, { on := 0, ground := Ground.phase }, { on := 1, ground := Ground.phase }, { on := 2, ground := Ground.phase }, { on := 3, ground := Ground.phase }, { on := 4, ground := Ground.phase }, { on := 5, ground := Ground.phase }, { on := 6, ground := Ground.phase }, { on := 7, ground := Ground.phase }, { on := 8, ground := Ground.phase }, { on := 9, ground := Ground.phase }, { on := 10, ground := Ground.phase }, { on := 11, ground := Ground.phase }, { on := 12, ground := Ground.phase }, { on := 13, ground := Ground.phase }, { on := 14, ground := Ground.phase }, { on := 15, ground := Ground.phase }, { on := 16, ground := Ground.phase }, { on := 17, ground := Ground.phase }, { on := 18, ground := Ground.phase }, { on := 19, ground := Ground.phase }, { on := 20, ground := Ground.phase }, { on := 21, ground := Ground.phase }, { on := 22, ground := Ground.phase }, { on := 23, ground := Ground.phase }, { on := 24, ground := Ground.phase }, { on := 25, ground := Ground.phase }], guard := none }) (d := 4) (v := ?_) rfl rfl (by kernel_rfl) (by kernel_rfl) (by kernel_rfl) (fun _ _ _ h => h) (Or.inl ⟨by rfl, ?_⟩) hHeld ?_
      rotate_left
      · (intro w' hSw; (try dsimp only at hSw); go_simp; (try with_reducible rfl))
      simp only [List.setIfInBounds_toArray, List.set_cons_zero, List.set_cons_succ]
      refine wpAnyH_done (by kernel_rfl) ?_ _
      go_wp2_with fail
      go_ret
      exact ⟨ret_bool HT.out.symm, HB0.out.drew⟩
    · obtain ⟨j, hj, y, hy⟩ := HX.out rfl e2
      simp only at hj
      subst hj
      have q2 : ((j : Int) == -1) = false := by simp
      have HT : Hid (B = (y.1 != b)) := Lib.hid (by rw [← HBB.out]; simp [staleB, hy])
      have hlt2 := (List.getElem?_eq_some_iff.1 hy).1
      obtain ⟨g', e, b0, b1, b2⟩ := HD.out.lk.at j _ hy
      injection e with e
      injection e with e
      subst e
      have p2 : (0 : Int) ≤ (j : Int) := by omega
      have p3 : (j : Int) < (N.length : Int) := by omega
      clear e2 hy
      refine wp_region_held_drew (S := fun V => V.cell? ⟨cb, 1, none⟩ = some (.slice (some ⟨g, 0, none⟩) N.length c) ∧ V.cell? ⟨w.heap.size, 1, none⟩ = some (.int .i64 x1) ∧ V.cell? ⟨w.heap.size, 2, none⟩ = some (.int .i64 b) ∧ V.cell? ⟨g5, 0, none⟩ = some (.int .i64 x1) ∧ V.cell? ⟨g5, 2, none⟩ = some (.int .i64 (j : Int)) ∧ V.cell? ⟨g, j * 3, none⟩ = some (.int .i64 y.1)) (by kernel_rfl) (by exact ⟨h1, n1, n2, m0, m2, b0⟩) (fun hHeld => ?_)
      refine wpAnyH_takeD (i := 0) (oi := { dst := some 14, op := Op.fieldAddr 266 (Operand.tmp 5) 0, type := 0, pos := "chain.go:63", after := #[], guard := none }) (d := 14) (v := ?_) rfl rfl (by kernel_rfl) (by kernel_rfl) (by kernel_rfl) (fun _ _ _ h => h) (Or.inl ⟨by rfl, ?_⟩) hHeld ?_
      rotate_left
      · (intro w' hSw; (try dsimp only at hSw); go_simp; (try with_reducible rfl))
      simp only [List.setIfInBounds_toArray, List.set_cons_zero, List.set_cons_succ]
      refine wpAnyH_takeD (i := 1) (oi := { dst := some 15, op := Op.load 3 (Operand.tmp 14), type := 3, pos := "chain.go:63", after := #[{ on := 0, ground := Ground.data }], guard := none }) (d := 15) (v := ?_) rfl rfl (by kernel_rfl) (by kernel_rfl) (by kernel_rfl) (fun _ _ _ h => h) (Or.inl ⟨by rfl, ?_⟩) hHeld ?_
      rotate_left
      · (intro w' hSw; (try dsimp only at hSw); go_simp; (try with_reducible rfl))
      simp only [List.setIfInBounds_toArray, List.set_cons_zero, List.set_cons_succ]
      refine wpAnyH_takeD (i := 2) (oi := { dst := some 16, op := Op.fieldAddr 261 (Operand.tmp 3) 1, type := 0, pos := "chain.go:63", after := #[], guard := none }) (d := 16) (v := ?_) rfl rfl (by kernel_rfl) (by kernel_rfl) (by kernel_rfl) (fun _ _ _ h => h) (Or.inl ⟨by rfl, ?_⟩) hHeld ?_
      rotate_left
      · (intro w' hSw; (try dsimp only at hSw); go_simp; (try with_reducible rfl))
      simp only [List.setIfInBounds_toArray, List.set_cons_zero, List.set_cons_succ]
      refine wpAnyH_takeD (i := 3) (oi := { dst := some 17, op := Op.fieldAddr 55 (Operand.tmp 16) 0, type := 0, pos := "chain.go:63", after := #[{ on := 2, ground := Ground.data }], guard := none }) (d := 17) (v := ?_) rfl rfl (by kernel_rfl) (by kernel_rfl) (by kernel_rfl) (fun _ _ _ h => h) (Or.inl ⟨by rfl, ?_⟩) hHeld ?_
      rotate_left
      · (intro w' hSw; (try dsimp only at hSw); go_simp; (try with_reducible rfl))
      simp only [List.setIfInBounds_toArray, List.set_cons_zero, List.set_cons_succ]
      refine wpAnyH_takeD (i := 4) (oi := { dst := some 18, op := Op.load 3 (Operand.tmp 17), type := 3, pos := "chain.go:63", after := #[{ on := 3, ground := Ground.data }], guard := none }) (d := 18) (v := ?_) rfl rfl (by kernel_rfl) (by kernel_rfl) (by kernel_rfl) (fun _ _ _ h => h) (Or.inl ⟨by rfl, ?_⟩) hHeld ?_
      rotate_left
      · (intro w' hSw; (try dsimp only at hSw); go_simp; (try with_reducible rfl))
      simp only [List.setIfInBounds_toArray, List.set_cons_zero, List.set_cons_succ]
      refine wpAnyH_takeD (i := 5) (oi := { dst := some 19, op := Op.binOp BinOp.neq 3 (Operand.tmp 15) (Operand.tmp 18) 3, type := 4, pos := "chain.go:63", after := #[{ on := 1, ground := Ground.data }, { on := 4, ground := Ground.data }], guard := none }) (d := 19) (v := ?_) rfl rfl (by kernel_rfl) (by kernel_rfl) (by kernel_rfl) (fun _ _ _ h => h) (Or.inl ⟨by rfl, ?_⟩) hHeld ?_
      rotate_left
      · (intro w' hSw; (try dsimp only at hSw); go_simp; (try with_reducible rfl))
      simp only [List.setIfInBounds_toArray, List.set_cons_zero, List.set_cons_succ]
      refine wpAnyH_takeD (i := 6) (oi := { dst := some 20, op := Op.move (Operand.tmp 19), type := 4, pos := "chain.go:63", after := #[{ on := 5, ground := Ground.data }], guard := none }) (d := 20) (v := ?_) rfl rfl (by kernel_rfl) (by kernel_rfl) (by kernel_rfl) (fun _ _ _ h => h) (Or.inl ⟨by rfl, ?_⟩) hHeld ?_
      rotate_left
      · (intro w' hSw; (try dsimp only at hSw); go_simp; (try with_reducible rfl))
      simp only [List.setIfInBounds_toArray, List.set_cons_zero, List.set_cons_succ]
      refine wpAnyH_takeD (i := 7) (oi := { dst := some 21, op := Op.fieldAddr 266 (Operand.tmp 5) 2, type := 0, pos := "chain.go:63", after := #[{ on := 6, ground := Ground.guard }], guard := some (6, false) }) (d := 21) (v := ?_) rfl rfl (by kernel_rfl) (by kernel_rfl) (by kernel_rfl) (fun _ _ _ h => h) (Or.inl ⟨by rfl, ?_⟩) hHeld ?_
      rotate_left
      · (intro w' hSw; (try dsimp only at hSw); go_simp; (try with_reducible rfl))
      simp only [List.setIfInBounds_toArray, List.set_cons_zero, List.set_cons_succ]
      refine wpAnyH_takeD (i := 8) (oi := { dst := some 22, op := Op.load 3 (Operand.tmp 21), type := 3, pos := "chain.go:63", after := #[{ on := 7, ground := Ground.data }, { on := 6, ground := Ground.guard }], guard := some (6, false) }) (d := 22) (v := ?_) rfl rfl (by kernel_rfl) (by kernel_rfl) (by kernel_rfl) (fun _ _ _ h => h) (Or.inl ⟨by rfl, ?_⟩) hHeld ?_
      rotate_left
      · (intro w' hSw; (try dsimp only at hSw); go_simp; (try with_reducible rfl))
      simp only [List.setIfInBounds_toArray, List.set_cons_zero, List.set_cons_succ]
      refine wpAnyH_takeD (i := 9) (oi := { dst := some 23, op := Op.binOp BinOp.eql 3 (Operand.tmp 22) (Operand.const (Value.int IntKind.i64 (-1))) 3, type := 4, pos := "chain.go:63", after := #[{ on := 8, ground := Ground.data }, { on := 6, ground := Ground.guard }], guard := some (6, false) }) (d := 23) (v := ?_) rfl rfl (by kernel_rfl) (by kernel_rfl) (by kernel_rfl) (fun _ _ _ h => h) (Or.inl ⟨by rfl, ?_⟩) hHeld ?_
      rotate_left
      · (intro w' hSw; (try dsimp only at hSw); go_simp; (try with_reducible rfl))
      simp only [List.setIfInBounds_toArray, List.set_cons_zero, List.set_cons_succ]
      refine wpAnyH_takeD (i := 10) (oi := { dst := some 24, op := Op.pick (Operand.tmp 20) (Operand.const (Value.bool true)) (Operand.tmp 23), type := 4, pos := "chain.go:63", after := #[{ on := 6, ground := Ground.data }, { on := 9, ground := Ground.data }], guard := none }) (d := 24) (v := ?_) rfl rfl (by kernel_rfl) (by kernel_rfl) (by kernel_rfl) (fun _ _ _ h => h) (Or.inl ⟨by rfl, ?_⟩) hHeld ?_
      rotate_left
      · (intro w' hSw; (try dsimp only at hSw); go_simp; (try with_reducible rfl))
      simp only [List.setIfInBounds_toArray, List.set_cons_zero, List.set_cons_succ]
      refine wpAnyH_takeD (i := 11) (oi := { dst := some 25, op := Op.move (Operand.tmp 24), type := 4, pos := "chain.go:63", after := #[{ on := 10, ground := Ground.data }, { on := 6, ground := Ground.chain }], guard := none }) (d := 25) (v := ?_) rfl rfl (by kernel_rfl) (by kernel_rfl) (by kernel_rfl) (fun _ _ _ h => h) (Or.inl ⟨by rfl, ?_⟩) hHeld ?_
      rotate_left
      · (intro w' hSw; (try dsimp only at hSw); go_simp; (try with_reducible rfl))
      simp only [List.setIfInBounds_toArray, List.set_cons_zero, List.set_cons_succ]
      refine wpAnyH_takeD (i := 12) (oi := { dst := some 26, op := Op.move (Operand.tmp 0), type := 248, pos := "chain.go:63", after := #[{ on := 11, ground := Ground.guard }], guard := some (11, false) }) (d := 26) (v := ?_) rfl rfl (by kernel_rfl) (by kernel_rfl) (by kernel_rfl) (fun _ _ _ h => h) (Or.inl ⟨by rfl, ?_⟩) hHeld ?_
      rotate_left
      · (intro w' hSw; (try dsimp only at hSw); go_simp; (try with_reducible rfl))
      simp only [List.setIfInBounds_toArray, List.set_cons_zero, List.set_cons_succ]
      refine wpAnyH_takeD (i := 13) (oi := { dst := some 27, op := Op.nilCheck (Operand.tmp 26), type := 0, pos := "chain.go:63", after := #[{ on := 12, ground := Ground.data }, { on := 11, ground := Ground.guard }], guard := some (11, false) }) (d := 27) (v := ?_) rfl rfl (by kernel_rfl) (by kernel_rfl) (by kernel_rfl) (fun _ _ _ h => h) (Or.inl ⟨by rfl, ?_⟩) hHeld ?_
      rotate_left
      · (intro w' hSw; (try dsimp only at hSw); go_simp; (try with_reducible rfl))
      simp only [List.setIfInBounds_toArray, List.set_cons_zero, List.set_cons_succ]
      refine wpAnyH_takeD (i := 14) (oi := { dst := some 28, op := Op.fieldAddr 264 (Operand.tmp 27) 1, type := 0, pos := "chain.go:63", after := #[{ on := 13, ground := Ground.data }, { on := 11, ground := Ground.guard }], guard := some (11, false) }) (d := 28) (v := ?_) rfl rfl (by kernel_rfl) (by kernel_rfl) (by kernel_rfl) (fun _ _ _ h => h) (Or.inl ⟨by rfl, ?_⟩) hHeld ?_
      rotate_left
      · (intro w' hSw; (try dsimp only at hSw); go_simp; (try with_reducible rfl))
      simp only [List.setIfInBounds_toArray, List.set_cons_zero, List.set_cons_succ]
      refine wpAnyH_takeD (i := 15) (oi := { dst := some 29, op := Op.load 262 (Operand.tmp 28), type := 262, pos := "chain.go:63", after := #[{ on := 14, ground := Ground.data }, { on := 11, ground := Ground.guard }], guard := some (11, false) }) (d := 29) (v := ?_) rfl rfl (by kernel_rfl) (by kernel_rfl) (by kernel_rfl) (fun _ _ _ h => h) (Or.inl ⟨by rfl, ?_⟩) hHeld ?_
      rotate_left
      · (intro w' hSw; (try dsimp only at hSw); go_simp; (try with_reducible rfl))
      simp only [List.setIfInBounds_toArray, List.set_cons_zero, List.set_cons_succ]
      refine wpAnyH_takeD (i := 16) (oi := { dst := some 30, op := Op.fieldAddr 266 (Operand.tmp 5) 2, type := 0, pos := "chain.go:63", after := #[{ on := 11, ground := Ground.guard }], guard := some (11, false) }) (d := 30) (v := ?_) rfl rfl (by kernel_rfl) (by kernel_rfl) (by kernel_rfl) (fun _ _ _ h => h) (Or.inl ⟨by rfl, ?_⟩) hHeld ?_
      rotate_left
      · (intro w' hSw; (try dsimp only at hSw); go_simp; (try with_reducible rfl))
      simp only [List.setIfInBounds_toArray, List.set_cons_zero, List.set_cons_succ]
      refine wpAnyH_takeD (i := 17) (oi := { dst := some 31, op := Op.load 3 (Operand.tmp 30), type := 3, pos := "chain.go:63", after := #[{ on := 16, ground := Ground.data }, { on := 11, ground := Ground.guard }], guard := some (11, false) }) (d := 31) (v := ?_) rfl rfl (by kernel_rfl) (by kernel_rfl) (by kernel_rfl) (fun _ _ _ h => h) (Or.inl ⟨by rfl, ?_⟩) hHeld ?_
      rotate_left
      · (intro w' hSw; (try dsimp only at hSw); go_simp; (try with_reducible rfl))
      simp only [List.setIfInBounds_toArray, List.set_cons_zero, List.set_cons_succ]
      refine wpAnyH_takeD (i := 18) (oi := { dst := some 32, op := Op.indexAddr 262 (Operand.tmp 29) (Operand.tmp 31), type := 0, pos := "chain.go:63", after := #[{ on := 15, ground := Ground.data }, { on := 17, ground := Ground.data }, { on := 11, ground := Ground.guard }], guard := some (11, false) }) (d := 32) (v := ?_) rfl rfl (by kernel_rfl) (by kernel_rfl) (by kernel_rfl) (fun _ _ _ h => h) (Or.inl ⟨by rfl, ?_⟩) hHeld ?_
      rotate_left
      · (intro w' hSw; (try dsimp only at hSw); go_simp; (try with_reducible rfl))
      simp only [List.setIfInBounds_toArray, List.set_cons_zero, List.set_cons_succ]
      refine wpAnyH_takeD (i := 19) (oi := { dst := some 33, op := Op.fieldAddr 266 (Operand.tmp 32) 0, type := 0, pos := "chain.go:63", after := #[{ on := 18, ground := Ground.data }, { on := 11, ground := Ground.guard }], guard := some (11, false) }) (d := 33) (v := ?_) rfl rfl (by kernel_rfl) (by kernel_rfl) (by kernel_rfl) (fun _ _ _ h => h) (Or.inl ⟨by rfl, ?_⟩) hHeld ?_
      rotate_left
      · (intro w' hSw; (try dsimp only at hSw); go_simp; (try with_reducible rfl))
      simp only [List.setIfInBounds_toArray, List.set_cons_zero, List.set_cons_succ]
      refine wpAnyH_takeD (i := 20) (oi := { dst := some 34, op := Op.load 3 (Operand.tmp 33), type := 3, pos := "chain.go:63", after := #[{ on := 19, ground := Ground.data }, { on := 11, ground := Ground.guard }], guard := some (11, false) }) (d := 34) (v := ?_) rfl rfl (by kernel_rfl) (by kernel_rfl) (by kernel_rfl) (fun _ _ _ h => h) (Or.inl ⟨by rfl, ?_⟩) hHeld ?_
      rotate_left
      · (intro w' hSw; (try dsimp only at hSw); go_simp; (try with_reducible rfl))
      simp only [List.setIfInBounds_toArray, List.set_cons_zero, List.set_cons_succ]
      refine wpAnyH_takeD (i := 21) (oi := { dst := some 35, op := Op.fieldAddr 261 (Operand.tmp 3) 1, type := 0, pos := "chain.go:63", after := #[{ on := 11, ground := Ground.guard }], guard := some (11, false) }) (d := 35) (v := ?_) rfl rfl (by kernel_rfl) (by kernel_rfl) (by kernel_rfl) (fun _ _ _ h => h) (Or.inl ⟨by rfl, ?_⟩) hHeld ?_
      rotate_left
      · (intro w' hSw; (try dsimp only at hSw); go_simp; (try with_reducible rfl))
      simp only [List.setIfInBounds_toArray, List.set_cons_zero, List.set_cons_succ]
      refine wpAnyH_takeD (i := 22) (oi := { dst := some 36, op := Op.fieldAddr 55 (Operand.tmp 35) 1, type := 0, pos := "chain.go:63", after := #[{ on := 21, ground := Ground.data }, { on := 11, ground := Ground.guard }], guard := some (11, false) }) (d := 36) (v := ?_) rfl rfl (by kernel_rfl) (by kernel_rfl) (by kernel_rfl) (fun _ _ _ h => h) (Or.inl ⟨by rfl, ?_⟩) hHeld ?_
      rotate_left
      · (intro w' hSw; (try dsimp only at hSw); go_simp; (try with_reducible rfl))
      simp only [List.setIfInBounds_toArray, List.set_cons_zero, List.set_cons_succ]
      refine wpAnyH_takeD (i := 23) (oi := { dst := some 37, op := Op.load 3 (Operand.tmp 36), type := 3, pos := "chain.go:63", after := #[{ on := 22, ground := Ground.data }, { on := 11, ground := Ground.guard }], guard := some (11, false) }) (d := 37) (v := ?_) rfl rfl (by kernel_rfl) (by kernel_rfl) (by kernel_rfl) (fun _ _ _ h => h) (Or.inl ⟨by rfl, ?_⟩) hHeld ?_
      rotate_left
      · (intro w' hSw; (try dsimp only at hSw); go_simp; (try with_reducible rfl))
      simp only [List.setIfInBounds_toArray, List.set_cons_zero, List.set_cons_succ]
      refine wpAnyH_takeD (i := 24) (oi := { dst := some 38, op := Op.binOp BinOp.neq 3 (Operand.tmp 34) (Operand.tmp 37) 3, type := 4, pos := "chain.go:63", after := #[{ on := 20, ground := Ground.data }, { on := 23, ground := Ground.data }, { on := 11, ground := Ground.guard }], guard := some (11, false) }) (d := 38) (v := ?_) rfl rfl (by kernel_rfl) (by kernel_rfl) (by kernel_rfl) (fun _ _ _ h => h) (Or.inl ⟨by rfl, ?_⟩) hHeld ?_
      rotate_left
      · (intro w' hSw; (try dsimp only at hSw); go_simp; (try with_reducible rfl))
      simp only [List.setIfInBounds_toArray, List.set_cons_zero, List.set_cons_succ]
      refine wpAnyH_takeD (i := 25) (oi := { dst := some 39, op := Op.pick (Operand.tmp 25) (Operand.const (Value.bool true)) (Operand.tmp 38), type := 4, pos := "chain.go:63", after := #[{ on := 11, ground := Ground.data }, { on := 24, ground := Ground.data }], guard := none }) (d := 39) (v := ?_) rfl rfl (by kernel_rfl) (by kernel_rfl) (by kernel_rfl) (fun _ _ _ h => h) (Or.inl ⟨by rfl, ?_⟩) hHeld ?_
      rotate_left
      · (intro w' hSw; (try dsimp only at hSw); go_simp; (try with_reducible rfl))
      simp only [List.setIfInBounds_toArray, List.set_cons_zero, List.set_cons_succ]
      refine wpAnyH_takeD (i := 26) (oi := { dst := some 4, op := Op.assign (Operand.tmp 39), type := 4, pos := "chain.go:63", after := #[{ on := 25, ground := Ground.data }, { on := 11, ground := Ground.chain }, { on := 0, ground := Ground.phase }, { on := 1, ground := Ground.phase }, { on := 2, ground := Ground.phase }, { on := 3, ground := Ground.phase }, { on := 4, ground := Ground.phase }, { on := 5, ground := Ground.phase }, { on := 6, ground := Ground.phase }, { on := 7, ground := Ground.phase }, { on := 8, ground := Ground.phase }, { on := 9, ground := Ground.phase }, { on := 10, ground := Ground.phase }, { on := 11, ground := Ground.phase }, { on := 12, ground := Ground.phase }, { on := 13, ground := Ground.phase }, { on := 14, ground := Ground.phase }, { on := 15, ground := Ground.phase }, { on := 16, ground := Ground.phase }, { on := 17, ground := Ground.phase }, { on := 18, ground := Ground.phase }, { on := 19, ground := Ground.phase }, { on := 20, ground := Ground.phase }, { on := 21, ground := Ground.phase }, { on := 22, ground := Ground.phase }, { on := 23, ground := Ground.phase }, { on := 24, ground := Ground.phase }, { on := 25, ground := Ground.phase }], guard := none }) (d := 4) (v := ?_) rfl rfl (by kernel_rfl) (by kernel_rfl) (by kernel_rfl) (fun _ _ _ h => h) (Or.inl ⟨by rfl, ?_⟩) hHeld ?_
      rotate_left
      · (intro w' hSw; (try dsimp only at hSw); go_simp; (try with_reducible rfl))
      simp only [List.setIfInBounds_toArray, List.set_cons_zero, List.set_cons_succ]
      refine wpAnyH_done (by kernel_rfl) ?_ _
      go_wp2_with fail
      go_ret
      exact ⟨ret_bool HT.out.symm, HB0.out.drew⟩
  · have q1 : (x1 != a) = true := by simpa using e1
    have HT : Hid (B = true) := Lib.hid (by rw [← HBB.out]; simp [staleB, e1])
    clear e1
    refine wp_region_held_drew (S := fun V => V.cell? ⟨cb, 1, none⟩ = some (.slice (some ⟨g, 0, none⟩) N.length c) ∧ V.cell? ⟨w.heap.size, 1, none⟩ = some (.int .i64 a) ∧ V.cell? ⟨g5, 0, none⟩ = some (.int .i64 x1)) (by kernel_rfl) (by exact ⟨h1, n1, m0⟩) (fun hHeld => ?_)
    refine wpAnyH_takeD (i := 0) (oi := { dst := some 14, op := Op.fieldAddr 266 (Operand.tmp 5) 0, type := 0, pos := "chain.go:63", after := #[], guard := none }) (d := 14) (v := ?_) rfl rfl (by kernel_rfl) (by kernel_rfl) (by kernel_rfl) (fun _ _ _ h => h) (Or.inl ⟨by rfl, ?_⟩) hHeld ?_
    rotate_left
    · (intro w' hSw; (try dsimp only at hSw); go_simp; (try with_reducible rfl))
    simp only [List.setIfInBounds_toArray, List.set_cons_zero, List.set_cons_succ]
    refine wpAnyH_takeD (i := 1) (oi := { dst := some 15, op := Op.load 3 (Operand.tmp 14), type := 3, pos := "chain.go:63", after := #[{ on := 0, ground := Ground.data }], guard := none }) (d := 15) (v := ?_) rfl rfl (by kernel_rfl) (by kernel_rfl) (by kernel_rfl) (fun _ _ _ h => h) (Or.inl ⟨by rfl, ?_⟩) hHeld ?_
    rotate_left
    · (intro w' hSw; (try dsimp only at hSw); go_simp; (try with_reducible rfl))
    simp only [List.setIfInBounds_toArray, List.set_cons_zero, List.set_cons_succ]
    refine wpAnyH_takeD (i := 2) (oi := { dst := some 16, op := Op.fieldAddr 261 (Operand.tmp 3) 1, type := 0, pos := "chain.go:63", after := #[], guard := none }) (d := 16) (v := ?_) rfl rfl (by kernel_rfl) (by kernel_rfl) (by kernel_rfl) (fun _ _ _ h => h) (Or.inl ⟨by rfl, ?_⟩) hHeld ?_
    rotate_left
    · (intro w' hSw; (try dsimp only at hSw); go_simp; (try with_reducible rfl))
    simp only [List.setIfInBounds_toArray, List.set_cons_zero, List.set_cons_succ]
    refine wpAnyH_takeD (i := 3) (oi := { dst := some 17, op := Op.fieldAddr 55 (Operand.tmp 16) 0, type := 0, pos := "chain.go:63", after := #[{ on := 2, ground := Ground.data }], guard := none }) (d := 17) (v := ?_) rfl rfl (by kernel_rfl) (by kernel_rfl) (by kernel_rfl) (fun _ _ _ h => h) (Or.inl ⟨by rfl, ?_⟩) hHeld ?_
    rotate_left
    · (intro w' hSw; (try dsimp only at hSw); go_simp; (try with_reducible rfl))
    simp only [List.setIfInBounds_toArray, List.set_cons_zero, List.set_cons_succ]
    refine wpAnyH_takeD (i := 4) (oi := { dst := some 18, op := Op.load 3 (Operand.tmp 17), type := 3, pos := "chain.go:63", after := #[{ on := 3, ground := Ground.data }], guard := none }) (d := 18) (v := ?_) rfl rfl (by kernel_rfl) (by kernel_rfl) (by kernel_rfl) (fun _ _ _ h => h) (Or.inl ⟨by rfl, ?_⟩) hHeld ?_
    rotate_left
    · (intro w' hSw; (try dsimp only at hSw); go_simp; (try with_reducible rfl))
    simp only [List.setIfInBounds_toArray, List.set_cons_zero, List.set_cons_succ]
    refine wpAnyH_takeD (i := 5) (oi := { dst := some 19, op := Op.binOp BinOp.neq 3 (Operand.tmp 15) (Operand.tmp 18) 3, type := 4, pos := "chain.go:63", after := #[{ on := 1, ground := Ground.data }, { on := 4, ground := Ground.data }], guard := none }) (d := 19) (v := ?_) rfl rfl (by kernel_rfl) (by kernel_rfl) (by kernel_rfl) (fun _ _ _ h => h) (Or.inl ⟨by rfl, ?_⟩) hHeld ?_
    rotate_left
    · (intro w' hSw; (try dsimp only at hSw); go_simp; (try with_reducible rfl))
    simp only [List.setIfInBounds_toArray, List.set_cons_zero, List.set_cons_succ]
    refine wpAnyH_takeD (i := 6) (oi := { dst := some 20, op := Op.move (Operand.tmp 19), type := 4, pos := "chain.go:63", after := #[{ on := 5, ground := Ground.data }], guard := none }) (d := 20) (v := ?_) rfl rfl (by kernel_rfl) (by kernel_rfl) (by kernel_rfl) (fun _ _ _ h => h) (Or.inl ⟨by rfl, ?_⟩) hHeld ?_
    rotate_left
    · (intro w' hSw; (try dsimp only at hSw); go_simp; (try with_reducible rfl))
    simp only [List.setIfInBounds_toArray, List.set_cons_zero, List.set_cons_succ]
    refine wpAnyH_takeD (i := 7) (oi := { dst := some 21, op := Op.fieldAddr 266 (Operand.tmp 5) 2, type := 0, pos := "chain.go:63", after := #[{ on := 6, ground := Ground.guard }], guard := some (6, false) }) (d := 21) (v := undef) rfl rfl (by kernel_rfl) (by kernel_rfl) (by kernel_rfl) (fun _ _ _ h => h) (Or.inr ⟨by rfl, rfl⟩) hHeld ?_
    simp only [List.setIfInBounds_toArray, List.set_cons_zero, List.set_cons_succ]
    refine wpAnyH_takeD (i := 8) (oi := { dst := some 22, op := Op.load 3 (Operand.tmp 21), type := 3, pos := "chain.go:63", after := #[{ on := 7, ground := Ground.data }, { on := 6, ground := Ground.guard }], guard := some (6, false) }) (d := 22) (v := undef) rfl rfl (by kernel_rfl) (by kernel_rfl) (by kernel_rfl) (fun _ _ _ h => h) (Or.inr ⟨by rfl, rfl⟩) hHeld ?_
    simp only [List.setIfInBounds_toArray, List.set_cons_zero, List.set_cons_succ]
    refine wpAnyH_takeD (i := 9) (oi := { dst := some 23, op := Op.binOp BinOp.eql 3 (Operand.tmp 22) (Operand.const (Value.int IntKind.i64 (-1))) 3, type := 4, pos := "chain.go:63", after := #[{ on := 8, ground := Ground.data }, { on := 6, ground := Ground.guard }], guard := some (6, false) }) (d := 23) (v := undef) rfl rfl (by kernel_rfl) (by kernel_rfl) (by kernel_rfl) (fun _ _ _ h => h) (Or.inr ⟨by rfl, rfl⟩) hHeld ?_
    simp only [List.setIfInBounds_toArray, List.set_cons_zero, List.set_cons_succ]
    refine wpAnyH_takeD (i := 10) (oi := { dst := some 24, op := Op.pick (Operand.tmp 20) (Operand.const (Value.bool true)) (Operand.tmp 23), type := 4, pos := "chain.go:63", after := #[{ on := 6, ground := Ground.data }, { on := 9, ground := Ground.data }], guard := none }) (d := 24) (v := ?_) rfl rfl (by kernel_rfl) (by kernel_rfl) (by kernel_rfl) (fun _ _ _ h => h) (Or.inl ⟨by rfl, ?_⟩) hHeld ?_
    rotate_left
    · (intro w' hSw; (try dsimp only at hSw); go_simp; (try with_reducible rfl))
    simp only [List.setIfInBounds_toArray, List.set_cons_zero, List.set_cons_succ]
    refine wpAnyH_takeD (i := 11) (oi := { dst := some 25, op := Op.move (Operand.tmp 24), type := 4, pos := "chain.go:63", after := #[{ on := 10, ground := Ground.data }, { on := 6, ground := Ground.chain }], guard := none }) (d := 25) (v := ?_) rfl rfl (by kernel_rfl) (by kernel_rfl) (by kernel_rfl) (fun _ _ _ h => h) (Or.inl ⟨by rfl, ?_⟩) hHeld ?_
    rotate_left
    · (intro w' hSw; (try dsimp only at hSw); go_simp; (try with_reducible rfl))
    simp only [List.setIfInBounds_toArray, List.set_cons_zero, List.set_cons_succ]
    refine wpAnyH_takeD (i := 12) (oi := { dst := some 26, op := Op.move (Operand.tmp 0), type := 248, pos := "chain.go:63", after := #[{ on := 11, ground := Ground.guard }], guard := some (11, false) }) (d := 26) (v := undef) rfl rfl (by kernel_rfl) (by kernel_rfl) (by kernel_rfl) (fun _ _ _ h => h) (Or.inr ⟨by rfl, rfl⟩) hHeld ?_
    simp only [List.setIfInBounds_toArray, List.set_cons_zero, List.set_cons_succ]
    refine wpAnyH_takeD (i := 13) (oi := { dst := some 27, op := Op.nilCheck (Operand.tmp 26), type := 0, pos := "chain.go:63", after := #[{ on := 12, ground := Ground.data }, { on := 11, ground := Ground.guard }], guard := some (11, false) }) (d := 27) (v := undef) rfl rfl (by kernel_rfl) (by kernel_rfl) (by kernel_rfl) (fun _ _ _ h => h) (Or.inr ⟨by rfl, rfl⟩) hHeld ?_
    simp only [List.setIfInBounds_toArray, List.set_cons_zero, List.set_cons_succ]
    refine wpAnyH_takeD (i := 14) (oi := { dst := some 28, op := Op.fieldAddr 264 (Operand.tmp 27) 1, type := 0, pos := "chain.go:63", after := #[{ on := 13, ground := Ground.data }, { on := 11, ground := Ground.guard }], guard := some (11, false) }) (d := 28) (v := undef) rfl rfl (by kernel_rfl) (by kernel_rfl) (by kernel_rfl) (fun _ _ _ h => h) (Or.inr ⟨by rfl, rfl⟩) hHeld ?_
    simp only [List.setIfInBounds_toArray, List.set_cons_zero, List.set_cons_succ]
    refine wpAnyH_takeD (i := 15) (oi := { dst := some 29, op := Op.load 262 (Operand.tmp 28), type := 262, pos := "chain.go:63", after := #[{ on := 14, ground := Ground.data }, { on := 11, ground := Ground.guard }], guard := some (11, false) }) (d := 29) (v := undef) rfl rfl (by kernel_rfl) (by kernel_rfl) (by kernel_rfl) (fun _ _ _ h => h) (Or.inr ⟨by rfl, rfl⟩) hHeld ?_
    simp only [List.setIfInBounds_toArray, List.set_cons_zero, List.set_cons_succ]
    refine wpAnyH_takeD (i := 16) (oi := { dst := some 30, op := Op.fieldAddr 266 (Operand.tmp 5) 2, type := 0, pos := "chain.go:63", after := #[{ on := 11, ground := Ground.guard }], guard := some (11, false) }) (d := 30) (v := undef) rfl rfl (by kernel_rfl) (by kernel_rfl) (by kernel_rfl) (fun _ _ _ h => h) (Or.inr ⟨by rfl, rfl⟩) hHeld ?_
    simp only [List.setIfInBounds_toArray, List.set_cons_zero, List.set_cons_succ]
    refine wpAnyH_takeD (i := 17) (oi := { dst := some 31, op := Op.load 3 (Operand.tmp 30), type := 3, pos := "chain.go:63", after := #[{ on := 16, ground := Ground.data }, { on := 11, ground := Ground.guard }], guard := some (11, false) }) (d := 31) (v := undef) rfl rfl (by kernel_rfl) (by kernel_rfl) (by kernel_rfl) (fun _ _ _ h => h) (Or.inr ⟨by rfl, rfl⟩) hHeld ?_
    simp only [List.setIfInBounds_toArray, List.set_cons_zero, List.set_cons_succ]
    refine wpAnyH_takeD (i := 18) (oi := { dst := some 32, op := Op.indexAddr 262 (Operand.tmp 29) (Operand.tmp 31), type := 0, pos := "chain.go:63", after := #[{ on := 15, ground := Ground.data }, { on := 17, ground := Ground.data }, { on := 11, ground := Ground.guard }], guard := some (11, false) }) (d := 32) (v := undef) rfl rfl (by kernel_rfl) (by kernel_rfl) (by kernel_rfl) (fun _ _ _ h => h) (Or.inr ⟨by rfl, rfl⟩) hHeld ?_
    simp only [List.setIfInBounds_toArray, List.set_cons_zero, List.set_cons_succ]
    refine wpAnyH_takeD (i := 19) (oi := { dst := some 33, op := Op.fieldAddr 266 (Operand.tmp 32) 0, type := 0, pos := "chain.go:63", after := #[{ on := 18, ground := Ground.data }, { on := 11, ground := Ground.guard }], guard := some (11, false) }) (d := 33) (v := undef) rfl rfl (by kernel_rfl) (by kernel_rfl) (by kernel_rfl) (fun _ _ _ h => h) (Or.inr ⟨by rfl, rfl⟩) hHeld ?_
    simp only [List.setIfInBounds_toArray, List.set_cons_zero, List.set_cons_succ]
    refine wpAnyH_takeD (i := 20) (oi := { dst := some 34, op := Op.load 3 (Operand.tmp 33), type := 3, pos := "chain.go:63", after := #[{ on := 19, ground := Ground.data }, { on := 11, ground := Ground.guard }], guard := some (11, false) }) (d := 34) (v := undef) rfl rfl (by kernel_rfl) (by kernel_rfl) (by kernel_rfl) (fun _ _ _ h => h) (Or.inr ⟨by rfl, rfl⟩) hHeld ?_
    simp only [List.setIfInBounds_toArray, List.set_cons_zero, List.set_cons_succ]
    refine wpAnyH_takeD (i := 21) (oi := { dst := some 35, op := Op.fieldAddr 261 (Operand.tmp 3) 1, type := 0, pos := "chain.go:63", after := #[{ on := 11, ground := Ground.guard }], guard := some (11, false) }) (d := 35) (v := undef) rfl rfl (by kernel_rfl) (by kernel_rfl) (by kernel_rfl) (fun _ _ _ h => h) (Or.inr ⟨by rfl, rfl⟩) hHeld ?_
    simp only [List.setIfInBounds_toArray, List.set_cons_zero, List.set_cons_succ]
    refine wpAnyH_takeD (i := 22) (oi := { dst := some 36, op := Op.fieldAddr 55 (Operand.tmp 35) 1, type := 0, pos := "chain.go:63", after := #[{ on := 21, ground := Ground.data }, { on := 11, ground := Ground.guard }], guard := some (11, false) }) (d := 36) (v := undef) rfl rfl (by kernel_rfl) (by kernel_rfl) (by kernel_rfl) (fun _ _ _ h => h) (Or.inr ⟨by rfl, rfl⟩) hHeld ?_
    simp only [List.setIfInBounds_toArray, List.set_cons_zero, List.set_cons_succ]
    refine wpAnyH_takeD (i := 23) (oi := { dst := some 37, op := Op.load 3 (Operand.tmp 36), type := 3, pos := "chain.go:63", after := #[{ on := 22, ground := Ground.data }, { on := 11, ground := Ground.guard }], guard := some (11, false) }) (d := 37) (v := undef) rfl rfl (by kernel_rfl) (by kernel_rfl) (by kernel_rfl) (fun _ _ _ h => h) (Or.inr ⟨by rfl, rfl⟩) hHeld ?_
    simp only [List.setIfInBounds_toArray, List.set_cons_zero, List.set_cons_succ]
    refine wpAnyH_takeD (i := 24) (oi := { dst := some 38, op := Op.binOp BinOp.neq 3 (Operand.tmp 34) (Operand.tmp 37) 3, type := 4, pos := "chain.go:63", after := #[{ on := 20, ground := Ground.data }, { on := 23, ground := Ground.data }, { on := 11, ground := Ground.guard }], guard := some (11, false) }) (d := 38) (v := undef) rfl rfl (by kernel_rfl) (by kernel_rfl) (by kernel_rfl) (fun _ _ _ h => h) (Or.inr ⟨by rfl, rfl⟩) hHeld ?_
    simp only [List.setIfInBounds_toArray, List.set_cons_zero, List.set_cons_succ]
    refine wpAnyH_takeD (i := 25) (oi := { dst := some 39, op := Op.pick (Operand.tmp 25) (Operand.const (Value.bool true)) (Operand.tmp 38), type := 4, pos := "chain.go:63", after := #[{ on := 11, ground := Ground.data }, { on := 24, ground := Ground.data }], guard := none }) (d := 39) (v := ?_) rfl rfl (by kernel_rfl) (by kernel_rfl) (by kernel_rfl) (fun _ _ _ h => h) (Or.inl ⟨by rfl, ?_⟩) hHeld ?_
    rotate_left
    · (intro w' hSw; (try dsimp only at hSw); go_simp; (try with_reducible rfl))
    simp only [List.setIfInBounds_toArray, List.set_cons_zero, List.set_cons_succ]
    refine wpAnyH_takeD (i := 26) (oi := { dst := some 4, op := Op.assign (Operand.tmp 39), type := 4, pos := "chain.go:63", after := #[{ on := 25, ground := Ground.data }, { on := 11, ground := Ground.chain }, { on := 0, ground := Ground.phase }, { on := 1, ground := Ground.phase }, { on := 2, ground := Ground.phase }, { on := 3, ground := Ground.phase }, { on := 4, ground := Ground.phase }, { on := 5, ground := Ground.phase }, { on := 6, ground := Ground.phase }, { on := 7, ground := Ground.phase }, { on := 8, ground := Ground.phase }, { on := 9, ground := Ground.phase }, { on := 10, ground := Ground.phase }, { on := 11, ground := Ground.phase }, { on := 12, ground := Ground.phase }, { on := 13, ground := Ground.phase }, { on := 14, ground := Ground.phase }, { on := 15, ground := Ground.phase }, { on := 16, ground := Ground.phase }, { on := 17, ground := Ground.phase }, { on := 18, ground := Ground.phase }, { on := 19, ground := Ground.phase }, { on := 20, ground := Ground.phase }, { on := 21, ground := Ground.phase }, { on := 22, ground := Ground.phase }, { on := 23, ground := Ground.phase }, { on := 24, ground := Ground.phase }, { on := 25, ground := Ground.phase }], guard := none }) (d := 4) (v := ?_) rfl rfl (by kernel_rfl) (by kernel_rfl) (by kernel_rfl) (fun _ _ _ h => h) (Or.inl ⟨by rfl, ?_⟩) hHeld ?_
    rotate_left
    · (intro w' hSw; (try dsimp only at hSw); go_simp; (try with_reducible rfl))
    simp only [List.setIfInBounds_toArray, List.set_cons_zero, List.set_cons_succ]
    refine wpAnyH_done (by kernel_rfl) ?_ _
    go_wp2_with fail
    go_ret
    exact ⟨ret_bool HT.out.symm, HB0.out.drew⟩
end
end Go.Proofs.YtbppaiejpgdbiaaGreat

/- Layer 5 (chain): join. -/
namespace Go.Proofs.YtbppaiejpgdbiaaGreat
open Go.RowKit Go.Maps Go.WideMaps
set_option maxRecDepth 100000
set_option linter.unusedVariables false
set_option linter.unusedSimpArgs false

section
variable {w w' : World} {base tbase tb : Nat} {T : List Ent} {sv : Value} {mb mp cb qb : Nat} {N : List Node} {bel steps : Int} {A : Option Addr} {c g : Nat} {Q : List (Th Wt)} {turn : Int} {Aq : Option Addr} {cq : Nat}
theorem LinkIs.set (h : LinkIs w base cb tb qb N bel steps (some ⟨g, 0, none⟩) c) {N' : List Node} {j : Nat} {u : Int} (hl : N'.length = N.length) (hf : N'.flatMap encN = (N.flatMap encN).set j (.int .i64 u)) : LinkIs (w.setCell ⟨g, j, none⟩ (.int .i64 u)) base cb tb qb N' bel steps (some ⟨g, 0, none⟩) c := by
  refine ⟨?_, ?_, h.le⟩
  · rw [hl]
    exact blk_far h.blk (fun e => row_ne2 h.row h.blk (by decide) (by rw [show cb = g from e])) _
  · rw [hl, hf]
    exact own_set h.row j _
theorem LinkIs.set_steps (h : LinkIs w base cb tb qb N bel steps (some ⟨g, 0, none⟩) c) {u : Int} : LinkIs (w.setCell ⟨cb, 4, none⟩ (.int .i64 u)) base cb tb qb N bel u (some ⟨g, 0, none⟩) c := by
  refine ⟨by simpa using blk_set h.blk 4 (.int .i64 u), ?_, h.le⟩
  exact own_keep h.row ((Keep.refl (fun x => x = cb) w).setCell (p := ⟨cb, 4, none⟩) (.inl rfl) _) (fun x hx e => row_ne2 h.row h.blk (by decide) (by rw [hw.own_addr h.row x hx, e]))
theorem LinkIs.cellAt (h : LinkIs w base cb tb qb N bel steps (some ⟨g, 0, none⟩) c) (j : Nat) (hj : j < N.length * 3) : (∃ v, w.cell? ⟨g, j, none⟩ = some v) ∧ w.frozen? ⟨g, j, none⟩ = false :=
  hw.own_cells h.row (by omega) j hj

set_option maxHeartbeats 4000000 in
theorem join_any (h : ChainIs w base tbase tb T sv mb mp cb qb N bel steps A c Q turn Aq cq) {L1 L2 : List Nd} {i j : Nat} {a b r : Int} (hL : Lives N (L1 ++ ((i : Int), a) :: ((j : Int), b) :: L2)) (hr : 0 ≤ r ∧ r < 1000000)
    (hQ : Q.length + 1 < 1000000000) (ht0 : 0 ≤ turn) (ht1 : turn + 1 < 1000000000000000000) (hs0 : 0 ≤ steps) (hs1 : steps < 1000000000000000000) (R : List (Th Wt) × Int)
    (hR : askQ (pairB T bel) (askL (pairB T bel) Q turn L1 (((i : Int), r) :: L2)).1 (askL (pairB T bel) Q turn L1 (((i : Int), r) :: L2)).2 i r L2 = R) :
    Calls Tryz.prog 182 #[.pointer (some ⟨cb, 0, none⟩), .int .i64 (i : Int), .int .i64 r] w fun e w' => e = .returned (.tuple #[]) ∧ (∃ Aq' cq', ChainIs w' base tbase tb T sv mb mp cb qb (joinN N i j r (kOf L2)) bel (steps + 1) A c R.1 R.2 Aq' cq') ∧ Below base w w' := by
  obtain ⟨ki, e, hi⟩ := hL.at_ L1 i a _ rfl
  have e : i = ki := by omega
  subst e
  obtain ⟨kj, e, hj⟩ := hL.at_ (L1 ++ [((i : Int), a)]) j b L2 (by simp)
  have e : j = kj := by omega
  subst e
  rw [headI_cons] at hi
  rw [← Lives.aft (N := N) (L1 := L1 ++ [((i : Int), a)]) (x := ((j : Int), b)) (L2 := L2) (by simpa using hL)] at hj
  have HLV := Lib.hid (hL.join (r := r) hr)
  have hkm : ∀ m, kOf L2 = some m → m < N.length := by
    intro m hm
    rcases L2 with _ | ⟨y, L2⟩
    · simp [kOf] at hm
    · obtain ⟨k, h1, h2⟩ := hL.place (x := y) (by simp)
      simp only [kOf, List.head?_cons, Option.map_some, Option.some.injEq] at hm
      omega
  have HQL : Hid ((askL (pairB T bel) Q turn L1 (((i : Int), r) :: L2)).1.length < 1000000000 ∧ 0 ≤ (askL (pairB T bel) Q turn L1 (((i : Int), r) :: L2)).2 ∧ (askL (pairB T bel) Q turn L1 (((i : Int), r) :: L2)).2 < 1000000000000000000) := Lib.hid (by
    have := askL_len (P := pairB T bel) (Q := Q) (turn := turn) (p := L1) (q := ((i : Int), r) :: L2)
    omega)
  generalize hk : kOf L2 = k at *
  have hlt := (List.getElem?_eq_some_iff.1 hi).1
  have hlt2 := (List.getElem?_eq_some_iff.1 hj).1
  obtain ⟨g, rfl, a0, a1, a2⟩ := h.lk.at i _ hi
  obtain ⟨g', e, b0, b1, b2⟩ := h.lk.at j _ hj
  injection e with e
  injection e with e
  subst e
  have h1 := blk_cell h.lk.blk 1
  simp only [List.getElem?_toArray, List.getElem?_cons_zero, List.getElem?_cons_succ] at h1 a2 b0 b2
  have p0 : (0 : Int) ≤ (i : Int) := by omega
  have p1 : (i : Int) < (N.length : Int) := by omega
  have p2 : (0 : Int) ≤ (j : Int) := by omega
  have p3 : (j : Int) < (N.length : Int) := by omega
  have z0 := (h.lk.cellAt (j * 3) (by omega)).2
  have HH := Lib.hid h
  have HR := Lib.hid hR
  have HK : Hid (∀ m, k = some m → m < N.length) := Lib.hid hkm
  clear hi hj h a0 a1 b1 hL hR hk hkm
  go_enter Tryz.func182, Tryz.ntmps182
  go_upto_region 3 with fail
  have HL1 := Lib.hid (HH.out.lk.set (by rw [List.length_modify]) (flat_id N (-2) j hlt2))
  have HK1 : Hid (Keep (fun x => x = cb ∨ (some ⟨g, 0, none⟩ : Option Addr) = some ⟨x, 0, none⟩) w (w.setCell ⟨g, j * 3, none⟩ (.int .i64 (-2)))) := Lib.hid ((Keep.refl _ _).setCell (p := ⟨g, j * 3, none⟩) (.inl (.inr rfl)) _)
  clear z0 h1 a2 b0 b2
  generalize w.setCell ⟨g, j * 3, none⟩ (.int .i64 (-2)) = W1 at *
  have h1 := blk_cell HL1.out.blk 1
  simp only [List.getElem?_toArray, List.getElem?_cons_zero, List.getElem?_cons_succ, List.length_modify] at h1
  refine wp_region_D (Ds := [14, 17]) (S := fun V => V.cell? ⟨cb, 1, none⟩ = some (.slice (some ⟨g, 0, none⟩) N.length c)) (by kernel_rfl) (by exact h1) (fun hHeld => ?_)
  (replace HL1 : Hid (LinkIs W1.drew base cb tb qb (N.modify j (idN (-2))) bel steps (some ⟨g, 0, none⟩) c) := Lib.hid (HL1.out.below (B := W1.heap.size) ⟨rfl, rfl, rfl, Nat.le_refl _, fun _ _ => rfl⟩ (Nat.le_refl _))); (replace HK1 := Lib.hid HK1.out.drew); clear h1; generalize W1.drew = W2 at *
  refine wpAnyD_takeP (i := 0) (oi := { dst := some 31, op := Op.move (Operand.tmp 0), type := 248, pos := "chain.go:74", after := #[], guard := none }) (d := 31) (v := ?_) rfl rfl (by kernel_rfl) (by kernel_rfl) (by kernel_rfl) (fun _ _ _ h => h) (Or.inl ⟨by rfl, ?_⟩) ?_
  rotate_left
  · (intro w' _; go_simp; (try with_reducible rfl))
  simp only [List.setIfInBounds_toArray, List.set_cons_zero, List.set_cons_succ]
  refine wpAnyD_takeP (i := 1) (oi := { dst := some 32, op := Op.nilCheck (Operand.tmp 31), type := 0, pos := "chain.go:74", after := #[{ on := 0, ground := Ground.data }], guard := none }) (d := 32) (v := ?_) rfl rfl (by kernel_rfl) (by kernel_rfl) (by kernel_rfl) (fun _ _ _ h => h) (Or.inl ⟨by rfl, ?_⟩) ?_
  rotate_left
  · (intro w' _; go_simp; (try with_reducible rfl))
  simp only [List.setIfInBounds_toArray, List.set_cons_zero, List.set_cons_succ]
  refine wpAnyD_takeP (i := 2) (oi := { dst := some 33, op := Op.fieldAddr 264 (Operand.tmp 32) 1, type := 0, pos := "chain.go:74", after := #[{ on := 1, ground := Ground.data }], guard := none }) (d := 33) (v := ?_) rfl rfl (by kernel_rfl) (by kernel_rfl) (by kernel_rfl) (fun _ _ _ h => h) (Or.inl ⟨by rfl, ?_⟩) ?_
  rotate_left
  · (intro w' _; go_simp; (try with_reducible rfl))
  simp only [List.setIfInBounds_toArray, List.set_cons_zero, List.set_cons_succ]
  refine wpAnyD_takeP (i := 4) (oi := { dst := some 35, op := Op.move (Operand.tmp 1), type := 3, pos := "chain.go:74", after := #[], guard := none }) (d := 35) (v := ?_) rfl rfl (by kernel_rfl) (by kernel_rfl) (by kernel_rfl) (fun _ _ _ h => h) (Or.inl ⟨by rfl, ?_⟩) ?_
  rotate_left
  · (intro w' _; go_simp; (try with_reducible rfl))
  simp only [List.setIfInBounds_toArray, List.set_cons_zero, List.set_cons_succ]
  refine wpAnyD_takeP (i := 5) (oi := { dst := some 36, op := Op.move (Operand.tmp 0), type := 248, pos := "chain.go:74", after := #[], guard := none }) (d := 36) (v := ?_) rfl rfl (by kernel_rfl) (by kernel_rfl) (by kernel_rfl) (fun _ _ _ h => h) (Or.inl ⟨by rfl, ?_⟩) ?_
  rotate_left
  · (intro w' _; go_simp; (try with_reducible rfl))
  simp only [List.setIfInBounds_toArray, List.set_cons_zero, List.set_cons_succ]
  refine wpAnyD_takeP (i := 6) (oi := { dst := some 37, op := Op.nilCheck (Operand.tmp 36), type := 0, pos := "chain.go:74", after := #[{ on := 5, ground := Ground.data }], guard := none }) (d := 37) (v := ?_) rfl rfl (by kernel_rfl) (by kernel_rfl) (by kernel_rfl) (fun _ _ _ h => h) (Or.inl ⟨by rfl, ?_⟩) ?_
  rotate_left
  · (intro w' _; go_simp; (try with_reducible rfl))
  simp only [List.setIfInBounds_toArray, List.set_cons_zero, List.set_cons_succ]
  refine wpAnyD_takeP (i := 7) (oi := { dst := some 38, op := Op.fieldAddr 264 (Operand.tmp 37) 1, type := 0, pos := "chain.go:74", after := #[{ on := 6, ground := Ground.data }], guard := none }) (d := 38) (v := ?_) rfl rfl (by kernel_rfl) (by kernel_rfl) (by kernel_rfl) (fun _ _ _ h => h) (Or.inl ⟨by rfl, ?_⟩) ?_
  rotate_left
  · (intro w' _; go_simp; (try with_reducible rfl))
  simp only [List.setIfInBounds_toArray, List.set_cons_zero, List.set_cons_succ]
  refine wpAnyD_takeP (i := 9) (oi := { dst := some 40, op := Op.move (Operand.tmp 1), type := 3, pos := "chain.go:74", after := #[{ on := 14, ground := Ground.gcOnly Departure.lateStores }], guard := none }) (d := 40) (v := ?_) rfl rfl (by kernel_rfl) (by kernel_rfl) (by kernel_rfl) (fun _ _ _ h => h) (Or.inl ⟨by rfl, ?_⟩) ?_
  rotate_left
  · (intro w' _; go_simp; (try with_reducible rfl))
  simp only [List.setIfInBounds_toArray, List.set_cons_zero, List.set_cons_succ]
  refine wpAnyD_takeP (i := 10) (oi := { dst := some 41, op := Op.move (Operand.tmp 2), type := 3, pos := "chain.go:74", after := #[], guard := none }) (d := 41) (v := ?_) rfl rfl (by kernel_rfl) (by kernel_rfl) (by kernel_rfl) (fun _ _ _ h => h) (Or.inl ⟨by rfl, ?_⟩) ?_
  rotate_left
  · (intro w' _; go_simp; (try with_reducible rfl))
  simp only [List.setIfInBounds_toArray, List.set_cons_zero, List.set_cons_succ]
  refine wpAnyD_takeP (i := 11) (oi := { dst := some 42, op := Op.move (Operand.tmp 7), type := 3, pos := "chain.go:74", after := #[{ on := 14, ground := Ground.gcOnly Departure.lateStores }], guard := none }) (d := 42) (v := ?_) rfl rfl (by kernel_rfl) (by kernel_rfl) (by kernel_rfl) (fun _ _ _ h => h) (Or.inl ⟨by rfl, ?_⟩) ?_
  rotate_left
  · (intro w' _; go_simp; (try with_reducible rfl))
  simp only [List.setIfInBounds_toArray, List.set_cons_zero, List.set_cons_succ]
  refine wpAnyD_takeD (i := 3) (oi := { dst := some 34, op := Op.load 262 (Operand.tmp 33), type := 262, pos := "chain.go:74", after := #[{ on := 2, ground := Ground.data }], guard := none }) (d := 34) (v := ?_) rfl rfl (by kernel_rfl) (by kernel_rfl) (by kernel_rfl) (by kernel_rfl) (fun _ _ _ h => h) (Or.inl ⟨by rfl, ?_⟩) hHeld ?_
  rotate_left
  · (intro w' hSw; (try dsimp only at hSw); go_simp; (try with_reducible rfl))
  simp only [List.setIfInBounds_toArray, List.set_cons_zero, List.set_cons_succ]
  refine wpAnyD_takeD (i := 8) (oi := { dst := some 39, op := Op.load 262 (Operand.tmp 38), type := 262, pos := "chain.go:74", after := #[{ on := 7, ground := Ground.data }], guard := none }) (d := 39) (v := ?_) rfl rfl (by kernel_rfl) (by kernel_rfl) (by kernel_rfl) (by kernel_rfl) (fun _ _ _ h => h) (Or.inl ⟨by rfl, ?_⟩) hHeld ?_
  rotate_left
  · (intro w' hSw; (try dsimp only at hSw); go_simp; (try with_reducible rfl))
  simp only [List.setIfInBounds_toArray, List.set_cons_zero, List.set_cons_succ]
  refine wpAnyD_takeP (i := 12) (oi := { dst := some 43, op := Op.indexAddr 262 (Operand.tmp 34) (Operand.tmp 35), type := 0, pos := "chain.go:74", after := #[{ on := 3, ground := Ground.data }, { on := 4, ground := Ground.data }, { on := 0, ground := Ground.phase }, { on := 1, ground := Ground.phase }, { on := 2, ground := Ground.phase }, { on := 3, ground := Ground.phase }, { on := 4, ground := Ground.phase }, { on := 5, ground := Ground.textOnly Departure.lateStores }, { on := 6, ground := Ground.textOnly Departure.lateStoresUnsure }, { on := 7, ground := Ground.textOnly Departure.lateStoresUnsure }, { on := 8, ground := Ground.phase }, { on := 9, ground := Ground.textOnly Departure.lateStores }, { on := 10, ground := Ground.phase }, { on := 11, ground := Ground.textOnly Departure.lateStores }], guard := none }) (d := 43) (v := ?_) rfl rfl (by kernel_rfl) (by kernel_rfl) (by kernel_rfl) (fun _ _ _ h => h) (Or.inl ⟨by rfl, ?_⟩) ?_
  rotate_left
  · (intro w' _; go_simp; (try with_reducible rfl))
  simp only [List.setIfInBounds_toArray, List.set_cons_zero, List.set_cons_succ]
  refine wpAnyD_takeP (i := 13) (oi := { dst := some 44, op := Op.fieldAddr 266 (Operand.tmp 43) 0, type := 0, pos := "chain.go:74", after := #[{ on := 12, ground := Ground.data }, { on := 0, ground := Ground.phase }, { on := 1, ground := Ground.phase }, { on := 2, ground := Ground.phase }, { on := 3, ground := Ground.phase }, { on := 4, ground := Ground.phase }, { on := 5, ground := Ground.textOnly Departure.lateStores }, { on := 6, ground := Ground.textOnly Departure.lateStoresUnsure }, { on := 7, ground := Ground.textOnly Departure.lateStoresUnsure }, { on := 8, ground := Ground.phase }, { on := 9, ground := Ground.textOnly Departure.lateStores }, { on := 10, ground := Ground.phase }, { on := 11, ground := Ground.textOnly Departure.lateStores }], guard := none }) (d := 44) (v := ?_) rfl rfl (by kernel_rfl) (by kernel_rfl) (by kernel_rfl) (fun _ _ _ h => h) (Or.inl ⟨by rfl, ?_⟩) ?_
  rotate_left
  · (intro w' _; go_simp; (try with_reducible rfl))
  simp only [List.setIfInBounds_toArray, List.set_cons_zero, List.set_cons_succ]
  refine wpAnyD_last (D := 14) (by decide) (o := { dst := none, op := Op.store 3 (Operand.tmp 44) (Operand.tmp 41), type := 0, pos := "chain.go:74", after := #[{ on := 13, ground := Ground.data }, { on := 10, ground := Ground.data }, { on := 0, ground := Ground.phase }, { on := 1, ground := Ground.phase }, { on := 2, ground := Ground.phase }, { on := 3, ground := Ground.phase }, { on := 4, ground := Ground.phase }, { on := 5, ground := Ground.textOnly Departure.lateStores }, { on := 6, ground := Ground.textOnly Departure.lateStoresUnsure }, { on := 7, ground := Ground.textOnly Departure.lateStoresUnsure }, { on := 8, ground := Ground.phase }, { on := 9, ground := Ground.textOnly Departure.lateStores }, { on := 10, ground := Ground.phase }, { on := 11, ground := Ground.textOnly Departure.lateStores }], guard := none }) (by kernel_rfl) rfl (by rfl) (fun K hK => ?_)
  obtain ⟨⟨v0, c0⟩, z0⟩ := HL1.out.cellAt (i * 3) (by rw [List.length_modify]; omega); go_simp; have HL2 := Lib.hid (HL1.out.set (N' := (N.modify j (idN (-2))).modify i (idN r)) (by simp) (flat_id (N.modify j (idN (-2))) r i (by rw [List.length_modify]; exact hlt))); have HK2 := Lib.hid (HK1.out.setCell (p := ⟨g, i * 3, none⟩) (.inl (.inr rfl)) (.int .i64 r)); clear c0 z0; generalize W2.setCell ⟨g, i * 3, none⟩ (.int .i64 r) = W3 at *
  refine hK.out _ _ ?_
  clear hK K
  try simp only [Act.put, List.setIfInBounds_toArray, List.set_cons_zero, List.set_cons_succ]
  refine wpAnyD_takeP (i := 15) (oi := { dst := some 45, op := Op.indexAddr 262 (Operand.tmp 39) (Operand.tmp 40), type := 0, pos := "chain.go:74", after := #[{ on := 8, ground := Ground.data }, { on := 9, ground := Ground.data }, { on := 0, ground := Ground.phase }, { on := 1, ground := Ground.phase }, { on := 2, ground := Ground.phase }, { on := 3, ground := Ground.phase }, { on := 4, ground := Ground.phase }, { on := 5, ground := Ground.phase }, { on := 6, ground := Ground.phase }, { on := 7, ground := Ground.phase }, { on := 8, ground := Ground.phase }, { on := 9, ground := Ground.phase }, { on := 10, ground := Ground.phase }, { on := 11, ground := Ground.phase }, { on := 12, ground := Ground.phase }, { on := 13, ground := Ground.phase }, { on := 14, ground := Ground.phase }], guard := none }) (d := 45) (v := ?_) rfl rfl (by kernel_rfl) (by kernel_rfl) (by kernel_rfl) (fun _ _ _ h => h) (Or.inl ⟨by rfl, ?_⟩) ?_
  rotate_left
  · (intro w' _; go_simp; (try with_reducible rfl))
  simp only [List.setIfInBounds_toArray, List.set_cons_zero, List.set_cons_succ]
  refine wpAnyD_takeP (i := 16) (oi := { dst := some 46, op := Op.fieldAddr 266 (Operand.tmp 45) 2, type := 0, pos := "chain.go:74", after := #[{ on := 15, ground := Ground.data }, { on := 0, ground := Ground.phase }, { on := 1, ground := Ground.phase }, { on := 2, ground := Ground.phase }, { on := 3, ground := Ground.phase }, { on := 4, ground := Ground.phase }, { on := 5, ground := Ground.phase }, { on := 6, ground := Ground.phase }, { on := 7, ground := Ground.phase }, { on := 8, ground := Ground.phase }, { on := 9, ground := Ground.phase }, { on := 10, ground := Ground.phase }, { on := 11, ground := Ground.phase }, { on := 12, ground := Ground.phase }, { on := 13, ground := Ground.phase }, { on := 14, ground := Ground.phase }], guard := none }) (d := 46) (v := ?_) rfl rfl (by kernel_rfl) (by kernel_rfl) (by kernel_rfl) (fun _ _ _ h => h) (Or.inl ⟨by rfl, ?_⟩) ?_
  rotate_left
  · (intro w' _; go_simp; (try with_reducible rfl))
  simp only [List.setIfInBounds_toArray, List.set_cons_zero, List.set_cons_succ]
  refine wpAnyD_last (D := 17) (by decide) (o := { dst := none, op := Op.store 3 (Operand.tmp 46) (Operand.tmp 42), type := 0, pos := "chain.go:74", after := #[{ on := 16, ground := Ground.data }, { on := 11, ground := Ground.data }, { on := 14, ground := Ground.chain }, { on := 0, ground := Ground.phase }, { on := 1, ground := Ground.phase }, { on := 2, ground := Ground.phase }, { on := 3, ground := Ground.phase }, { on := 4, ground := Ground.phase }, { on := 5, ground := Ground.phase }, { on := 6, ground := Ground.phase }, { on := 7, ground := Ground.phase }, { on := 8, ground := Ground.phase }, { on := 9, ground := Ground.phase }, { on := 10, ground := Ground.phase }, { on := 11, ground := Ground.phase }, { on := 12, ground := Ground.phase }, { on := 13, ground := Ground.phase }, { on := 14, ground := Ground.phase }], guard := none }) (by kernel_rfl) rfl (by rfl) (fun K hK => ?_)
  obtain ⟨⟨v0, c0⟩, z0⟩ := HL2.out.cellAt (i * 3 + 2) (by rw [List.length_modify, List.length_modify]; omega); go_simp; have HL3 := Lib.hid (HL2.out.set (N' := ((N.modify j (idN (-2))).modify i (idN r)).modify i (nextN (aftI k))) (by simp) (flat_next ((N.modify j (idN (-2))).modify i (idN r)) (aftI k) i (by rw [List.length_modify, List.length_modify]; exact hlt))); have HK3 := Lib.hid (HK2.out.setCell (p := ⟨g, i * 3 + 2, none⟩) (.inl (.inr rfl)) (.int .i64 (aftI k))); clear c0 z0; generalize W3.setCell ⟨g, i * 3 + 2, none⟩ (.int .i64 (aftI k)) = W4 at *
  refine hK.out _ _ ?_
  clear hK K
  try simp only [Act.put, List.setIfInBounds_toArray, List.set_cons_zero, List.set_cons_succ]
  refine wpAnyD_done (by kernel_rfl) ?_ _
  cases k with
  | none =>
    simp only [aftI] at *
    have HL4 : Hid (LinkIs W4 base cb tb qb (joinN N i j r none) bel steps (some ⟨g, 0, none⟩) c) := Lib.hid HL3.out
    have HK4 := HK3
    clear HL1 HL2 HL3 HK1 HK2 HK3
    go_upto_region 6 with fail
    have g4 := blk_cell HL4.out.blk 4
    have z4 := blk_froz HL4.out.blk 4
    simp only [List.getElem?_toArray, List.getElem?_cons_zero, List.getElem?_cons_succ] at g4
    have ws : IntKind.i64.wrap (steps + 1) = steps + 1 := IntWalk.i64_in _ (by omega)
    go_upto_region 7 with fail
    clear ws
    have HL5 := Lib.hid (HL4.out.set_steps (u := steps + 1))
    have HK5 := Lib.hid (HK4.out.setCell (p := ⟨cb, 4, none⟩) (.inl (.inl rfl)) (.int .i64 (steps + 1)))
    clear g4 z4
    generalize W4.setCell ⟨cb, 4, none⟩ (.int .i64 (steps + 1)) = W5 at *
    obtain ⟨hC, hB⟩ := HH.out.link HL5.out HK5.out
    have HC := Lib.hid hC
    have HB := Lib.hid hB
    clear hC hB
    have hlv := HLV.out
    obtain ⟨ki, e, hki⟩ := hlv.at_ L1 i r L2 rfl
    have e : i = ki := by omega
    subst e
    obtain ⟨g', e, a0, a1, a2⟩ := HL5.out.at i _ hki
    injection e with e
    injection e with e
    subst e
    have h1 := blk_cell HL5.out.blk 1
    simp only [List.getElem?_toArray, List.getElem?_cons_zero, List.getElem?_cons_succ] at h1 a1
    rw [joinN_len] at h1
    clear hki hlv a0 a2
    go_wp2_with fail
    refine (asks_ahead HC.out HLV.out (by omega) ht0 (by omega)).mono ?_
    rintro e W6 ⟨rfl, ⟨Aq6, cq6, h6⟩, hb6⟩
    have H6 := Lib.hid h6
    have HB6 := Lib.hid (HB.out.trans hb6)
    clear h6 hb6
    go_wp2_with fail
    refine (asks_live H6.out HLV.out HQL.out.1 HQL.out.2.1 HQL.out.2.2).mono ?_
    rintro e W7 ⟨rfl, ⟨Aq7, cq7, h7⟩, hb7⟩
    have H7 := Lib.hid h7
    have HB7 := Lib.hid (HB6.out.trans hb7)
    clear h7 hb7
    go_wp2_with fail
    go_end0
    exact ⟨rfl, ⟨Aq7, cq7, by rw [← HR.out]; exact H7.out⟩, HB7.out⟩
  | some m =>
    have hm := HK.out m rfl
    simp only [aftI] at *
    have q1 : ((m : Int) != -1) = true := by simp
    have p4 : (0 : Int) ≤ (m : Int) := by omega
    have p5 : (m : Int) < (N.length : Int) := by omega
    have h1 := blk_cell HL3.out.blk 1
    simp only [List.getElem?_toArray, List.getElem?_cons_zero, List.getElem?_cons_succ, List.length_modify] at h1
    obtain ⟨⟨v0, c0⟩, z0⟩ := HL3.out.cellAt (m * 3 + 1) (by rw [List.length_modify, List.length_modify, List.length_modify]; omega)
    go_upto_region 6 with fail
    have HL4 : Hid (LinkIs (W4.setCell ⟨g, m * 3 + 1, none⟩ (.int .i64 (i : Int))) base cb tb qb (joinN N i j r (some m)) bel steps (some ⟨g, 0, none⟩) c) := Lib.hid (HL3.out.set (by rw [joinN_len]; simp) (flat_ahead (((N.modify j (idN (-2))).modify i (idN r)).modify i (nextN (aftI (some m)))) (i : Int) m (by simp only [List.length_modify]; exact hm)))
    have HK4 := Lib.hid (HK3.out.setCell (p := ⟨g, m * 3 + 1, none⟩) (.inl (.inr rfl)) (.int .i64 (i : Int)))
    clear HL1 HL2 HL3 HK1 HK2 HK3 c0 z0 h1
    generalize W4.setCell ⟨g, m * 3 + 1, none⟩ (.int .i64 (i : Int)) = W4 at *
    go_upto_region 6 with fail
    have g4 := blk_cell HL4.out.blk 4
    have z4 := blk_froz HL4.out.blk 4
    simp only [List.getElem?_toArray, List.getElem?_cons_zero, List.getElem?_cons_succ] at g4
    have ws : IntKind.i64.wrap (steps + 1) = steps + 1 := IntWalk.i64_in _ (by omega)
    go_upto_region 7 with fail
    clear ws
    have HL5 := Lib.hid (HL4.out.set_steps (u := steps + 1))
    have HK5 := Lib.hid (HK4.out.setCell (p := ⟨cb, 4, none⟩) (.inl (.inl rfl)) (.int .i64 (steps + 1)))
    clear g4 z4
    generalize W4.setCell ⟨cb, 4, none⟩ (.int .i64 (steps + 1)) = W5 at *
    obtain ⟨hC, hB⟩ := HH.out.link HL5.out HK5.out
    have HC := Lib.hid hC
    have HB := Lib.hid hB
    clear hC hB
    have hlv := HLV.out
    obtain ⟨ki, e, hki⟩ := hlv.at_ L1 i r L2 rfl
    have e : i = ki := by omega
    subst e
    obtain ⟨g', e, a0, a1, a2⟩ := HL5.out.at i _ hki
    injection e with e
    injection e with e
    subst e
    have h1 := blk_cell HL5.out.blk 1
    simp only [List.getElem?_toArray, List.getElem?_cons_zero, List.getElem?_cons_succ] at h1 a1
    rw [joinN_len] at h1
    clear hki hlv a0 a2
    go_wp2_with fail
    refine (asks_ahead HC.out HLV.out (by omega) ht0 (by omega)).mono ?_
    rintro e W6 ⟨rfl, ⟨Aq6, cq6, h6⟩, hb6⟩
    have H6 := Lib.hid h6
    have HB6 := Lib.hid (HB.out.trans hb6)
    clear h6 hb6
    go_wp2_with fail
    refine (asks_live H6.out HLV.out HQL.out.1 HQL.out.2.1 HQL.out.2.2).mono ?_
    rintro e W7 ⟨rfl, ⟨Aq7, cq7, h7⟩, hb7⟩
    have H7 := Lib.hid h7
    have HB7 := Lib.hid (HB6.out.trans hb7)
    clear h7 hb7
    go_wp2_with fail
    go_end0
    exact ⟨rfl, ⟨Aq7, cq7, by rw [← HR.out]; exact H7.out⟩, HB7.out⟩
end
end Go.Proofs.YtbppaiejpgdbiaaGreat

/- Layer 5 (chain): run. -/
namespace Go.Proofs.YtbppaiejpgdbiaaGreat
open Go.RowKit Go.Maps Go.WideMaps
set_option maxRecDepth 100000
set_option linter.unusedVariables false
set_option linter.unusedSimpArgs false

theorem stale_spec {N : List Node} {L : List Nd} (hL : Lives N L) {k : Nat} {y : Node} (hk : N[k]? = some y) {a b : Int} (ha : 0 ≤ a) :
    (y.1 = a → y.2.2 ≠ -1 → ∃ j : Nat, y.2.2 = j ∧ ∃ z, N[j]? = some z) ∧ (staleB N y a b = true → ∀ p j q, L ≠ p ++ ((k : Int), a) :: (j, b) :: q) ∧ (staleB N y a b = false → ∃ p q, ∃ j : Nat, L = p ++ ((k : Int), a) :: ((j : Int), b) :: q) := by
  by_cases hal : ∃ c, ((k : Int), c) ∈ L
  · obtain ⟨c, hc⟩ := hal
    obtain ⟨p, q, rfl⟩ := List.append_of_mem hc
    obtain ⟨k', e, hk'⟩ := hL.at_ p k c q rfl
    have e : k = k' := by omega
    subst e
    rw [hk] at hk'
    have hy : y = (c, lastI p, headI q) := Option.some.inj hk'
    subst hy
    rcases q with _ | ⟨⟨j, d⟩, q⟩
    · refine ⟨fun _ h => absurd headI_nil h, fun _ p' j q' e => ?_, fun h => ?_⟩
      · obtain ⟨_, _, e2⟩ := place_once hL.srt e
        simp at e2
      · simp [staleB, headI_nil] at h
    · obtain ⟨j', rfl, hj'⟩ := hL.at_ (p ++ [((k : Int), c)]) j d q (by simp)
      refine ⟨fun _ _ => ⟨j', rfl, _, hj'⟩, fun h p' j q' e => ?_, fun h => ?_⟩
      · obtain ⟨_, e1, e2⟩ := place_once hL.srt e
        simp at e2
        obtain ⟨⟨e2, e3⟩, _⟩ := e2
        simp [staleB, headI_cons, hj', e1, e3] at h
      · by_cases h1 : c = a
        · subst h1
          simp [staleB, headI_cons, hj'] at h
          exact ⟨p, q, j', by rw [h]⟩
        · simp [staleB, h1] at h
  · have hd := hL.dead k y hk (fun c hc => hal ⟨c, hc⟩)
    have hne : y.1 ≠ a := by omega
    refine ⟨fun h => absurd h hne, fun _ p j q e => hal ⟨a, by rw [e]; simp⟩, fun h => ?_⟩
    simp [staleB, hne] at h

section
variable {w w' : World} {base tbase tb : Nat} {T : List Ent} {sv : Value} {mb mp cb qb : Nat} {N : List Node} {bel steps : Int} {A : Option Addr} {c g : Nat} {Q : List (Th Wt)} {turn : Int} {Aq : Option Addr} {cq : Nat}
structure RunIs (w W : World) (base tbase tb : Nat) (T : List Ent) (sv : Value) (mb mp cb qb : Nat) (bel : Int) (A : Option Addr) (c : Nat) (M : List (Int × Int)) (ids0 : List Int) (n : Nat) (N : List Node) (L : List Nd) (Q : List (Th Wt)) (turn steps : Int) (Aq : Option Addr) (cq : Nat) : Prop where
  ch : ChainIs W base tbase tb T sv mb mp cb qb N bel steps A c Q turn Aq cq
  run : RunS (pairB T bel) M ids0 N L Q turn steps n
  bl : Below base w W

set_option maxHeartbeats 4000000 in
theorem run_any {L : List Nd} {M : List (Int × Int)} {ids0 : List Int} {n : Nat} (h : ChainIs w base tbase tb T sv mb mp cb qb N bel steps A c Q turn Aq cq) (hr : RunS (pairB T bel) M ids0 N L Q turn steps n) (hn : n ≤ 100000000)
    (hP : ∀ a b r, pairB T bel a b = some r ↔ ∃ k : Nat, M[k]? = some (a, b) ∧ r = 256 + k) (hM : OkM M 256) (hrs : ∀ a b r, pairB T bel a b = some r → r < 1000000) :
    Calls Tryz.prog 168 #[.pointer (some ⟨cb, 0, none⟩)] w fun e w' => e = .returned (.tuple #[]) ∧ ∃ N' L' turn' steps' Aq' cq', RunIs w w' base tbase tb T sv mb mp cb qb bel A c M ids0 n N' L' [] turn' steps' Aq' cq' := by
  have HS : Hid (RunIs w w base tbase tb T sv mb mp cb qb bel A c M ids0 n N L Q turn steps Aq cq) := Lib.hid ⟨h, hr, Below.refl _ _⟩
  have HPP := Lib.hid hP
  have HM := Lib.hid hM
  have HRS := Lib.hid hrs
  clear h hr hP hM hrs
  go_enter Tryz.func168, Tryz.ntmps168
  go_wp2_with fail
  go_loopg [] (Q.length + 3 * L.length) (fun m W => ∃ N' L' Q' turn' steps' Aq' cq', Q'.length + 3 * L'.length ≤ m ∧ RunIs w W base tbase tb T sv mb mp cb qb bel A c M ids0 n N' L' Q' turn' steps' Aq' cq')
  case atStart => exact ⟨N, L, Q, turn, steps, Aq, cq, Nat.le_refl _, HS.out⟩
  case round =>
    obtain ⟨N', L', Q', turn', steps', Aq', cq', hm, hW⟩ := hrel
    clear HS
    rename World => W
    have HW := Lib.hid hW
    have HMM := Lib.hid hm
    have hsz := hW.run.size
    have htn := hW.run.turn
    have hst := hW.run.steps
    have HSZ := Lib.hid hsz
    have HTN := Lib.hid htn
    have HST := Lib.hid hst
    have h2 := blk_cell hW.ch.lk.blk 2
    simp only [List.getElem?_toArray, List.getElem?_cons_zero, List.getElem?_cons_succ] at h2
    clear hW hm hsz htn hst
    go_wp2_with fail
    by_cases h0 : 0 < Q'.length
    · refine (hw.pop_h HW.out.ch.hp h0 (by have := HSZ.out; omega)).mono ?_
      rintro e w4 ⟨rfl, h4, hk4⟩
      obtain ⟨hC, hB⟩ := HW.out.ch.queue h4 hk4
      have HC := Lib.hid hC
      have HB := Lib.hid (HW.out.bl.trans hB)
      have hent := HW.out.run.q.ent Q'[0] (List.getElem_mem _)
      obtain ⟨k, hk1, hk2, hk3⟩ := HW.out.run.q.pos Q'[0] (List.getElem_mem _)
      have HRR := Lib.hid (HRS.out _ _ _ hent.1)
      obtain ⟨x, hx⟩ : ∃ x, Q'[0].x = x := ⟨_, rfl⟩
      have HX := Lib.hid hx
      rw [hx] at hk1 hk3 ⊢
      clear hx hent h4 hk4 hC hB h2
      obtain ⟨xi, xa, xb⟩ := x
      simp only at hk1 hk3
      subst hk1
      have hkN : k < N'.length := by rw [HW.out.run.nlen]; exact hk2
      have hy := List.getElem?_eq_getElem hkN
      obtain ⟨hs1, hs2, hs3⟩ := stale_spec HW.out.run.lives hy (b := xb) hk3
      have HST2 := Lib.hid (by simpa only [hw.wtV] using stale_any (HC.out.below ((Below.refl w4.heap.size w4).alloc (Nat.le_refl _) (.cells #[.int .i64 (k : Int), .int .i64 xa, .int .i64 xb] 261)) (Nat.le_refl _)) k _ xa xb hy hs1)
      have HS2 := Lib.hid hs2
      have HS3 := Lib.hid hs3
      replace HB := Lib.hid (HB.out.alloc HC.out.sizes (.cells #[.int .i64 (k : Int), .int .i64 xa, .int .i64 xb] 261))
      replace HC := Lib.hid (HC.out.below ((Below.refl w4.heap.size w4).alloc (Nat.le_refl _) (.cells #[.int .i64 (k : Int), .int .i64 xa, .int .i64 xb] 261)) (Nat.le_refl _))
      have HN := Lib.hid (blk_new w4 (.cells #[.int .i64 (k : Int), .int .i64 xa, .int .i64 xb] 261))
      clear hs1 hs2 hs3 hy
      unfold hw.wtV
      simp only
      go_upto_region 2 with fail
      have HB2 := Lib.hid HB.out
      have n0 := blk_cell HN.out 0
      have n1 := blk_cell HN.out 1
      have n2 := blk_cell HN.out 2
      simp only [List.getElem?_toArray, List.getElem?_cons_zero, List.getElem?_cons_succ] at n0 n1 n2
      generalize w4.heap.size = g2 at *
      generalize w4.alloc (.cells #[.int .i64 (k : Int), .int .i64 xa, .int .i64 xb] 261) = w5 at *
      obtain ⟨B, hB⟩ : ∃ B, staleB N' N'[k] xa xb = B := ⟨_, rfl⟩
      rw [hB] at HST2 HS2 HS3
      clear hB
      go_wp2_with fail
      refine HST2.out.mono ?_
      rintro e w6 ⟨rfl, hb6⟩
      clear HST2
      have n60 := below_cell hb6 (Nat.le_refl _) n0
      have HC6 := Lib.hid (HC.out.below hb6 (Nat.le_refl _))
      have HB6 := Lib.hid (HB.out.trans (hb6.mono HC.out.sizes))
      clear hb6 n0 n1 n2 HC HB HB2 HN
      cases B with
      | true =>
        have HNEW := Lib.hid (HW.out.run.drop h0 (by rw [HX.out]; exact HS2.out rfl))
        have HPL := Lib.hid (pop_len Q')
        go_wp2_with fail
        go_roundg (gk - 1)
        case measure => have := HMM.out; omega
        case rel => exact ⟨N', L', popT Q', turn', steps', Aq', cq', by have := HMM.out; have := HPL.out; omega, HC6.out, HNEW.out, HB6.out⟩
      | false =>
        obtain ⟨L1, L2, j, hL⟩ := HS3.out rfl
        subst hL
        have HNEW := Lib.hid (HW.out.run.join h0 HX.out HPP.out HM.out HRR.out)
        have hr0 : 0 ≤ Q'[0].r := by
          obtain ⟨_, _, e⟩ := (HPP.out _ _ _).1 (HW.out.run.q.ent Q'[0] (List.getElem_mem _)).1
          omega
        have HJ := Lib.hid (join_any HC6.out HW.out.run.lives ⟨hr0, HRR.out⟩ (by rw [pop_len]; have := HSZ.out; omega) (by have := HTN.out; omega) (by have := HTN.out; omega) HW.out.run.pos (by have := HST.out; omega) _ rfl)
        have HPL := Lib.hid (pop_len Q')
        have HQ3 := Lib.hid (askL_len (P := pairB T bel) (Q := popT Q') (turn := turn') (p := L1) (q := ((k : Int), Q'[0].r) :: L2))
        generalize hR2 : askL (pairB T bel) (popT Q') turn' L1 (((k : Int), Q'[0].r) :: L2) = R2 at *
        have HQ4 := Lib.hid (askQ_len (P := pairB T bel) (Q := R2.1) (turn := R2.2) (i := (k : Int)) (a := Q'[0].r) (q := L2))
        generalize hR3 : askQ (pairB T bel) R2.1 R2.2 (k : Int) Q'[0].r L2 = R3 at *
        generalize Q'[0].r = rr at *
        clear hR2 hR3 hr0 HS2 HS3
        go_wp2_with fail
        refine HJ.out.mono ?_
        rintro e w7 ⟨rfl, ⟨Aq7, cq7, h7⟩, hb7⟩
        have H7 := Lib.hid h7
        have HB7 := Lib.hid (HB6.out.trans hb7)
        clear h7 hb7 HJ
        go_wp2_with fail
        go_roundg (gk - 1)
        case measure => have := HMM.out; omega
        case rel => exact ⟨_, _, R3.1, R3.2, _, Aq7, cq7, by have := HMM.out; have := HPL.out; have := HQ3.out; have := HQ4.out; simp only [List.length_append, List.length_cons] at *; omega, H7.out, HNEW.out, HB7.out⟩
    · have e0 : Q' = [] := List.eq_nil_of_length_eq_zero (by omega)
      subst e0
      refine (hw.pop_none HW.out.ch.hp).mono ?_
      rintro e w4 ⟨rfl, hb4⟩
      have HF : Hid (RunIs w (w4.alloc (.cells #[.int .i64 0, .int .i64 0, .int .i64 0] 261)) base tbase tb T sv mb mp cb qb bel A c M ids0 n N' L' [] turn' steps' Aq' cq') := Lib.hid (by
        have hb5 := hb4.alloc hb4.size (.cells #[.int .i64 0, .int .i64 0, .int .i64 0] 261)
        exact ⟨HW.out.ch.below hb5 (Nat.le_refl _), HW.out.run, HW.out.bl.trans (hb5.mono HW.out.ch.sizes)⟩)
      clear hb4 h2
      unfold hw.wtV
      go_wp2_with fail
      (try simp only [Exit.inBlock, Exit.then])
      refine bodyPost_ret (results_none rfl _ _ _) rfl ?_
      exact ⟨rfl, _, _, _, _, _, _, HF.out⟩
end
end Go.Proofs.YtbppaiejpgdbiaaGreat

/- Layer 5 (chain): ids. -/
namespace Go.Proofs.YtbppaiejpgdbiaaGreat
open Go.RowKit Go.Maps Go.WideMaps
set_option maxRecDepth 100000
set_option linter.unusedVariables false
set_option linter.unusedSimpArgs false

theorem info_int5 : (Tryz.prog.info? 3).map (fun i => (i.zero, i.size, i.bytes)) = some (some (.int .i64 0), 1, 8) := by kernel_rfl
/-- numbers in a row of the call's own -/
def IntsIs (w : World) (base : Nat) (v : Value) (l : List Int) : Prop := ∃ A c, v = .slice A l.length c ∧ w.ownsRow base 3 1 (.slice A l.length c) l.length (l.map (Value.int .i64))
section
variable {w w' : World} {base tbase tb : Nat} {T : List Ent} {sv : Value} {mb mp cb qb : Nat} {N : List Node} {bel steps : Int} {A : Option Addr} {c g : Nat} {Q : List (Th Wt)} {turn : Int} {Aq : Option Addr} {cq : Nat}
structure IdsIs (w W : World) (base cb tb qb : Nat) (N : List Node) (bel steps : Int) (A : Option Addr) (c : Nat) (p : List Nd) (A2 : Option Addr) (c2 : Nat) : Prop where
  lk : LinkIs W base cb tb qb N bel steps A c
  row : W.ownsRow w.heap.size 3 1 (.slice A2 p.length c2) p.length ((idsC p).map (Value.int .i64))
  bl : Below w.heap.size w W
theorem ids_none (h : LinkIs w base cb tb qb [] bel steps A c) :
    Calls Tryz.prog 169 #[.pointer (some ⟨cb, 0, none⟩)] w fun e w' => (∃ v, e = .returned v ∧ IntsIs w' w.heap.size v []) ∧ Below w.heap.size w w' := by
  have h1 := blk_cell h.blk 1
  simp only [List.getElem?_toArray, List.getElem?_cons_zero, List.getElem?_cons_succ, List.length_nil] at h1
  clear h
  go_enter Tryz.func169, Tryz.ntmps169
  go_wp2_with fail
  go_loopg [3, 4] 0 (fun n u i W => u = .slice none 0 0 ∧ i = .int .i64 0 ∧ W = w)
  case atStart => exact ⟨rfl, rfl, rfl⟩
  case round =>
    obtain ⟨rfl, rfl, rfl⟩ := hrel
    go_wp2_with fail
    go_ret
    exact ⟨⟨_, rfl, none, 0, rfl, own_nil _ _ _ _⟩, Below.refl _ _⟩
set_option maxHeartbeats 4000000 in
theorem ids_any {L : List Nd} (h : LinkIs w base cb tb qb N bel steps A c) (hL : Lives N L) (hN : N ≠ []) (hn : L.length ≤ 100000000) :
    Calls Tryz.prog 169 #[.pointer (some ⟨cb, 0, none⟩)] w fun e w' => (∃ v, e = .returned v ∧ IntsIs w' w.heap.size v (idsC L)) ∧ Below w.heap.size w w' := by
  have HS : Hid (IdsIs w w base cb tb qb N bel steps A c [] none 0) := Lib.hid ⟨h, by simpa [idsC] using own_nil _ _ _ _, Below.refl _ _⟩
  have HLT := Lib.hid (blk_lt h.blk)
  have HAT : Hid (∀ g, A = some ⟨g, 0, none⟩ → g < w.heap.size) := Lib.hid (fun g hg => hw.own_lt h.row g (hw.addr_own hg))
  have HL := Lib.hid hL
  have hN0 : 0 < N.length := by
    rcases N with _ | ⟨x, N⟩
    · exact absurd rfl hN
    · simp
  obtain ⟨a0, q0, e0⟩ := hL.first hN
  have HE := Lib.hid e0
  have h0i : (0 : Int) = headI L := by rw [e0]; rfl
  have H0 := Lib.hid h0i
  clear h hL hN e0 h0i
  go_enter Tryz.func169, Tryz.ntmps169
  go_wp2_with fail
  go_loopg [3, 4] L.length (fun n u i W => ∃ p q A2 c2, L = p ++ q ∧ q.length = n ∧ u = .slice A2 p.length c2 ∧ i = .int .i64 (headI q) ∧ IdsIs w W base cb tb qb N bel steps A c p A2 c2)
  case atStart => exact ⟨[], L, none, 0, rfl, rfl, rfl, by rw [← H0.out], HS.out⟩
  case round =>
    obtain ⟨p, q, A2, c2, hLq, hq, rfl, rfl, hW⟩ := hrel
    clear HS
    rename World => W
    have HW := Lib.hid hW
    have HLQ := Lib.hid hLq
    have HQ := Lib.hid hq
    have hlen : p.length + q.length = L.length := by rw [hLq]; simp
    have HLEN := Lib.hid hlen
    have h1 := blk_cell hW.lk.blk 1
    simp only [List.getElem?_toArray, List.getElem?_cons_zero, List.getElem?_cons_succ] at h1
    clear hW hLq hq hlen
    rcases q with _ | ⟨⟨k, a⟩, q⟩
    · rw [headI_nil]
      go_wp2_with fail
      go_ret
      have e := HLQ.out
      rw [List.append_nil] at e
      subst e
      exact ⟨⟨_, rfl, A2, c2, by simp [idsC], by simpa [idsC] using HW.out.row⟩, HW.out.bl⟩
    · obtain ⟨k', rfl, hk⟩ := HL.out.at_ p k a q HLQ.out
      have hkl := (List.getElem?_eq_some_iff.1 hk).1
      obtain ⟨g, hA, c0, c1, c2'⟩ := HW.out.lk.at k' _ hk
      subst hA
      simp only at c0 c2'
      have HKK := Lib.hid hk
      clear c1 hk
      rw [headI_cons]
      simp only
      have p0 : (0 : Int) ≤ (k' : Int) := by omega
      have p1 : (k' : Int) < (N.length : Int) := by omega
      have q1 : ((k' : Int) != -1) = true := by simp
      have hpl : p.length ≤ 100000000 := by have := HLEN.out; simp at this; omega
      go_wp2_with (at_builtin; refine app_one (w.heap.size) 57 3 (.int .i64 0) 1 8 [_] 1 _ _ rfl rfl Tryz.underlying57 info_int5 rfl (by decide) _ _ _ rfl rfl rfl (by intro u hu; simp at hu; subst hu; rfl) HW.out.row (by omega) (by omega) HW.out.bl.size ?_)
      intro v' w6 hown hg6
      obtain ⟨A3, c3, rfl⟩ := own_slice hown
      have hk6 : Keep (fun g => (Value.slice A2 p.length c2).ownBlock = some g) W w6 := Keep.of_grown hg6 (fun g hg => hg)
      have hnew : IdsIs w w6 base cb tb qb N bel steps (some ⟨g, 0, none⟩) c (p ++ [((k' : Int), a)]) A3 c3 := by
        refine ⟨HW.out.lk.keep hk6 (fun e => ?_) (fun x hx e => ?_), ?_, ?_⟩
        · have := own_base HW.out.row _ e; have := HLT.out; omega
        · have := own_base HW.out.row _ e; have := HAT.out x hx; omega
        · have e2 : (p ++ [((k' : Int), a)]).length = p.length + 1 := by simp
          rw [e2]
          unfold idsC at hown ⊢
          rw [List.map_append, List.map_append]
          exact hown
        · exact HW.out.bl.trans (Keep.below hk6 HW.out.bl.size (fun x hx => own_base HW.out.row x hx))
      have HNEW := Lib.hid hnew
      have HP1 := Lib.hid (show (p ++ [((k' : Int), a)]).length = p.length + 1 from by simp)
      clear hown hg6 hk6 hnew h1 c0 c2'
      obtain ⟨g', e, d0, d1, d2⟩ := HNEW.out.lk.at k' _ HKK.out
      injection e with e
      injection e with e
      subst e
      have h1 := blk_cell HNEW.out.lk.blk 1
      simp only [List.getElem?_toArray, List.getElem?_cons_zero, List.getElem?_cons_succ] at h1 d2
      clear d0 d1
      go_wp2_with fail
      go_roundg q.length
      case measure => have := HQ.out; simp at this; omega
      case rel => exact ⟨p ++ [((k' : Int), a)], q, A3, c3, by rw [HLQ.out]; simp, rfl, by rw [HP1.out], rfl, HNEW.out⟩
end
end Go.Proofs.YtbppaiejpgdbiaaGreat

/- Layer 5 (chain): the nodes at the beginning: the plain law. -/
namespace Go.Proofs.YtbppaiejpgdbiaaGreat
set_option linter.unusedVariables false
set_option linter.unusedSimpArgs false

/-- a byte as a token -/
def byI (s : List UInt8) (i : Nat) : Int := (s.getD i 0).toNat
def rawN (s : List UInt8) (k : Nat) : List Node := (List.range k).map fun (i : Nat) => (byI s i, (i : Int) - 1, (i : Int) + 1)
def begN (s : List UInt8) : List Node := (List.range s.length).map fun (i : Nat) => (byI s i, (i : Int) - 1, if i + 1 < s.length then (i : Int) + 1 else -1)
def begL (s : List UInt8) : List Nd := (List.range s.length).map fun (i : Nat) => ((i : Int), byI s i)
def bysI (s : List UInt8) : List Int := s.map fun c => (c.toNat : Int)
theorem rawN_len (s : List UInt8) (k : Nat) : (rawN s k).length = k := by simp [rawN]
theorem begN_len (s : List UInt8) : (begN s).length = s.length := by simp [begN]
theorem begL_len (s : List UInt8) : (begL s).length = s.length := by simp [begL]
theorem rawN_succ (s : List UInt8) (k : Nat) : rawN s (k + 1) = rawN s k ++ [(byI s k, (k : Int) - 1, (k : Int) + 1)] := by simp [rawN, List.range_succ]
theorem begL_ids (s : List UInt8) : idsC (begL s) = bysI s := by
  apply List.ext_getElem
  · simp [idsC, begL, bysI]
  · intro i h1 h2
    simp [idsC, begL, bysI, byI] at h1 ⊢
    rw [List.getElem?_eq_getElem h1]
    rfl
theorem begN_raw (s : List UInt8) (h : 0 < s.length) : (rawN s s.length).modify (s.length - 1) (nextN (-1)) = begN s := by
  apply List.ext_getElem
  · simp [rawN, begN]
  · intro i h1 h2
    simp [rawN, begN, List.getElem_modify] at h1 ⊢
    by_cases e : s.length - 1 = i
    · have : ¬ i + 1 < s.length := by omega
      simp [e, nextN, this]
    · have : i + 1 < s.length := by omega
      simp [e, this]
theorem byI_nn (s : List UInt8) (i : Nat) : 0 ≤ byI s i ∧ byI s i < 256 := by
  unfold byI
  have := (s.getD i 0).toNat_lt
  omega
theorem begL_srt (s : List UInt8) : (begL s).Pairwise (fun x y => x.1 < y.1) := by
  unfold begL
  rw [List.pairwise_map]
  exact List.pairwise_lt_range.imp (fun h => by simpa using h)
theorem begL_at (s : List UInt8) {p q : List Nd} {x : Nd} (h : begL s = p ++ x :: q) : x.1 = p.length ∧ x.2 = byI s p.length ∧ p.length < s.length ∧ lastI p = (p.length : Int) - 1 ∧ headI q = (if p.length + 1 < s.length then (p.length : Int) + 1 else -1) := by
  have hl : (begL s).length = p.length + (q.length + 1) := by rw [h]; simp
  rw [begL_len] at hl
  have at_ : ∀ k (hk : k < s.length), (begL s)[k]? = some ((k : Int), byI s k) := by
    intro k hk
    simp [begL, hk]
  have h0 := at_ p.length (by omega)
  rw [h, List.getElem?_append_right (Nat.le_refl _)] at h0
  simp at h0
  refine ⟨by rw [h0], by rw [h0], by omega, ?_, ?_⟩
  · rcases List.eq_nil_or_concat p with rfl | ⟨p', y, rfl⟩
    · rfl
    · rw [List.concat_eq_append] at *
      rw [lastI_snoc]
      have h1 := at_ p'.length (by simp at hl; omega)
      rw [h] at h1
      simp at h1
      rw [h1]
      simp
  · rcases q with _ | ⟨y, q⟩
    · rw [headI_nil, if_neg (by simp at hl; omega)]
    · rw [headI_cons, if_pos (by simp at hl; omega)]
      have h1 := at_ (p.length + 1) (by simp at hl; omega)
      rw [h, List.getElem?_append_right (by omega)] at h1
      have e : p.length + 1 - p.length = 1 := by omega
      rw [e] at h1
      simp at h1
      rw [h1]
theorem begL_split (s : List UInt8) {k : Nat} (hk : k < s.length) : ∃ p q, begL s = p ++ ((k : Int), byI s k) :: q ∧ p.length = k := by
  have hk' : k < (begL s).length := by rw [begL_len]; exact hk
  refine ⟨(begL s).take k, (begL s).drop (k + 1), ?_, by rw [List.length_take]; omega⟩
  have h1 : (begL s)[k] = ((k : Int), byI s k) := by simp [begL]
  rw [← h1, List.getElem_cons_drop, List.take_append_drop]
theorem beg_lives (s : List UInt8) : Lives (begN s) (begL s) := by
  refine ⟨?_, ?_, ?_, ?_, begL_srt s⟩
  · intro p i a q h
    obtain ⟨h1, h2, h3, h4, h5⟩ := begL_at s h
    refine ⟨p.length, h1, ?_⟩
    simp only at h2
    rw [h2, h4, h5]
    simp [begN, h3]
  · intro k x hk hno
    exfalso
    have hlt := (List.getElem?_eq_some_iff.1 hk).1
    rw [begN_len] at hlt
    exact hno (byI s k) (by simp [begL]; exact ⟨k, hlt, rfl, rfl⟩)
  · intro h
    rcases s with _ | ⟨c, s⟩
    · exact absurd rfl h
    · exact ⟨byI (c :: s) 0, (List.range s.length).map (fun i => (((i + 1 : Nat) : Int), byI (c :: s) (i + 1))), by simp [begL, List.range_succ_eq_map]⟩
  · intro x hx
    simp [begL] at hx
    obtain ⟨i, _, rfl⟩ := hx
    have := byI_nn s i
    exact ⟨this.1, by simp; omega⟩
end Go.Proofs.YtbppaiejpgdbiaaGreat

/- Layer 5 (chain): begin. -/
namespace Go.Proofs.YtbppaiejpgdbiaaGreat
open Go.RowKit Go.Maps Go.WideMaps
set_option maxRecDepth 100000
set_option linter.unusedVariables false
set_option linter.unusedSimpArgs false

theorem byI_at (s : ByteArray) (k : Nat) (hk : k < s.size) : byI s.data.toList k = ((s[k]'hk).toNat : Int) := by
  have h2 : k < s.data.toList.length := by simpa using hk
  unfold byI
  rw [List.getD_eq_getElem?_getD, List.getElem?_eq_getElem h2]
  rfl
theorem dataLen (s : ByteArray) : s.data.toList.length = s.size := by rw [Array.length_toList]; rfl
section
variable {w w' : World} {tbase tb : Nat} {T : List Ent} {sv : Value} {mb mp : Nat}
structure CBegIs (w W : World) (tbase tb : Nat) (T : List Ent) (sv : Value) (mb mp cb : Nat) (N : List Node) (bel : Int) (A : Option Addr) (c : Nat) (Q : List (Th Wt)) (turn : Int) (Aq : Option Addr) (cq : Nat) : Prop where
  ch : ChainIs W w.heap.size tbase tb T sv mb mp cb w.heap.size N bel 0 A c Q turn Aq cq
  bl : Below w.heap.size w W
  ge : w.heap.size ≤ cb
theorem cbeg_app {W W1 : World} {cb : Nat} {N : List Node} {bel : Int} {A A1 : Option Addr} {c c1 : Nat} {x : Node} (h : CBegIs w W tbase tb T sv mb mp cb N bel A c [] 0 none 0)
    (hown : W1.ownsRow w.heap.size 266 3 (.slice A1 (N.length + 1) c1) (N.length + 1) (N.flatMap encN ++ encN x)) (hg : W.grownBy W1 (Value.slice A N.length c).ownBlock) :
    W1.heap[cb]? = some (.cells #[.pointer (some ⟨tb, 0, none⟩), .slice A N.length c, .pointer (some ⟨w.heap.size, 0, none⟩), .int .i64 bel, .int .i64 0] 264) ∧
    CBegIs w (W1.setCell ⟨cb, 1, none⟩ (.slice A1 (N.length + 1) c1)) tbase tb T sv mb mp cb (N ++ [x]) bel A1 c1 [] 0 none 0 := by
  have hk1 : Keep (fun g => (Value.slice A N.length c).ownBlock = some g) W W1 := Keep.of_grown hg (fun g hg => hg)
  have b1 := hk1.blk h.ch.lk.blk (row_ne h.ch.lk.row h.ch.lk.blk (by decide))
  have hk2 : Keep (fun g => g = cb ∨ A = some ⟨g, 0, none⟩) W (W1.setCell ⟨cb, 1, none⟩ (.slice A1 (N.length + 1) c1)) := (hk1.mono (fun g hg => .inr (hw.own_addr h.ch.lk.row g hg))).setCell (p := ⟨cb, 1, none⟩) (.inl (.inl rfl)) _
  have hl : LinkIs (W1.setCell ⟨cb, 1, none⟩ (.slice A1 (N.length + 1) c1)) w.heap.size cb tb w.heap.size (N ++ [x]) bel 0 A1 c1 := by
    refine ⟨?_, ?_, h.ch.lk.le⟩
    · rw [List.length_append]
      simpa using blk_set b1 1 (.slice A1 (N.length + 1) c1)
    · rw [List.length_append, List.flatMap_append]
      have := own_keep hown ((Keep.refl (fun x => x = cb) W1).setCell (p := ⟨cb, 1, none⟩) (.inl rfl) (.slice A1 (N.length + 1) c1)) (fun x hx e => row_ne hown b1 (by decide) (by rw [hx, e]))
      simpa using this
  obtain ⟨hC, hB⟩ := h.ch.link hl hk2
  exact ⟨b1, hC, h.bl.trans hB, h.ge⟩

set_option maxHeartbeats 4000000 in
theorem chain_begin (s : ByteArray) (bel : Int) (h : TabIs w tbase tb T sv mb mp) (hs : s.size ≤ 100000000) :
    Calls Tryz.prog 167 #[.pointer (some ⟨tb, 0, none⟩), .string s, .int .i64 bel] w fun e w' => ∃ cb A c Q turn Aq cq, e = .returned (.pointer (some ⟨cb, 0, none⟩)) ∧
      CBegIs w w' tbase tb T sv mb mp cb (begN s.data.toList) bel A c Q turn Aq cq ∧ BegS (pairB T bel) (begL s.data.toList) s.size s.size Q turn := by
  have HT := Lib.hid h
  clear h
  go_enter Tryz.func167, Tryz.ntmps167
  go_wp2_with fail
  refine (hw.new_any w).mono ?_
  rintro e w1 ⟨rfl, hq, hb⟩
  have hlt : w.heap.size < w1.heap.size := blk_lt hq.blk
  have hb2 := (Below.refl w1.heap.size w1).alloc (Nat.le_refl _) (.cells #[.pointer (some ⟨tb, 0, none⟩), .slice none 0 0, .pointer (some ⟨w.heap.size, 0, none⟩), .int .i64 bel, .int .i64 0] 264)
  have HS : Hid (CBegIs w (w1.alloc (.cells #[.pointer (some ⟨tb, 0, none⟩), .slice none 0 0, .pointer (some ⟨w.heap.size, 0, none⟩), .int .i64 bel, .int .i64 0] 264)) tbase tb T sv mb mp w1.heap.size [] bel none 0 [] 0 none 0) := Lib.hid (by
    refine ⟨⟨⟨?_, ?_, Nat.le_of_lt hlt⟩, hq.below hb2 (Nat.le_refl _), (HT.out.below hb (Nat.le_refl _)).below hb2 (Nat.le_refl _), ?_⟩, hb.trans (hb2.mono (Nat.le_of_lt hlt)), Nat.le_of_lt hlt⟩
    · simpa using blk_new w1 _
    · simpa using own_nil _ _ _ _
    · rintro x (rfl | e | rfl | rfl)
      · exact blk_lt HT.out.blk
      · exact hw.own_lt HT.out.row x e
      · exact HT.out.bys.lt
      · exact HT.out.prs.lt)
  clear hq hb hb2 hlt
  go_wp2_with fail
  generalize w1.heap.size = cb at *
  generalize w1.alloc (.cells #[.pointer (some ⟨tb, 0, none⟩), .slice none 0 0, .pointer (some ⟨w.heap.size, 0, none⟩), .int .i64 bel, .int .i64 0] 264) = W0 at *
  go_loopg [18] s.size (fun n u W => ∃ k A c, k + n = s.size ∧ u = .int .i64 ((k : Nat) : Int) ∧ CBegIs w W tbase tb T sv mb mp cb (rawN s.data.toList k) bel A c [] 0 none 0)
  case atStart => exact ⟨0, none, 0, by omega, rfl, HS.out⟩
  case round =>
    obtain ⟨k, A, c, hk, rfl, hW⟩ := hrel
    clear HS
    rename World => W
    have HW := Lib.hid hW
    have HK := Lib.hid hk
    clear hW
    by_cases hlt : k < s.size
    · have p0 : (0 : Int) ≤ (k : Int) := by omega
      have p1 : (k : Int) < (s.size : Int) := by omega
      have w1 : IntKind.i64.wrap ((k : Int) - 1) = (k : Int) - 1 := IntWalk.i64_in _ (by omega)
      have w2 : IntKind.i64.wrap ((k : Int) + 1) = (k : Int) + 1 := IntWalk.i64_in _ (by omega)
      have hgk : 0 < gk := by omega
      clear hk
      go_upto_region 5 with fail
      have h1 := blk_cell HW.out.ch.lk.blk 1
      simp only [List.getElem?_toArray, List.getElem?_cons_zero, List.getElem?_cons_succ, rawN_len] at h1
      have HBY := Lib.hid (byI_at s k hlt)
      have h8 : IntKind.i64.wrap ((s[k]'hlt).toNat : Int) = ((s[k]'hlt).toNat : Int) := by have := (s[k]'hlt).toNat_lt; exact IntWalk.i64_in _ (by omega)
      refine wp_region_D (Ds := [18]) (S := fun V => V.cell? ⟨cb, 1, none⟩ = some (.slice A k c)) (by kernel_rfl) (by exact h1) (fun hHeld => ?_)
      (have HBL := Lib.hid (show Below w.heap.size w W.drew from HW.out.bl.drew)); (replace HW : Hid (CBegIs w W.drew tbase tb T sv mb mp cb (rawN s.data.toList k) bel A c [] 0 none 0) := Lib.hid ⟨HW.out.ch.drew, HW.out.bl.drew, HW.out.ge⟩); clear h1; generalize W.drew = W1 at *
      refine wpAnyD_takeP (i := 0) (oi := { dst := some 21, op := Op.move (Operand.tmp 7), type := 248, pos := "chain.go:38", after := #[], guard := none }) (d := 21) (v := ?_) rfl rfl (by kernel_rfl) (by kernel_rfl) (by kernel_rfl) (fun _ _ _ h => h) (Or.inl ⟨by rfl, ?_⟩) ?_
      rotate_left
      · (intro w' _; go_simp; (try with_reducible rfl))
      simp only [List.setIfInBounds_toArray, List.set_cons_zero, List.set_cons_succ]
      refine wpAnyD_takeP (i := 1) (oi := { dst := some 22, op := Op.move (Operand.tmp 7), type := 248, pos := "chain.go:38", after := #[], guard := none }) (d := 22) (v := ?_) rfl rfl (by kernel_rfl) (by kernel_rfl) (by kernel_rfl) (fun _ _ _ h => h) (Or.inl ⟨by rfl, ?_⟩) ?_
      rotate_left
      · (intro w' _; go_simp; (try with_reducible rfl))
      simp only [List.setIfInBounds_toArray, List.set_cons_zero, List.set_cons_succ]
      refine wpAnyD_takeP (i := 2) (oi := { dst := some 23, op := Op.nilCheck (Operand.tmp 22), type := 0, pos := "chain.go:38", after := #[{ on := 1, ground := Ground.data }], guard := none }) (d := 23) (v := ?_) rfl rfl (by kernel_rfl) (by kernel_rfl) (by kernel_rfl) (fun _ _ _ h => h) (Or.inl ⟨by rfl, ?_⟩) ?_
      rotate_left
      · (intro w' _; go_simp; (try with_reducible rfl))
      simp only [List.setIfInBounds_toArray, List.set_cons_zero, List.set_cons_succ]
      refine wpAnyD_takeP (i := 3) (oi := { dst := some 24, op := Op.fieldAddr 264 (Operand.tmp 23) 1, type := 0, pos := "chain.go:38", after := #[{ on := 2, ground := Ground.data }], guard := none }) (d := 24) (v := ?_) rfl rfl (by kernel_rfl) (by kernel_rfl) (by kernel_rfl) (fun _ _ _ h => h) (Or.inl ⟨by rfl, ?_⟩) ?_
      rotate_left
      · (intro w' _; go_simp; (try with_reducible rfl))
      simp only [List.setIfInBounds_toArray, List.set_cons_zero, List.set_cons_succ]
      refine wpAnyD_takeP (i := 5) (oi := { dst := some 26, op := Op.move (Operand.tmp 1), type := 9, pos := "chain.go:38", after := #[], guard := none }) (d := 26) (v := ?_) rfl rfl (by kernel_rfl) (by kernel_rfl) (by kernel_rfl) (fun _ _ _ h => h) (Or.inl ⟨by rfl, ?_⟩) ?_
      rotate_left
      · (intro w' _; go_simp; (try with_reducible rfl))
      simp only [List.setIfInBounds_toArray, List.set_cons_zero, List.set_cons_succ]
      refine wpAnyD_takeP (i := 6) (oi := { dst := some 27, op := Op.move (Operand.tmp 8), type := 3, pos := "chain.go:38", after := #[], guard := none }) (d := 27) (v := ?_) rfl rfl (by kernel_rfl) (by kernel_rfl) (by kernel_rfl) (fun _ _ _ h => h) (Or.inl ⟨by rfl, ?_⟩) ?_
      rotate_left
      · (intro w' _; go_simp; (try with_reducible rfl))
      simp only [List.setIfInBounds_toArray, List.set_cons_zero, List.set_cons_succ]
      refine wpAnyD_takeP (i := 9) (oi := { dst := some 30, op := Op.move (Operand.tmp 8), type := 3, pos := "chain.go:38", after := #[], guard := none }) (d := 30) (v := ?_) rfl rfl (by kernel_rfl) (by kernel_rfl) (by kernel_rfl) (fun _ _ _ h => h) (Or.inl ⟨by rfl, ?_⟩) ?_
      rotate_left
      · (intro w' _; go_simp; (try with_reducible rfl))
      simp only [List.setIfInBounds_toArray, List.set_cons_zero, List.set_cons_succ]
      refine wpAnyD_takeP (i := 10) (oi := { dst := some 31, op := Op.binOp BinOp.sub 3 (Operand.tmp 30) (Operand.const (Value.int IntKind.i64 1)) 3, type := 3, pos := "chain.go:38", after := #[{ on := 9, ground := Ground.data }], guard := none }) (d := 31) (v := ?_) rfl rfl (by kernel_rfl) (by kernel_rfl) (by kernel_rfl) (fun _ _ _ h => h) (Or.inl ⟨by rfl, ?_⟩) ?_
      rotate_left
      · (intro w' _; go_simp; (try with_reducible rfl))
      simp only [List.setIfInBounds_toArray, List.set_cons_zero, List.set_cons_succ]
      refine wpAnyD_takeP (i := 11) (oi := { dst := some 32, op := Op.move (Operand.tmp 8), type := 3, pos := "chain.go:38", after := #[], guard := none }) (d := 32) (v := ?_) rfl rfl (by kernel_rfl) (by kernel_rfl) (by kernel_rfl) (fun _ _ _ h => h) (Or.inl ⟨by rfl, ?_⟩) ?_
      rotate_left
      · (intro w' _; go_simp; (try with_reducible rfl))
      simp only [List.setIfInBounds_toArray, List.set_cons_zero, List.set_cons_succ]
      refine wpAnyD_takeP (i := 12) (oi := { dst := some 33, op := Op.binOp BinOp.add 3 (Operand.tmp 32) (Operand.const (Value.int IntKind.i64 1)) 3, type := 3, pos := "chain.go:38", after := #[{ on := 11, ground := Ground.data }], guard := none }) (d := 33) (v := ?_) rfl rfl (by kernel_rfl) (by kernel_rfl) (by kernel_rfl) (fun _ _ _ h => h) (Or.inl ⟨by rfl, ?_⟩) ?_
      rotate_left
      · (intro w' _; go_simp; (try with_reducible rfl))
      simp only [List.setIfInBounds_toArray, List.set_cons_zero, List.set_cons_succ]
      refine wpAnyD_takeD (i := 4) (oi := { dst := some 25, op := Op.load 262 (Operand.tmp 24), type := 262, pos := "chain.go:38", after := #[{ on := 3, ground := Ground.data }], guard := none }) (d := 25) (v := ?_) rfl rfl (by kernel_rfl) (by kernel_rfl) (by kernel_rfl) (by kernel_rfl) (fun _ _ _ h => h) (Or.inl ⟨by rfl, ?_⟩) hHeld ?_
      rotate_left
      · (intro w' hSw; (try dsimp only at hSw); go_simp; (try with_reducible rfl))
      simp only [List.setIfInBounds_toArray, List.set_cons_zero, List.set_cons_succ]
      refine wpAnyD_takeD (i := 7) (oi := { dst := some 28, op := Op.index 9 (Operand.tmp 26) (Operand.tmp 27), type := 5, pos := "chain.go:38", after := #[{ on := 5, ground := Ground.data }, { on := 6, ground := Ground.data }], guard := none }) (d := 28) (v := ?_) rfl rfl (by kernel_rfl) (by kernel_rfl) (by kernel_rfl) (by kernel_rfl) (fun _ _ _ h => h) (Or.inl ⟨by rfl, ?_⟩) hHeld ?_
      rotate_left
      · (intro w' hSw; (try dsimp only at hSw); go_simp; (try with_reducible rfl))
      simp only [List.setIfInBounds_toArray, List.set_cons_zero, List.set_cons_succ]
      refine wpAnyD_takeD (i := 8) (oi := { dst := some 29, op := Op.convert 5 3 (Operand.tmp 28), type := 3, pos := "chain.go:38", after := #[{ on := 7, ground := Ground.data }], guard := none }) (d := 29) (v := ?_) rfl rfl (by kernel_rfl) (by kernel_rfl) (by kernel_rfl) (by kernel_rfl) (fun _ _ _ h => h) (Or.inl ⟨by rfl, ?_⟩) hHeld ?_
      rotate_left
      · (intro w' hSw; (try dsimp only at hSw); go_simp; (try with_reducible rfl))
      simp only [List.setIfInBounds_toArray, List.set_cons_zero, List.set_cons_succ]
      refine wpAnyD_takeP (i := 13) (oi := { dst := some 34, op := Op.build 266 #[(0, Operand.tmp 29), (1, Operand.tmp 31), (2, Operand.tmp 33)], type := 266, pos := "chain.go:38", after := #[{ on := 8, ground := Ground.data }, { on := 10, ground := Ground.data }, { on := 12, ground := Ground.data }], guard := none }) (d := 34) (v := ?_) rfl rfl (by kernel_rfl) (by kernel_rfl) (by kernel_rfl) (fun _ _ _ h => h) (Or.inl ⟨by rfl, ?_⟩) ?_
      rotate_left
      · (intro w' _; go_simp; (try with_reducible rfl))
      simp only [List.setIfInBounds_toArray, List.set_cons_zero, List.set_cons_succ]
      refine wpAnyD_one (i := 14) (o := { dst := some 35, op := Op.buildSlice 262 1 #[(0, Operand.tmp 34)], type := 262, pos := "chain.go:38", after := #[{ on := 13, ground := Ground.data }], guard := none }) (by kernel_rfl) rfl (by rfl) (fun K hK => ?_)
      go_simp; have hbl := (Below.refl W1.heap.size W1).alloc (Nat.le_refl _) (.cells #[.int .i64 ((s[k]'hlt).toNat : Int), .int .i64 ((k : Int) - 1), .int .i64 ((k : Int) + 1)] 266); have h := below_cell hbl (Nat.le_refl _) hHeld; clear hbl
      refine hK.out _ _ h (fun hHeld => ?_)
      clear hK K
      try simp only [Act.put, List.setIfInBounds_toArray, List.set_cons_zero, List.set_cons_succ]
      refine wpAnyD_one (i := 15) (o := { dst := some 36, op := Op.call { callee := Callee.builtin Builtin.append, args := #[Operand.tmp 25, Operand.tmp 35], argTypes := #[262, 262] }, type := 262, pos := "chain.go:38", after := #[{ on := 4, ground := Ground.data }, { on := 14, ground := Ground.data }], guard := none }) (by kernel_rfl) rfl (by rfl) (fun K hK => ?_)
      have hrow := HW.out.ch.lk.row; rw [rawN_len] at hrow; refine wp_app_one w.heap.size 262 266 (.agg #[.int .i64 0, .int .i64 0, .int .i64 0]) 3 24 [_, _, _] 1 _ _ rfl Tryz.underlying262 info_node rfl (by decide) _ _ _ rfl _ rfl rfl rfl (by intro u hu; simp at hu; rcases hu with rfl | rfl | rfl <;> rfl) hrow (by omega) (by omega) HW.out.bl.size ?_; intro v' W2 hown1 hg1 hnew; obtain ⟨A1, cA1, rfl⟩ := own_slice hown1; have hbeg := cbeg_app (x := (byI s.data.toList k, (k : Int) - 1, (k : Int) + 1)) HW.out (by rw [rawN_len]; unfold encN; rw [HBY.out]; exact hown1) (by rw [rawN_len]; exact hg1); have b1 := hbeg.1; have HNEW := Lib.hid hbeg.2; rw [rawN_len] at b1 HNEW; clear hown1 hg1 hnew hrow hbeg; have h := blk_cell b1 1
      refine hK.out _ _ h (fun hHeld => ?_)
      clear hK K
      try simp only [Act.put, List.setIfInBounds_toArray, List.set_cons_zero, List.set_cons_succ]
      refine wpAnyD_takeP (i := 16) (oi := { dst := some 37, op := Op.nilCheck (Operand.tmp 21), type := 0, pos := "chain.go:38", after := #[{ on := 0, ground := Ground.data }, { on := 0, ground := Ground.phase }, { on := 1, ground := Ground.phase }, { on := 2, ground := Ground.phase }, { on := 3, ground := Ground.phase }, { on := 4, ground := Ground.phase }, { on := 5, ground := Ground.phase }, { on := 6, ground := Ground.phase }, { on := 7, ground := Ground.phase }, { on := 8, ground := Ground.phase }, { on := 9, ground := Ground.phase }, { on := 10, ground := Ground.phase }, { on := 11, ground := Ground.phase }, { on := 12, ground := Ground.phase }, { on := 13, ground := Ground.phase }, { on := 14, ground := Ground.phase }, { on := 15, ground := Ground.phase }], guard := none }) (d := 37) (v := ?_) rfl rfl (by kernel_rfl) (by kernel_rfl) (by kernel_rfl) (fun _ _ _ h => h) (Or.inl ⟨by rfl, ?_⟩) ?_
      rotate_left
      · (intro w' _; go_simp; (try with_reducible rfl))
      simp only [List.setIfInBounds_toArray, List.set_cons_zero, List.set_cons_succ]
      refine wpAnyD_takeP (i := 17) (oi := { dst := some 38, op := Op.fieldAddr 264 (Operand.tmp 37) 1, type := 0, pos := "chain.go:38", after := #[{ on := 16, ground := Ground.data }, { on := 0, ground := Ground.phase }, { on := 1, ground := Ground.phase }, { on := 2, ground := Ground.phase }, { on := 3, ground := Ground.phase }, { on := 4, ground := Ground.phase }, { on := 5, ground := Ground.phase }, { on := 6, ground := Ground.phase }, { on := 7, ground := Ground.phase }, { on := 8, ground := Ground.phase }, { on := 9, ground := Ground.phase }, { on := 10, ground := Ground.phase }, { on := 11, ground := Ground.phase }, { on := 12, ground := Ground.phase }, { on := 13, ground := Ground.phase }, { on := 14, ground := Ground.phase }, { on := 15, ground := Ground.phase }], guard := none }) (d := 38) (v := ?_) rfl rfl (by kernel_rfl) (by kernel_rfl) (by kernel_rfl) (fun _ _ _ h => h) (Or.inl ⟨by rfl, ?_⟩) ?_
      rotate_left
      · (intro w' _; go_simp; (try with_reducible rfl))
      simp only [List.setIfInBounds_toArray, List.set_cons_zero, List.set_cons_succ]
      refine wpAnyD_last (D := 18) (by decide) (o := { dst := none, op := Op.store 262 (Operand.tmp 38) (Operand.tmp 36), type := 0, pos := "chain.go:38", after := #[{ on := 17, ground := Ground.data }, { on := 15, ground := Ground.data }, { on := 15, ground := Ground.chain }, { on := 0, ground := Ground.phase }, { on := 1, ground := Ground.phase }, { on := 2, ground := Ground.phase }, { on := 3, ground := Ground.phase }, { on := 4, ground := Ground.phase }, { on := 5, ground := Ground.phase }, { on := 6, ground := Ground.phase }, { on := 7, ground := Ground.phase }, { on := 8, ground := Ground.phase }, { on := 9, ground := Ground.phase }, { on := 10, ground := Ground.phase }, { on := 11, ground := Ground.phase }, { on := 12, ground := Ground.phase }, { on := 13, ground := Ground.phase }, { on := 14, ground := Ground.phase }, { on := 15, ground := Ground.phase }], guard := none }) (by kernel_rfl) rfl (by rfl) (fun K hK => ?_)
      have z0 := blk_froz b1 1; have c0 := hHeld; go_simp; clear z0 c0; rw [← rawN_succ] at HNEW; generalize W2.setCell ⟨cb, 1, none⟩ (.slice A1 (k + 1) cA1) = W3 at *
      refine hK.out _ _ ?_
      clear hK K
      try simp only [Act.put, List.setIfInBounds_toArray, List.set_cons_zero, List.set_cons_succ]
      refine wpAnyD_done (by kernel_rfl) ?_ _
      clear b1 h hHeld h8
      go_wp2_with fail
      go_roundg (gk - 1)
      case measure => omega
      case rel => exact ⟨k + 1, A1, cA1, by have := HK.out; omega, rfl, HNEW.out⟩
    · have hks : k = s.size := by omega
      subst hks
      clear hk HK hlt
      have h1 := blk_cell HW.out.ch.lk.blk 1
      simp only [List.getElem?_toArray, List.getElem?_cons_zero, List.getElem?_cons_succ, rawN_len] at h1
      by_cases hz : 0 < s.size
      · have pz : (0 : Int) < (s.size : Int) := by omega
        obtain ⟨m, hm⟩ : ∃ m, s.size - 1 = m := ⟨_, rfl⟩
        have wm : IntKind.i64.wrap ((s.size : Int) - 1) = (m : Int) := by rw [IntWalk.i64_in _ (by omega)]; omega
        have p0 : (0 : Int) ≤ (m : Int) := by omega
        have p1 : (m : Int) < (s.size : Int) := by omega
        have hml : m < (rawN s.data.toList s.size).length := by rw [rawN_len]; omega
        obtain ⟨g, hA, hcs⟩ := HW.out.ch.lk.at m _ (List.getElem?_eq_getElem hml)
        clear hcs
        subst hA
        obtain ⟨⟨v0, c0⟩, z0⟩ := HW.out.ch.lk.cellAt (m * 3 + 2) (by omega)
        have HB : Hid (CBegIs w (W.setCell ⟨g, m * 3 + 2, none⟩ (.int .i64 (-1))) tbase tb T sv mb mp cb (begN s.data.toList) bel (some ⟨g, 0, none⟩) c [] 0 none 0) := Lib.hid (by
          have hl := HW.out.ch.lk.set (N' := begN s.data.toList) (by rw [begN_len, rawN_len, dataLen]) (by
            have := flat_next (rawN s.data.toList s.size) (-1) m hml
            rw [← this, ← begN_raw _ (by rw [dataLen]; exact hz), dataLen, hm])
          obtain ⟨hC, hB⟩ := HW.out.ch.link hl ((Keep.refl _ _).setCell (p := ⟨g, m * 3 + 2, none⟩) (.inl (.inr rfl)) _)
          exact ⟨hC, HW.out.bl.trans hB, HW.out.ge⟩)
        clear hm hml
        go_upto_region 10 with fail
        clear h1 c0 z0 wm
        generalize W.setCell ⟨g, m * 3 + 2, none⟩ (.int .i64 (-1)) = W4 at *
        obtain ⟨A, hA⟩ : ∃ A, (some ⟨g, 0, none⟩ : Option Addr) = A := ⟨_, rfl⟩
        have HW := HB
        rw [hA] at HW
        clear HB
        have HA := Lib.hid hA
        clear hA
        have h1 := blk_cell HW.out.ch.lk.blk 1
        simp only [List.getElem?_toArray, List.getElem?_cons_zero, List.getElem?_cons_succ, begN_len, dataLen] at h1
        go_wp2_with fail
        clear h1
        go_loopg [60] s.size (fun n u W => ∃ k Q turn Aq cq, k + n = s.size ∧ u = .int .i64 ((k : Nat) : Int) ∧ CBegIs w W tbase tb T sv mb mp cb (begN s.data.toList) bel A c Q turn Aq cq ∧ BegS (pairB T bel) (begL s.data.toList) s.size k Q turn)
        case atStart => exact ⟨0, [], 0, none, 0, by omega, rfl, HW.out, BegS.start _ _ _⟩
        case round =>
          obtain ⟨k, Q, turn, Aq, cq, hk, rfl, hW2, hbg⟩ := hrel
          clear HW
          rename World => W2
          have HW2 := Lib.hid hW2
          have HBG := Lib.hid hbg
          have HK := Lib.hid hk
          clear hW2 hbg
          by_cases hlt : k < s.size
          · have p0 : (0 : Int) ≤ (k : Int) := by omega
            have p1 : (k : Int) < (s.size : Int) := by omega
            have w2 : IntKind.i64.wrap ((k : Int) + 1) = (k : Int) + 1 := IntWalk.i64_in _ (by omega)
            obtain ⟨p, q, hpq, hpl⟩ := begL_split s.data.toList (k := k) (by rw [dataLen]; exact hlt)
            have hlv := beg_lives s.data.toList
            rw [hpq] at hlv
            have HAS := Lib.hid (asks_live HW2.out.ch hlv (by have := HBG.out.size; omega) HBG.out.turn.1 (by have := HBG.out.turn.2; omega))
            have HB2 : Hid (BegS (pairB T bel) (begL s.data.toList) s.size (k + 1) (askQ (pairB T bel) Q turn k (byI s.data.toList k) q).1 (askQ (pairB T bel) Q turn k (byI s.data.toList k) q).2) := Lib.hid (by
              have hb := HBG.out
              rw [← hpl] at hb
              have hh := BegS.ask hb (p := p) (i := k) hpq hlt (byI_nn _ _).1
              rw [hpl] at hh
              exact hh)
            clear hpq hpl hlv hk
            go_wp2_with fail
            refine HAS.out.mono ?_
            rintro e W3 ⟨rfl, ⟨Aq3, cq3, h3⟩, hb3⟩
            have HN : Hid (CBegIs w W3 tbase tb T sv mb mp cb (begN s.data.toList) bel A c (askQ (pairB T bel) Q turn k (byI s.data.toList k) q).1 (askQ (pairB T bel) Q turn k (byI s.data.toList k) q).2 Aq3 cq3) := Lib.hid ⟨h3, HW2.out.bl.trans hb3, HW2.out.ge⟩
            clear h3 hb3 HAS
            go_wp2_with fail
            go_roundg (gk - 1)
            case measure => have := HK.out; omega
            case rel => exact ⟨k + 1, _, _, Aq3, cq3, by have := HK.out; omega, rfl, HN.out, HB2.out⟩
          · have hks : k = s.size := by omega
            subst hks
            clear hk HK
            go_wp2_with fail
            go_ret
            exact ⟨cb, A, c, Q, turn, Aq, cq, rfl, HW2.out, HBG.out⟩
      · have e0 : s.size = 0 := by omega
        have el : s.data.toList = [] := List.eq_nil_of_length_eq_zero (by rw [dataLen]; exact e0)
        replace HW : Hid (CBegIs w W tbase tb T sv mb mp cb (begN s.data.toList) bel A c [] 0 none 0) := Lib.hid (by
          have := HW.out
          rw [el, e0] at this
          rw [el]
          exact this)
        have pz : ¬ (0 : Int) < (s.size : Int) := by omega
        clear hz e0 el
        go_upto_region 10 with fail
        clear h1
        have hA : True := trivial
        have HA := Lib.hid hA
        clear hA
        have h1 := blk_cell HW.out.ch.lk.blk 1
        simp only [List.getElem?_toArray, List.getElem?_cons_zero, List.getElem?_cons_succ, begN_len, dataLen] at h1
        go_wp2_with fail
        clear h1
        go_loopg [60] s.size (fun n u W => ∃ k Q turn Aq cq, k + n = s.size ∧ u = .int .i64 ((k : Nat) : Int) ∧ CBegIs w W tbase tb T sv mb mp cb (begN s.data.toList) bel A c Q turn Aq cq ∧ BegS (pairB T bel) (begL s.data.toList) s.size k Q turn)
        case atStart => exact ⟨0, [], 0, none, 0, by omega, rfl, HW.out, BegS.start _ _ _⟩
        case round =>
          obtain ⟨k, Q, turn, Aq, cq, hk, rfl, hW2, hbg⟩ := hrel
          clear HW
          rename World => W2
          have HW2 := Lib.hid hW2
          have HBG := Lib.hid hbg
          have HK := Lib.hid hk
          clear hW2 hbg
          by_cases hlt : k < s.size
          · have p0 : (0 : Int) ≤ (k : Int) := by omega
            have p1 : (k : Int) < (s.size : Int) := by omega
            have w2 : IntKind.i64.wrap ((k : Int) + 1) = (k : Int) + 1 := IntWalk.i64_in _ (by omega)
            obtain ⟨p, q, hpq, hpl⟩ := begL_split s.data.toList (k := k) (by rw [dataLen]; exact hlt)
            have hlv := beg_lives s.data.toList
            rw [hpq] at hlv
            have HAS := Lib.hid (asks_live HW2.out.ch hlv (by have := HBG.out.size; omega) HBG.out.turn.1 (by have := HBG.out.turn.2; omega))
            have HB2 : Hid (BegS (pairB T bel) (begL s.data.toList) s.size (k + 1) (askQ (pairB T bel) Q turn k (byI s.data.toList k) q).1 (askQ (pairB T bel) Q turn k (byI s.data.toList k) q).2) := Lib.hid (by
              have hb := HBG.out
              rw [← hpl] at hb
              have hh := BegS.ask hb (p := p) (i := k) hpq hlt (byI_nn _ _).1
              rw [hpl] at hh
              exact hh)
            clear hpq hpl hlv hk
            go_wp2_with fail
            refine HAS.out.mono ?_
            rintro e W3 ⟨rfl, ⟨Aq3, cq3, h3⟩, hb3⟩
            have HN : Hid (CBegIs w W3 tbase tb T sv mb mp cb (begN s.data.toList) bel A c (askQ (pairB T bel) Q turn k (byI s.data.toList k) q).1 (askQ (pairB T bel) Q turn k (byI s.data.toList k) q).2 Aq3 cq3) := Lib.hid ⟨h3, HW2.out.bl.trans hb3, HW2.out.ge⟩
            clear h3 hb3 HAS
            go_wp2_with fail
            go_roundg (gk - 1)
            case measure => have := HK.out; omega
            case rel => exact ⟨k + 1, _, _, Aq3, cq3, by have := HK.out; omega, rfl, HN.out, HB2.out⟩
          · have hks : k = s.size := by omega
            subst hks
            clear hk HK
            go_wp2_with fail
            go_ret
            exact ⟨cb, A, c, Q, turn, Aq, cq, rfl, HW2.out, HBG.out⟩
end
end Go.Proofs.YtbppaiejpgdbiaaGreat

/- Layer 4 (token): the document's answer: New. -/
namespace Go.Proofs.YtbppaiejpgdbiaaGreat
open Go.RowKit Go.Maps Go.WideMaps
set_option maxRecDepth 100000
set_option linter.unusedVariables false
set_option linter.unusedSimpArgs false

theorem bel_put {W V : World} {nb : Nat} (hb : Below W.heap.size W V) (h : W.heap.size ≤ nb) (u v : Value) : Below W.heap.size W ((V.setCell ⟨nb, 0, none⟩ u).setCell ⟨nb, 1, none⟩ v) := (hb.setCell (p := ⟨nb, 0, none⟩) h _).setCell (p := ⟨nb, 1, none⟩) h _

/-- a table that lies in a variable, and the result -/
structure RVar (w W : World) (r tb : Nat) (T : List Ent) : Prop where
  ex : ∃ A c A2 c2, W.heap[tb]? = some (.cells #[.slice A T.length c, .slice A2 (mrgsT T).length c2] 34) ∧ RefIs W w.heap.size T (.slice A T.length c) (.slice A2 (mrgsT T).length c2)
  res : W.heap[r]? = some (.cells #[.slice none 0 0, .slice none 0 0] 34)
  below : Below w.heap.size w W
  le : w.heap.size ≤ r ∧ w.heap.size ≤ tb
  ne : r ≠ tb
theorem RVar.start {w w1 : World} {A1 : Option Addr} {c1 : Nat} (hr : RefIs w1 (w.alloc (.cells #[.slice none 0 0, .slice none 0 0] 34)).heap.size baseT (.slice A1 baseT.length c1) (.slice none 0 0))
    (hb : Below (w.alloc (.cells #[.slice none 0 0, .slice none 0 0] 34)).heap.size (w.alloc (.cells #[.slice none 0 0, .slice none 0 0] 34)) w1) :
    RVar w (w1.alloc (.cells #[.slice A1 baseT.length c1, .slice none 0 0] 34)) w.heap.size w1.heap.size baseT := by
  have h := grow_start (l := []) hr hb
  exact ⟨h.ex, h.res, h.below, h.le, h.ne⟩
theorem RVar.step {w W w2 : World} {r tb : Nat} {T : List Ent} (h : RVar w W r tb T) (hb : Below W.heap.size W w2) : RVar w w2 r tb T := by
  obtain ⟨A, c, A2, c2, hbk, href⟩ := h.ex
  exact ⟨⟨A, c, A2, c2, blk_below hb (blk_lt hbk) hbk, href.below hb (Nat.le_refl _)⟩, blk_below hb (blk_lt h.res) h.res, h.below.trans (hb.mono h.below.size), h.le, h.ne⟩
/-- another table is laid into the variable -/
theorem RVar.put {w W : World} {r tb n m c c2 : Nat} {T T' : List Ent} {A A2 : Option Addr} (h : RVar w W r tb T) (href : RefIs W w.heap.size T' (.slice A n c) (.slice A2 m c2)) :
    RVar w ((W.setCell ⟨tb, 0, none⟩ (.slice A n c)).setCell ⟨tb, 1, none⟩ (.slice A2 m c2)) r tb T' := by
  obtain ⟨A0, c0, A20, c20, hbk, _⟩ := h.ex
  have en : n = T'.length := by obtain ⟨_, _, e⟩ := own_slice href.row; injection e
  have em : m = (mrgsT T').length := by obtain ⟨_, _, e⟩ := own_slice href.mrg; injection e
  subst en; subst em
  have b1 := blk_set (blk_set hbk 0 (.slice A T'.length c)) 1 (.slice A2 (mrgsT T').length c2)
  simp only [List.setIfInBounds_toArray, List.set_cons_zero, List.set_cons_succ] at b1
  have K3 : ∀ (W : World) (i : Nat) (u : Value), Keep (fun g => g = tb) W (W.setCell ⟨tb, i, none⟩ u) := fun W i u => Keep.setCell (F := fun g => g = tb) (p := ⟨tb, i, none⟩) (Keep.refl _ _) (Or.inl rfl) _
  refine ⟨⟨A, c, A2, c2, b1, ?_, ?_, href.nil⟩, blk_far (p := ⟨tb, 1, none⟩) (blk_far (p := ⟨tb, 0, none⟩) h.res h.ne _) h.ne _, (h.below.setCell (p := ⟨tb, 0, none⟩) h.le.2 _).setCell (p := ⟨tb, 1, none⟩) h.le.2 _, h.le, h.ne⟩
  · exact own_keep (own_keep href.row (K3 _ 0 _) (fun g hg e => row_ne href.row hbk (by decide) (by rw [hg, e]))) (K3 _ 1 _) (fun g hg e => row_ne href.row hbk (by decide) (by rw [hg, e]))
  · exact own_keep (own_keep href.mrg (K3 _ 0 _) (fun g hg e => row_ne href.mrg hbk (by decide) (by rw [hg, e]))) (K3 _ 1 _) (fun g hg e => row_ne href.mrg hbk (by decide) (by rw [hg, e]))
theorem RVar.fin {w W : World} {r tb n m c c2 : Nat} {T : List Ent} {A A2 : Option Addr} (h : RVar w W r tb T) (href : RefIs W w.heap.size T (.slice A n c) (.slice A2 m c2)) :
    ((W.setCell ⟨r, 0, none⟩ (.slice A n c)).setCell ⟨r, 1, none⟩ (.slice A2 m c2)).heap[r]? = some (.cells #[.slice A n c, .slice A2 m c2] 34) ∧ Below w.heap.size w ((W.setCell ⟨r, 0, none⟩ (.slice A n c)).setCell ⟨r, 1, none⟩ (.slice A2 m c2)) ∧
      RefIs ((W.setCell ⟨r, 0, none⟩ (.slice A n c)).setCell ⟨r, 1, none⟩ (.slice A2 m c2)) w.heap.size T (.slice A n c) (.slice A2 m c2) := by
  have b1 := blk_set (blk_set h.res 0 (.slice A n c)) 1 (.slice A2 m c2)
  simp only [List.setIfInBounds_toArray, List.set_cons_zero, List.set_cons_succ] at b1
  have K3 : ∀ (W : World) (i : Nat) (u : Value), Keep (fun g => g = r) W (W.setCell ⟨r, i, none⟩ u) := fun W i u => Keep.setCell (F := fun g => g = r) (p := ⟨r, i, none⟩) (Keep.refl _ _) (Or.inl rfl) _
  refine ⟨b1, (h.below.setCell (p := ⟨r, 0, none⟩) h.le.1 _).setCell (p := ⟨r, 1, none⟩) h.le.1 _, ?_, ?_, href.nil⟩
  · exact own_keep (own_keep href.row (K3 _ 0 _) (fun g hg e => row_ne href.row h.res (by decide) (by rw [hg, e]))) (K3 _ 1 _) (fun g hg e => row_ne href.row h.res (by decide) (by rw [hg, e]))
  · exact own_keep (own_keep href.mrg (K3 _ 0 _) (fun g hg e => row_ne href.mrg h.res (by decide) (by rw [hg, e]))) (K3 _ 1 _) (fun g hg e => row_ne href.mrg h.res (by decide) (by rw [hg, e]))

end Go.Proofs.YtbppaiejpgdbiaaGreat

/- Layer 4 (token): the document's answer: Pair. -/
namespace Go.Proofs.YtbppaiejpgdbiaaGreat
open Go.RowKit Go.Maps Go.WideMaps
set_option maxRecDepth 100000
set_option linter.unusedVariables false
set_option linter.unusedSimpArgs false

def pairI (T : List Ent) (m : Int × Int) : Int := match pairT T m with | some i => (i : Int) | none => -1
def findM (M : List (Int × Int)) (m : Int × Int) : Option Nat := M.findIdx? (fun e => e == m)

theorem findM_take {M : List (Int × Int)} {m : Int × Int} {k : Nat} (hk : k < M.length) (h : findM (M.take k) m = none) (he : M[k] = m) : findM M m = some k := by
  unfold findM at *
  have e : M = M.take k ++ (M[k] :: M.drop (k + 1)) := by rw [← List.drop_eq_getElem_cons hk, List.take_append_drop]
  have h0 : (M[k] :: M.drop (k + 1)).findIdx? (fun e => e == m) = some 0 := by simp only [List.findIdx?_cons, he, beq_self_eq_true, if_true]
  rw [e, List.findIdx?_append, h, h0]
  simp only [Option.none_or, Option.map_some, Option.some.injEq, List.length_take]
  omega
theorem findM_next {M : List (Int × Int)} {m : Int × Int} {k : Nat} (hk : k < M.length) (h : findM (M.take k) m = none) (he : M[k] ≠ m) : findM (M.take (k + 1)) m = none := by
  rw [take_snoc hk]
  unfold findM at *
  rw [find_snoc, h]
  simp [he]
theorem findIdx_congr {α : Type} {p q : α → Bool} : ∀ {l : List α}, (∀ x ∈ l, p x = q x) → l.findIdx? p = l.findIdx? q
  | [], _ => rfl
  | a :: l, h => by
    rw [List.findIdx?_cons, List.findIdx?_cons, h a (by simp), findIdx_congr (fun x hx => h x (by simp [hx]))]
theorem pairT_mrgs {T : List Ent} (h : OkT T) (m : Int × Int) : pairT T m = (findM (mrgsT T) m).map (· + 256) := by
  have h256 := okT_256 h
  have e : T = T.take 256 ++ T.drop 256 := (List.take_append_drop _ _).symm
  have hB : (T.take 256).findIdx? (fun e => e.2 == m && m != (-1, -1)) = none := by
    rw [List.findIdx?_eq_none_iff]
    intro x hx
    obtain ⟨i, hi, rfl⟩ := List.getElem_of_mem hx
    rw [List.length_take] at hi
    have := base_ent h (i := i) (by omega)
    rw [entT_nat _ _ (by omega)] at this
    rw [List.getElem_take, this, Bool.eq_false_iff]
    intro hh
    simp only [Bool.and_eq_true, beq_iff_eq, bne_iff_ne, ne_eq] at hh
    exact hh.2 hh.1.symm
  have hM : (T.drop 256).findIdx? (fun e => e.2 == m && m != (-1, -1)) = findM (mrgsT T) m := by
    unfold findM mrgsT
    rw [List.findIdx?_map]
    refine findIdx_congr (fun x hx => ?_)
    obtain ⟨i, hi, rfl⟩ := List.getElem_of_mem hx
    rw [List.length_drop] at hi
    obtain ⟨q1, _⟩ := h.made (256 + i) (by omega) (by omega)
    rw [entT_nat _ _ (by omega)] at q1
    simp only [List.getElem_drop, Function.comp]
    by_cases hm : T[256 + i].2 = m
    · have : m ≠ (-1, -1) := by intro e; rw [hm, e] at q1; simp at q1
      simp [hm, this]
    · have h1 : (T[256 + i].2 == m) = false := by simpa using hm
      rw [h1]; rfl
  have e2 : pairT T m = (T.take 256 ++ T.drop 256).findIdx? (fun e => e.2 == m && m != (-1, -1)) := by rw [List.take_append_drop]; rfl
  rw [e2, List.findIdx?_append, hB, hM]
  simp only [Option.none_or, List.length_take]
  have : min 256 T.length = 256 := by omega
  rw [this]

set_option maxHeartbeats 1000000 in
theorem rpair_any {w : World} {base : Nat} {T : List Ent} {vb vm : Value} (a b : Int) (h : RefIs w base T vb vm) (hT : OkT T) : Calls Tryz.prog 62 #[.agg #[vb, vm], .int .i64 a, .int .i64 b] w fun e w' => e = .returned (.int .i64 (pairI T (a, b))) ∧ Below w.heap.size w w' := by
  obtain ⟨A, c, rfl⟩ := own_slice h.row
  obtain ⟨A2, c2, hvm⟩ := own_slice h.mrg
  subst hvm
  have hb0 := (Below.refl w.heap.size w).alloc (Nat.le_refl _) (.cells #[.slice A T.length c, .slice A2 (mrgsT T).length c2] 34)
  have n0 := blk_cell (blk_new w (.cells #[.slice A T.length c, .slice A2 (mrgsT T).length c2] 34)) 1
  simp only [List.getElem?_toArray, List.getElem?_cons_zero, List.getElem?_cons_succ] at n0
  have HSL := Lib.hid ((own_sl (enc := encM) (fun _ => rfl) h.mrg (by decide)).below hb0 (Nat.le_refl _))
  have HB := Lib.hid hb0
  have HP := Lib.hid (pairT_mrgs hT (a, b))
  have hsm := hT.small
  have hml : (mrgsT T).length ≤ 1000 := by rw [mrgs_len]; omega
  clear hb0 h
  go_enter Tryz.func62, Tryz.ntmps62
  go_wp2_with fail
  generalize hW : w.alloc (.cells #[.slice A T.length c, .slice A2 (mrgsT T).length c2] 34) = W at *
  clear hW
  obtain ⟨M, hM⟩ : ∃ M, mrgsT T = M := ⟨_, rfl⟩
  rw [hM] at n0 HSL HP hml ⊢
  clear hM
  go_loopg [7] M.length (fun n i W' => ∃ k : Nat, k + n = M.length ∧ i = .int .i64 (k : Int) ∧ findM (M.take k) (a, b) = none ∧ W' = W)
  case atStart => exact ⟨0, by omega, rfl, rfl, rfl⟩
  case round =>
    obtain ⟨k, hk, rfl, hf, hW⟩ := hrel
    subst hW
    have HF := Lib.hid hf
    clear hf
    by_cases hlt : k < M.length
    · obtain ⟨ba, o, rfl, hcc⟩ := HSL.out.at k hlt
      obtain ⟨x, y, hxy⟩ : ∃ x y, M[k] = (x, y) := ⟨_, _, rfl⟩
      have HXY := Lib.hid hxy
      rw [hxy] at hcc
      have g0 : World.cell? _ ⟨ba, o + k * 2, none⟩ = some (.int .i64 x) := hcc 0 _ rfl
      have g1 : World.cell? _ ⟨ba, o + k * 2 + 1, none⟩ = some (.int .i64 y) := hcc 1 _ rfl
      clear hcc hxy
      have q0 : 0 ≤ (k : Int) := by omega
      have q1 : (k : Int) < (M.length : Int) := by omega
      have w1 : IntKind.i64.wrap (256 + (k : Int)) = 256 + (k : Int) := IntWalk.i64_in _ (by omega)
      by_cases hx : x = a
      · subst hx
        by_cases hy : y = b
        · subst hy
          go_wp2_with fail
          go_ret
          refine ⟨ret_int ?_, HB.out⟩
          unfold pairI
          rw [HP.out, findM_take hlt HF.out HXY.out]
          simp only [Option.map_some]
          omega
        · have HN : Hid (M[k] ≠ (x, b)) := Lib.hid (by rw [HXY.out]; intro e; injection e with e1 e2; exact hy e2)
          go_wp2_with fail
          go_roundg (gk - 1)
          case measure => omega
          case rel => exact ⟨k + 1, by omega, by simp, findM_next hlt HF.out HN.out, rfl⟩
      · have HN : Hid (M[k] ≠ (a, b)) := Lib.hid (by rw [HXY.out]; intro e; injection e with e1 e2; exact hx e1)
        go_wp2_with fail
        go_roundg (gk - 1)
        case measure => omega
        case rel => exact ⟨k + 1, by omega, by simp, findM_next hlt HF.out HN.out, rfl⟩
    · have : k = M.length := by omega
      subst this
      go_wp2_with fail
      go_ret
      refine ⟨ret_int ?_, HB.out⟩
      have := HF.out
      rw [List.take_length] at this
      unfold pairI
      rw [HP.out, this]
      rfl
end Go.Proofs.YtbppaiejpgdbiaaGreat

/- Layer 5 (chain): Below, Encode, Steps. -/
namespace Go.Proofs.YtbppaiejpgdbiaaGreat
open Go.RowKit Go.Maps Go.WideMaps
set_option maxRecDepth 100000
set_option linter.unusedVariables false
set_option linter.unusedSimpArgs false

theorem mrgs_at {T : List Ent} {k : Nat} {m : Int × Int} (h : (mrgsT T)[k]? = some m) : 256 + k < T.length ∧ (entT T ((256 + k : Nat) : Int)).2 = m := by
  unfold mrgsT at h
  rw [List.getElem?_map, Option.map_eq_some_iff] at h
  obtain ⟨e, he, rfl⟩ := h
  rw [List.getElem?_drop] at he
  obtain ⟨hlt, he⟩ := List.getElem?_eq_some_iff.1 he
  exact ⟨hlt, by rw [entT_nat _ _ hlt, he]⟩
theorem mrgs_ok {T : List Ent} (hT : OkT T) {k : Nat} {m : Int × Int} (h : (mrgsT T)[k]? = some m) : pairT T m = some (256 + k) ∧ 0 ≤ m.1 ∧ 0 ≤ m.2 ∧ m.1 < 256 + (k : Int) ∧ m.2 < 256 + (k : Int) := by
  obtain ⟨h1, h2⟩ := mrgs_at h
  obtain ⟨q1, _, _, _, _, q2, q3, q4, q5, q6⟩ := made_all hT (i := 256 + k) (by omega) h1
  have e : parT T ((256 + k : Nat) : Int) = m := by unfold parT; rw [if_pos q1]; exact h2
  rw [e] at q2 q3 q4 q5 q6
  exact ⟨q2, q3, q4, by omega, by omega⟩
/-- the merges below a limit -/
def mrgsB (T : List Ent) (bel : Int) : List (Int × Int) := (mrgsT T).take (bel - 256).toNat
theorem pairB_iff {T : List Ent} (hT : OkT T) (bel a b r : Int) : pairB T bel a b = some r ↔ ∃ k : Nat, (mrgsB T bel)[k]? = some (a, b) ∧ r = 256 + k := by
  unfold pairB mrgsB
  constructor
  · intro h
    cases hp : pairT T (a, b) with
    | none => rw [hp] at h; simp at h
    | some i =>
      rw [hp] at h
      simp only [Option.bind_some] at h
      by_cases hlt : (i : Int) < bel
      · rw [if_pos hlt] at h
        have h := Option.some.inj h
        subst h
        rw [pairT_mrgs hT, Option.map_eq_some_iff] at hp
        obtain ⟨k, hk, rfl⟩ := hp
        unfold findM at hk
        rw [List.findIdx?_eq_some_iff_getElem] at hk
        obtain ⟨hk1, hk2, _⟩ := hk
        refine ⟨k, ?_, by omega⟩
        rw [List.getElem?_take, if_pos (by omega), List.getElem?_eq_getElem hk1]
        simpa using hk2
      · rw [if_neg hlt] at h; simp at h
  · rintro ⟨k, hk, rfl⟩
    rw [List.getElem?_take] at hk
    by_cases hlt : k < (bel - 256).toNat
    · rw [if_pos hlt] at hk
      rw [(mrgs_ok hT hk).1]
      simp only [Option.bind_some]
      rw [if_pos (by omega)]
      congr 1
    · rw [if_neg hlt] at hk; simp at hk
theorem mrgsB_ok {T : List Ent} (hT : OkT T) (bel : Int) : OkM (mrgsB T bel) 256 := by
  intro k m hk
  unfold mrgsB at hk
  rw [List.getElem?_take] at hk
  by_cases hlt : k < (bel - 256).toNat
  · rw [if_pos hlt] at hk
    have := mrgs_ok hT hk
    exact ⟨this.2.2.2.1, this.2.2.2.2⟩
  · rw [if_neg hlt] at hk; simp at hk
theorem pairB_small {T : List Ent} (hT : OkT T) (bel a b r : Int) (h : pairB T bel a b = some r) : r < 1000000 := by
  obtain ⟨k, hk, rfl⟩ := (pairB_iff hT bel a b r).1 h
  have h2 := (List.getElem?_eq_some_iff.1 hk).1
  unfold mrgsB at h2
  rw [List.length_take, mrgs_len] at h2
  have := hT.small
  omega
/-- what is made of bytes by the tokens below a limit -/
def encT (T : List Ent) (bel : Int) (s : List UInt8) : List Int := seqE (mrgsB T bel) 256 (bysI s)

section
variable {w w' : World} {tbase tb : Nat} {T : List Ent} {sv : Value} {mb mp : Nat}
theorem ints_less {w : World} {b base : Nat} {v : Value} {l : List Int} (h : IntsIs w b v l) (hle : base ≤ b) : IntsIs w base v l := by
  obtain ⟨A, c, e, hr⟩ := h
  exact ⟨A, c, e, own_less hr hle⟩
set_option maxHeartbeats 4000000 in
theorem below_any (h : TabIs w tbase tb T sv mb mp) (hT : OkT T) (s : ByteArray) (hs : s.size ≤ 100000000) (bel : Int) :
    Calls Tryz.prog 157 #[.pointer (some ⟨tb, 0, none⟩), .string s, .int .i64 bel] w fun e w' => (∃ v, e = .returned v ∧ IntsIs w' w.heap.size v (encT T bel s.data.toList)) ∧ Below w.heap.size w w' := by
  have HT := Lib.hid h
  have HOK := Lib.hid hT
  clear h hT
  go_enter Tryz.func157, Tryz.ntmps157
  go_wp2_with fail
  refine (chain_begin s bel HT.out hs).mono ?_
  rintro e w1 ⟨cb, A, c, Q, turn, Aq, cq, rfl, hb, hbs⟩
  have HB := Lib.hid hb
  have HR := Lib.hid (run_any hb.ch (RunS.start (M := mrgsB T bel) (beg_lives s.data.toList) (by rw [begN_len, begL_len]) (by rw [begL_len, dataLen]; exact hbs)) (by rw [begL_len, dataLen]; exact hs) (pairB_iff HOK.out bel) (mrgsB_ok HOK.out bel) (pairB_small HOK.out bel))
  clear hb hbs
  go_wp2_with fail
  refine HR.out.mono ?_
  rintro e w2 ⟨rfl, N', L', turn', steps', Aq', cq', h2⟩
  have H2 := Lib.hid h2
  have hfin := h2.run.fin (pairB_iff HOK.out bel)
  rw [begL_ids] at hfin
  have hbl : Below w.heap.size w w2 := HB.out.bl.trans h2.bl
  have HBL := Lib.hid hbl
  have hids : Calls Tryz.prog 169 #[.pointer (some ⟨cb, 0, none⟩)] w2 fun e w' => (∃ v, e = .returned v ∧ IntsIs w' w2.heap.size v (encT T bel s.data.toList)) ∧ Below w2.heap.size w2 w' := by
    have e1 : encT T bel s.data.toList = idsC L' := hfin.1.symm
    rw [e1]
    by_cases hN : N' = []
    · subst hN
      have : L' = [] := by
        rcases L' with _ | ⟨x, L'⟩
        · rfl
        · obtain ⟨k, _, hk⟩ := h2.run.lives.place (x := x) (by simp)
          simp at hk
      subst this
      exact ids_none h2.ch.lk
    · refine ids_any h2.ch.lk h2.run.lives hN ?_
      have := h2.run.steps
      have := h2.run.pos
      rw [begL_len, dataLen] at *
      omega
  have HI := Lib.hid hids
  clear h2 hfin hbl hids HR
  go_wp2_with fail
  refine HI.out.mono ?_
  rintro e w3 ⟨⟨v, rfl, hv⟩, hb3⟩
  have HV := Lib.hid (ints_less hv HBL.out.size)
  have HB3 := Lib.hid (HBL.out.trans (hb3.mono HBL.out.size))
  clear hv hb3
  go_wp2_with fail
  go_ret
  exact ⟨⟨v, rfl, HV.out⟩, HB3.out⟩
theorem encode_any (h : TabIs w tbase tb T sv mb mp) (hT : OkT T) (s : ByteArray) (hs : s.size ≤ 100000000) :
    Calls Tryz.prog 135 #[.pointer (some ⟨tb, 0, none⟩), .string s] w fun e w' => (∃ v, e = .returned v ∧ IntsIs w' w.heap.size v (encT T T.length s.data.toList)) ∧ Below w.heap.size w w' := by
  have HT := Lib.hid h
  have HOK := Lib.hid hT
  clear h hT
  go_enter Tryz.func135, Tryz.ntmps135
  go_wp2_with fail
  refine (len_tab HT.out).mono ?_
  rintro e w1 ⟨rfl, rfl⟩
  go_wp2_with fail
  refine (below_any HT.out HOK.out s hs _).mono ?_
  rintro e w2 ⟨⟨v, rfl, hv⟩, hb⟩
  have HV := Lib.hid hv
  have HB := Lib.hid hb
  clear hv hb
  go_wp2_with fail
  go_ret
  exact ⟨⟨v, rfl, HV.out⟩, HB.out⟩
end
end Go.Proofs.YtbppaiejpgdbiaaGreat

/- Layer 5 (chain): two rows of numbers are the same; Spans. -/
namespace Go.Proofs.YtbppaiejpgdbiaaGreat
open Go.RowKit Go.Maps Go.WideMaps
set_option maxRecDepth 100000
set_option linter.unusedVariables false
set_option linter.unusedSimpArgs false

/-! where tokens end -/
theorem bytesT_le {T : List Ent} (h : OkT T) (i : Int) : (bytesT T i).length ≤ 64 := by
  unfold bytesT
  split
  · rename_i hi
    obtain ⟨j, rfl, hj, e⟩ := hasT_at hi
    rw [e]
    exact (h.len _ (List.getElem_mem hj)).2
  · simp
end Go.Proofs.YtbppaiejpgdbiaaGreat

