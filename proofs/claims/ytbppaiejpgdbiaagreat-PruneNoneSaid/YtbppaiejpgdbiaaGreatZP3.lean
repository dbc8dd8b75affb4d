/- Texts of several layers, one behind the other: Chain6, Chain7, Chain8, Chain9, ChainA, ChainB, Ref6, Ref7, ChainC, ChainD, ChainG, ChainH, GrowG, Right2, Copy0, Copy1, Mark0, Mark1, Build0, Build1. -/
import Derived.Test.YtbppaiejpgdbiaaGreatZP2
import Derived.WalkKit
import Derived.KernelRfl
import Derived.Lib.Hide
import Derived.Deep.QuietTactic
import Derived.BigQuiet
import Derived.OwnWalk
import Derived.Lib.Strings
import Derived.Deep.DeepCutAuto
import Derived.Deep.RegionHeld3
import Derived.StillTailTactics
import Derived.Test.YtbppaiejpgdbiaaGreatProg
import Derived.Deep.Slices
import Derived.Deep.Fields
import Derived.ChangeSame
import Derived.SliceStrings
import Derived.OpenShut
import Derived.Maps.OwnSet
import Derived.Maps.OwnOps
import Derived.DeepKeys4
import Derived.WideKeyEntry
import Derived.Maps.AppendAt
import Derived.Laws.ResultCell
import Derived.Laws.IdiomStrings
import Derived.Laws.AppendOwnNone
import Derived.Lib.AppendStr
import Derived.Laws.LoneSync
import Derived.Tactics
import Derived.Tactics2
import Derived.Defers
import Derived.Laws.Pointers
import Derived.RegionTactic
import Derived.RegionCalls
import Derived.ChangeAlike
import Derived.Test.YtbppaiejpgdbiaaGreatRows
import Derived.ProofKit
import Derived.ShutString
import Derived.ChangeOld
import Derived.Below
import Derived.Lib.SmallJoins
/- Layer 5 (chain): stale. -/
namespace Go.Proofs.YtbppaiejpgdbiaaGreat
open Go.RowKit Go.Maps Go.WideMaps
set_option maxRecDepth 100000
set_option linter.unusedVariables false
set_option linter.unusedSimpArgs false

/-- aren't two any more what they were? -/
def staleB (N : List Node) (x : Node) (a b : Int) : Bool :=
  if x.1 ≠ a then true else if x.2.2 = -1 then true else match N[x.2.2.toNat]? with
    | some y => y.1 != b
    | none => true
section
variable {w w' : World} {base tbase tb : Nat} {T : List Ent} {sv : Value} {mb mp cb qb : Nat} {N : List Node} {bel steps : Int} {A : Option Addr} {c : Nat} {Q : List (Th Wt)} {turn : Int} {Aq : Option Addr} {cq : Nat}
set_option maxHeartbeats 4000000 in
theorem stale_any (h : ChainIs w base tbase tb T sv mb mp cb qb N bel steps A c Q turn Aq cq) (i : Nat) (x : Node) (a b : Int) (hi : N[i]? = some x) (hnx : x.1 = a → x.2.2 ≠ -1 → ∃ j : Nat, x.2.2 = j ∧ ∃ y, N[j]? = some y) :
    Calls Tryz.prog 181 #[.pointer (some ⟨cb, 0, none⟩), hw.wtV ⟨(i : Int), a, b⟩] w fun e w' => e = .returned (.bool (staleB N x a b)) ∧ Below w.heap.size w w' := by
  obtain ⟨B, hB⟩ : ∃ B, staleB N x a b = B := ⟨_, rfl⟩
  rw [hB]
  have HBB := Lib.hid hB
  obtain ⟨x1, x2, x3⟩ := x
  have hlt := (List.getElem?_eq_some_iff.1 hi).1
  have hbx := (Below.refl w.heap.size w).alloc (Nat.le_refl _) (.cells #[.int .i64 (i : Int), .int .i64 a, .int .i64 b] 261)
  have hn := blk_new w (.cells #[.int .i64 (i : Int), .int .i64 a, .int .i64 b] 261)
  have HD := Lib.hid (h.below hbx (Nat.le_refl _))
  have HB0 := Lib.hid hbx
  have HN := Lib.hid hn
  have p0 : (0 : Int) ≤ (i : Int) := by omega
  have p1 : (i : Int) < (N.length : Int) := by omega
  have HI := Lib.hid hi
  have HX := Lib.hid hnx
  have HG : Hid (∃ g3, g3 = w.heap.size) := Lib.hid ⟨_, rfl⟩
  clear h hB hbx hn hi hnx
  unfold hw.wtV
  go_enter Tryz.func181, Tryz.ntmps181
  go_upto_region 1 with fail
  generalize w.alloc (.cells #[.int .i64 (i : Int), .int .i64 a, .int .i64 b] 261) = W1 at *
  obtain ⟨g, hA, a0, a1, a2⟩ := HD.out.lk.at i _ HI.out
  subst hA
  have h1 := blk_cell HD.out.lk.blk 1
  have n0 := blk_cell HN.out 0
  simp only [List.getElem?_toArray, List.getElem?_cons_zero, List.getElem?_cons_succ] at h1 a0 a1 a2 n0
  refine wp_region_D (Ds := [9]) (S := fun V => V.cell? ⟨cb, 1, none⟩ = some (.slice (some ⟨g, 0, none⟩) N.length c) ∧ V.cell? ⟨w.heap.size, 0, none⟩ = some (.int .i64 (i : Int)) ∧ V.cell? ⟨g, i * 3, none⟩ = some (.int .i64 x1) ∧ V.cell? ⟨g, i * 3 + 1, none⟩ = some (.int .i64 x2) ∧ V.cell? ⟨g, i * 3 + 2, none⟩ = some (.int .i64 x3)) (by kernel_rfl) (by exact ⟨h1, n0, a0, a1, a2⟩) (fun hHeld => ?_)
  (replace HD := Lib.hid HD.out.drew); (replace HB0 : Hid (Below w.heap.size w W1.drew) := Lib.hid HB0.out.drew); (replace HN : Hid (W1.drew.heap[w.heap.size]? = some (.cells #[.int .i64 (i : Int), .int .i64 a, .int .i64 b] 261)) := Lib.hid HN.out); generalize W1.drew = W0 at *
  refine wpAnyD_takeP (i := 0) (oi := { dst := some 6, op := Op.move (Operand.tmp 0), type := 248, pos := "chain.go:62", after := #[], guard := none }) (d := 6) (v := ?_) rfl rfl (by kernel_rfl) (by kernel_rfl) (by kernel_rfl) (fun _ _ _ h => h) (Or.inl ⟨by rfl, ?_⟩) ?_
  rotate_left
  · (intro w' _; go_simp; (try with_reducible rfl))
  simp only [List.setIfInBounds_toArray, List.set_cons_zero, List.set_cons_succ]
  refine wpAnyD_takeP (i := 1) (oi := { dst := some 7, op := Op.nilCheck (Operand.tmp 6), type := 0, pos := "chain.go:62", after := #[{ on := 0, ground := Ground.data }], guard := none }) (d := 7) (v := ?_) rfl rfl (by kernel_rfl) (by kernel_rfl) (by kernel_rfl) (fun _ _ _ h => h) (Or.inl ⟨by rfl, ?_⟩) ?_
  rotate_left
  · (intro w' _; go_simp; (try with_reducible rfl))
  simp only [List.setIfInBounds_toArray, List.set_cons_zero, List.set_cons_succ]
  refine wpAnyD_takeP (i := 2) (oi := { dst := some 8, op := Op.fieldAddr 264 (Operand.tmp 7) 1, type := 0, pos := "chain.go:62", after := #[{ on := 1, ground := Ground.data }], guard := none }) (d := 8) (v := ?_) rfl rfl (by kernel_rfl) (by kernel_rfl) (by kernel_rfl) (fun _ _ _ h => h) (Or.inl ⟨by rfl, ?_⟩) ?_
  rotate_left
  · (intro w' _; go_simp; (try with_reducible rfl))
  simp only [List.setIfInBounds_toArray, List.set_cons_zero, List.set_cons_succ]
  refine wpAnyD_takeP (i := 4) (oi := { dst := some 10, op := Op.fieldAddr 261 (Operand.tmp 3) 0, type := 0, pos := "chain.go:62", after := #[], guard := none }) (d := 10) (v := ?_) rfl rfl (by kernel_rfl) (by kernel_rfl) (by kernel_rfl) (fun _ _ _ h => h) (Or.inl ⟨by rfl, ?_⟩) ?_
  rotate_left
  · (intro w' _; go_simp; (try with_reducible rfl))
  simp only [List.setIfInBounds_toArray, List.set_cons_zero, List.set_cons_succ]
  refine wpAnyD_takeD (i := 3) (oi := { dst := some 9, op := Op.load 262 (Operand.tmp 8), type := 262, pos := "chain.go:62", after := #[{ on := 2, ground := Ground.data }], guard := none }) (d := 9) (v := ?_) rfl rfl (by kernel_rfl) (by kernel_rfl) (by kernel_rfl) (by kernel_rfl) (fun _ _ _ h => h) (Or.inl ⟨by rfl, ?_⟩) hHeld ?_
  rotate_left
  · (intro w' hSw; (try dsimp only at hSw); go_simp; (try with_reducible rfl))
  simp only [List.setIfInBounds_toArray, List.set_cons_zero, List.set_cons_succ]
  refine wpAnyD_takeD (i := 5) (oi := { dst := some 11, op := Op.load 3 (Operand.tmp 10), type := 3, pos := "chain.go:62", after := #[{ on := 4, ground := Ground.data }], guard := none }) (d := 11) (v := ?_) rfl rfl (by kernel_rfl) (by kernel_rfl) (by kernel_rfl) (by kernel_rfl) (fun _ _ _ h => h) (Or.inl ⟨by rfl, ?_⟩) hHeld ?_
  rotate_left
  · (intro w' hSw; (try dsimp only at hSw); go_simp; (try with_reducible rfl))
  simp only [List.setIfInBounds_toArray, List.set_cons_zero, List.set_cons_succ]
  refine wpAnyD_takeP (i := 6) (oi := { dst := some 12, op := Op.indexAddr 262 (Operand.tmp 9) (Operand.tmp 11), type := 0, pos := "chain.go:62", after := #[{ on := 3, ground := Ground.data }, { on := 5, ground := Ground.data }], guard := none }) (d := 12) (v := ?_) rfl rfl (by kernel_rfl) (by kernel_rfl) (by kernel_rfl) (fun _ _ _ h => h) (Or.inl ⟨by rfl, ?_⟩) ?_
  rotate_left
  · (intro w' _; go_simp; (try with_reducible rfl))
  simp only [List.setIfInBounds_toArray, List.set_cons_zero, List.set_cons_succ]
  refine wpAnyD_takeD (i := 7) (oi := { dst := some 13, op := Op.load 266 (Operand.tmp 12), type := 266, pos := "chain.go:62", after := #[{ on := 6, ground := Ground.data }], guard := none }) (d := 13) (v := ?_) rfl rfl (by kernel_rfl) (by kernel_rfl) (by kernel_rfl) (by kernel_rfl) (fun _ _ _ h => h) (Or.inl ⟨by rfl, ?_⟩) hHeld ?_
  rotate_left
  · (intro w' hSw; (try dsimp only at hSw); go_simp; (try with_reducible rfl))
  simp only [List.setIfInBounds_toArray, List.set_cons_zero, List.set_cons_succ]
  refine wpAnyD_one (i := 8) (o := { dst := some 5, op := Op.alloc 266, type := 0, pos := "chain.go:62", after := #[], guard := none }) (by kernel_rfl) rfl (by rfl) (fun K hK => ?_)
  go_simp; have hbl := (Below.refl W0.heap.size W0).alloc (Nat.le_refl _) (.cells #[.int .i64 0, .int .i64 0, .int .i64 0] 266); have h := And.intro (below_cell hbl (Nat.le_refl _) hHeld.1) (And.intro (below_cell hbl (Nat.le_refl _) hHeld.2.1) (And.intro (below_cell hbl (Nat.le_refl _) hHeld.2.2.1) (And.intro (below_cell hbl (Nat.le_refl _) hHeld.2.2.2.1) (below_cell hbl (Nat.le_refl _) hHeld.2.2.2.2)))); clear hbl
  refine hK.out _ _ h (fun hHeld => ?_)
  clear hK K
  try simp only [Act.put, List.setIfInBounds_toArray, List.set_cons_zero, List.set_cons_succ]
  refine wpAnyD_last (D := 9) (by decide) (o := { dst := none, op := Op.store 266 (Operand.tmp 5) (Operand.tmp 13), type := 0, pos := "chain.go:62", after := #[{ on := 8, ground := Ground.data }, { on := 7, ground := Ground.data }, { on := 0, ground := Ground.phase }, { on := 1, ground := Ground.phase }, { on := 2, ground := Ground.phase }, { on := 3, ground := Ground.phase }, { on := 4, ground := Ground.phase }, { on := 5, ground := Ground.phase }, { on := 6, ground := Ground.phase }, { on := 7, ground := Ground.phase }, { on := 8, ground := Ground.phase }], guard := none }) (by kernel_rfl) rfl (by rfl) (fun K hK => ?_)
  go_simp
  refine hK.out _ _ ?_
  clear hK K
  try simp only [Act.put, List.setIfInBounds_toArray, List.set_cons_zero, List.set_cons_succ]
  refine wpAnyD_done (by kernel_rfl) ?_ _
  go_upto_region 2 with fail
  clear h hHeld h1 n0 a0 a1 a2 p0 p1
  have HBW := Lib.hid ((Below.refl W0.heap.size W0).alloc (Nat.le_refl _) (.cells #[.int .i64 x1, .int .i64 x2, .int .i64 x3] 266))
  have HN5 := Lib.hid (blk_new W0 (.cells #[.int .i64 x1, .int .i64 x2, .int .i64 x3] 266))
  replace HN := Lib.hid (blk_alloc HN.out (.cells #[.int .i64 x1, .int .i64 x2, .int .i64 x3] 266))
  replace HD := Lib.hid (HD.out.below HBW.out (Nat.le_refl _))
  replace HB0 := Lib.hid (HB0.out.trans (HBW.out.mono HB0.out.size))
  clear HBW
  generalize W0.heap.size = g5 at *
  generalize W0.alloc (.cells #[.int .i64 x1, .int .i64 x2, .int .i64 x3] 266) = W2 at *
  have h1 := blk_cell HD.out.lk.blk 1
  have n1 := blk_cell HN.out 1
  have n2 := blk_cell HN.out 2
  have m0 := blk_cell HN5.out 0
  have m2 := blk_cell HN5.out 2
  simp only [List.getElem?_toArray, List.getElem?_cons_zero, List.getElem?_cons_succ] at h1 n1 n2 m0 m2
  by_cases e1 : x1 = a
  · subst e1
    by_cases e2 : x3 = -1
    · subst e2
      have HT : Hid (B = true) := Lib.hid (by rw [← HBB.out]; simp [staleB])
      refine wp_region_held_drew (S := fun V => V.cell? ⟨cb, 1, none⟩ = some (.slice (some ⟨g, 0, none⟩) N.length c) ∧ V.cell? ⟨w.heap.size, 1, none⟩ = some (.int .i64 x1) ∧ V.cell? ⟨g5, 0, none⟩ = some (.int .i64 x1) ∧ V.cell? ⟨g5, 2, none⟩ = some (.int .i64 (-1))) (by kernel_rfl) (by exact ⟨h1, n1, m0, m2⟩) (fun hHeld => ?_)
      refine wpAnyH_takeD (i := 0) (oi := { dst := some 14, op := Op.fieldAddr 266 (Operand.tmp 5) 0, type := 0, pos := "chain.go:63", after := #[], guard := none }) (d := 14) (v := ?_) rfl rfl (by kernel_rfl) (by kernel_rfl) (by kernel_rfl) (fun _ _ _ h => h) (Or.inl ⟨by rfl, ?_⟩) hHeld ?_
      rotate_left
      · (intro w' hSw; (try dsimp only at hSw); go_simp; (try with_reducible rfl))
      simp only [List.setIfInBounds_toArray, List.set_cons_zero, List.set_cons_succ]
      refine wpAnyH_takeD (i := 1) (oi := { dst := some 15, op := Op.load 3 (Operand.tmp 14), type := 3, pos := "chain.go:63", after := #[{ on := 0, ground := Ground.data }], guard := none }) (d := 15) (v := ?_) rfl rfl (by kernel_rfl) (by kernel_rfl) (by kernel_rfl) (fun _ _ _ h => h) (Or.inl ⟨by rfl, ?_⟩) hHeld ?_
      rotate_left
      · (intro w' hSw; (try dsimp only at hSw); go_simp; (try with_reducible rfl))
      simp only [List.setIfInBounds_toArray, List.set_cons_zero, List.set_cons_succ]
      refine wpAnyH_takeD (i := 2) (oi := { dst := some 16, op := Op.fieldAddr 261 (Operand.tmp 3) 1, type := 0, pos := "chain.go:63", after := #[], guard := none }) (d := 16) (v := ?_) rfl rfl (by kernel_rfl) (by kernel_rfl) (by kernel_rfl) (fun _ _ _ h => h) (Or.inl ⟨by rfl, ?_⟩) hHeld ?_
      rotate_left
      · (intro w' hSw; (try dsimp only at hSw); go_simp; (try with_reducible rfl))
      simp only [List.setIfInBounds_toArray, List.set_cons_zero, List.set_cons_succ]
      refine wpAnyH_takeD (i := 3) (oi := { dst := some 17, op := Op.fieldAddr 55 (Operand.tmp 16) 0, type := 0, pos := "chain.go:63", after := #[{ on := 2, ground := Ground.data }], guard := none }) (d := 17) (v := ?_) rfl rfl (by kernel_rfl) (by kernel_rfl) (by kernel_rfl) (fun _ _ _ h => h) (Or.inl ⟨by rfl, ?_⟩) hHeld ?_
      rotate_left
      · (intro w' hSw; (try dsimp only at hSw); go_simp; (try with_reducible rfl))
      simp only [List.setIfInBounds_toArray, List.set_cons_zero, List.set_cons_succ]
      refine wpAnyH_takeD (i := 4) (oi := { dst := some 18, op := Op.load 3 (Operand.tmp 17), type := 3, pos := "chain.go:63", after := #[{ on := 3, ground := Ground.data }], guard := none }) (d := 18) (v := ?_) rfl rfl (by kernel_rfl) (by kernel_rfl) (by kernel_rfl) (fun _ _ _ h => h) (Or.inl ⟨by rfl, ?_⟩) hHeld ?_
      rotate_left
      · (intro w' hSw; (try dsimp only at hSw); go_simp; (try with_reducible rfl))
      simp only [List.setIfInBounds_toArray, List.set_cons_zero, List.set_cons_succ]
      refine wpAnyH_takeD (i := 5) (oi := { dst := some 19, op := Op.binOp BinOp.neq 3 (Operand.tmp 15) (Operand.tmp 18) 3, type := 4, pos := "chain.go:63", after := #[{ on := 1, ground := Ground.data }, { on := 4, ground := Ground.data }], guard := none }) (d := 19) (v := ?_) rfl rfl (by kernel_rfl) (by kernel_rfl) (by kernel_rfl) (fun _ _ _ h => h) (Or.inl ⟨by rfl, ?_⟩) hHeld ?_
      rotate_left
      · (intro w' hSw; (try dsimp only at hSw); go_simp; (try with_reducible rfl))
      simp only [List.setIfInBounds_toArray, List.set_cons_zero, List.set_cons_succ]
      refine wpAnyH_takeD (i := 6) (oi := { dst := some 20, op := Op.move (Operand.tmp 19), type := 4, pos := "chain.go:63", after := #[{ on := 5, ground := Ground.data }], guard := none }) (d := 20) (v := ?_) rfl rfl (by kernel_rfl) (by kernel_rfl) (by kernel_rfl) (fun _ _ _ h => h) (Or.inl ⟨by rfl, ?_⟩) hHeld ?_
      rotate_left
      · (intro w' hSw; (try dsimp only at hSw); go_simp; (try with_reducible rfl))
      simp only [List.setIfInBounds_toArray, List.set_cons_zero, List.set_cons_succ]
      refine wpAnyH_takeD (i := 7) (oi := { dst := some 21, op := Op.fieldAddr 266 (Operand.tmp 5) 2, type := 0, pos := "chain.go:63", after := #[{ on := 6, ground := Ground.guard }], guard := some (6, false) }) (d := 21) (v := ?_) rfl rfl (by kernel_rfl) (by kernel_rfl) (by kernel_rfl) (fun _ _ _ h => h) (Or.inl ⟨by rfl, ?_⟩) hHeld ?_
      rotate_left
      · (intro w' hSw; (try dsimp only at hSw); go_simp; (try with_reducible rfl))
      simp only [List.setIfInBounds_toArray, List.set_cons_zero, List.set_cons_succ]
      refine wpAnyH_takeD (i := 8) (oi := { dst := some 22, op := Op.load 3 (Operand.tmp 21), type := 3, pos := "chain.go:63", after := #[{ on := 7, ground := Ground.data }, { on := 6, ground := Ground.guard }], guard := some (6, false) }) (d := 22) (v := ?_) rfl rfl (by kernel_rfl) (by kernel_rfl) (by kernel_rfl) (fun _ _ _ h => h) (Or.inl ⟨by rfl, ?_⟩) hHeld ?_
      rotate_left
      · (intro w' hSw; (try dsimp only at hSw); go_simp; (try with_reducible rfl))
      simp only [List.setIfInBounds_toArray, List.set_cons_zero, List.set_cons_succ]
      refine wpAnyH_takeD (i := 9) (oi := { dst := some 23, op := Op.binOp BinOp.eql 3 (Operand.tmp 22) (Operand.const (Value.int IntKind.i64 (-1))) 3, type := 4, pos := "chain.go:63", after := #[{ on := 8, ground := Ground.data }, { on := 6, ground := Ground.guard }], guard := some (6, false) }) (d := 23) (v := ?_) rfl rfl (by kernel_rfl) (by kernel_rfl) (by kernel_rfl) (fun _ _ _ h => h) (Or.inl ⟨by rfl, ?_⟩) hHeld ?_
      rotate_left
      · (intro w' hSw; (try dsimp only at hSw); go_simp; (try with_reducible rfl))
      simp only [List.setIfInBounds_toArray, List.set_cons_zero, List.set_cons_succ]
      refine wpAnyH_takeD (i := 10) (oi := { dst := some 24, op := Op.pick (Operand.tmp 20) (Operand.const (Value.bool true)) (Operand.tmp 23), type := 4, pos := "chain.go:63", after := #[{ on := 6, ground := Ground.data }, { on := 9, ground := Ground.data }], guard := none }) (d := 24) (v := ?_) rfl rfl (by kernel_rfl) (by kernel_rfl) (by kernel_rfl) (fun _ _ _ h => h) (Or.inl ⟨by rfl, ?_⟩) hHeld ?_
      rotate_left
      · (intro w' hSw; (try dsimp only at hSw); go_simp; (try with_reducible rfl))
      simp only [List.setIfInBounds_toArray, List.set_cons_zero, List.set_cons_succ]
      refine wpAnyH_takeD (i := 11) (oi := { dst := some 25, op := Op.move (Operand.tmp 24), type := 4, pos := "chain.go:63", after := #[{ on := 10, ground := Ground.data }, { on := 6, ground := Ground.chain }], guard := none }) (d := 25) (v := ?_) rfl rfl (by kernel_rfl) (by kernel_rfl) (by kernel_rfl) (fun _ _ _ h => h) (Or.inl ⟨by rfl, ?_⟩) hHeld ?_
      rotate_left
      · (intro w' hSw; (try dsimp only at hSw); go_simp; (try with_reducible rfl))
      simp only [List.setIfInBounds_toArray, List.set_cons_zero, List.set_cons_succ]
      refine wpAnyH_takeD (i := 12) (oi := { dst := some 26, op := Op.move (Operand.tmp 0), type := 248, pos := "chain.go:63", after := #[{ on := 11, ground := Ground.guard }], guard := some (11, false) }) (d := 26) (v := undef) rfl rfl (by kernel_rfl) (by kernel_rfl) (by kernel_rfl) (fun _ _ _ h => h) (Or.inr ⟨by rfl, rfl⟩) hHeld ?_
      simp only [List.setIfInBounds_toArray, List.set_cons_zero, List.set_cons_succ]
      refine wpAnyH_takeD (i := 13) (oi := { dst := some 27, op := Op.nilCheck (Operand.tmp 26), type := 0, pos := "chain.go:63", after := #[{ on := 12, ground := Ground.data }, { on := 11, ground := Ground.guard }], guard := some (11, false) }) (d := 27) (v := undef) rfl rfl (by kernel_rfl) (by kernel_rfl) (by kernel_rfl) (fun _ _ _ h => h) (Or.inr ⟨by rfl, rfl⟩) hHeld ?_
      simp only [List.setIfInBounds_toArray, List.set_cons_zero, List.set_cons_succ]
      refine wpAnyH_takeD (i := 14) (oi := { dst := some 28, op := Op.fieldAddr 264 (Operand.tmp 27) 1, type := 0, pos := "chain.go:63", after := #[{ on := 13, ground := Ground.data }, { on := 11, ground := Ground.guard }], guard := some (11, false) }) (d := 28) (v := undef) rfl rfl (by kernel_rfl) (by kernel_rfl) (by kernel_rfl) (fun _ _ _ h => h) (Or.inr ⟨by rfl, rfl⟩) hHeld ?_
      simp only [List.setIfInBounds_toArray, List.set_cons_zero, List.set_cons_succ]
      refine wpAnyH_takeD (i := 15) (oi := { dst := some 29, op := Op.load 262 (Operand.tmp 28), type := 262, pos := "chain.go:63", after := #[{ on := 14, ground := Ground.data }, { on := 11, ground := Ground.guard }], guard := some (11, false) }) (d := 29) (v := undef) rfl rfl (by kernel_rfl) (by kernel_rfl) (by kernel_rfl) (fun _ _ _ h => h) (Or.inr ⟨by rfl, rfl⟩) hHeld ?_
      simp only [List.setIfInBounds_toArray, List.set_cons_zero, List.set_cons_succ]
      refine wpAnyH_takeD (i := 16) (oi := { dst := some 30, op := Op.fieldAddr 266 (Operand.tmp 5) 2, type := 0, pos := "chain.go:63", after := #[{ on := 11, ground := Ground.guard }], guard := some (11, false) }) (d := 30) (v := undef) rfl rfl (by kernel_rfl) (by kernel_rfl) (by kernel_rfl) (fun _ _ _ h => h) (Or.inr ⟨by rfl, rfl⟩) hHeld ?_
      simp only [List.setIfInBounds_toArray, List.set_cons_zero, List.set_cons_succ]
      refine wpAnyH_takeD (i := 17) (oi := { dst := some 31, op := Op.load 3 (Operand.tmp 30), type := 3, pos := "chain.go:63", after := #[{ on := 16, ground := Ground.data }, { on := 11, ground := Ground.guard }], guard := some (11, false) }) (d := 31) (v := undef) rfl rfl (by kernel_rfl) (by kernel_rfl) (by kernel_rfl) (fun _ _ _ h => h) (Or.inr ⟨by rfl, rfl⟩) hHeld ?_
      simp only [List.setIfInBounds_toArray, List.set_cons_zero, List.set_cons_succ]
      refine wpAnyH_takeD (i := 18) (oi := { dst := some 32, op := Op.indexAddr 262 (Operand.tmp 29) (Operand.tmp 31), type := 0, pos := "chain.go:63", after := #[{ on := 15, ground := Ground.data }, { on := 17, ground := Ground.data }, { on := 11, ground := Ground.guard }], guard := some (11, false) }) (d := 32) (v := undef) rfl rfl (by kernel_rfl) (by kernel_rfl) (by kernel_rfl) (fun _ _ _ h => h) (Or.inr ⟨by rfl, rfl⟩) hHeld ?_
      simp only [List.setIfInBounds_toArray, List.set_cons_zero, List.set_cons_succ]
      refine wpAnyH_takeD (i := 19) (oi := { dst := some 33, op := Op.fieldAddr 266 (Operand.tmp 32) 0, type := 0, pos := "chain.go:63", after := #[{ on := 18, ground := Ground.data }, { on := 11, ground := Ground.guard }], guard := some (11, false) }) (d := 33) (v := undef) rfl rfl (by kernel_rfl) (by kernel_rfl) (by kernel_rfl) (fun _ _ _ h => h) (Or.inr ⟨by rfl, rfl⟩) hHeld ?_
      simp only [List.setIfInBounds_toArray, List.set_cons_zero, List.set_cons_succ]
      refine wpAnyH_takeD (i := 20) (oi := { dst := some 34, op := Op.load 3 (Operand.tmp 33), type := 3, pos := "chain.go:63", after := #[{ on := 19, ground := Ground.data }, { on := 11, ground := Ground.guard }], guard := some (11, false) }) (d := 34) (v := undef) rfl rfl (by kernel_rfl) (by kernel_rfl) (by kernel_rfl) (fun _ _ _ h => h) (Or.inr ⟨by rfl, rfl⟩) hHeld ?_
      simp only [List.setIfInBounds_toArray, List.set_cons_zero, List.set_cons_succ]
      refine wpAnyH_takeD (i := 21) (oi := { dst := some 35, op := Op.fieldAddr 261 (Operand.tmp 3) 1, type := 0, pos := "chain.go:63", after := #[{ on := 11, ground := Ground.guard }], guard := some (11, false) }) (d := 35) (v := undef) rfl rfl (by kernel_rfl) (by kernel_rfl) (by kernel_rfl) (fun _ _ _ h => h) (Or.inr ⟨by rfl, rfl⟩) hHeld ?_
      simp only [List.setIfInBounds_toArray, List.set_cons_zero, List.set_cons_succ]
      refine wpAnyH_takeD (i := 22) (oi := { dst := some 36, op := Op.fieldAddr 55 (Operand.tmp 35) 1, type := 0, pos := "chain.go:63", after := #[{ on := 21, ground := Ground.data }, { on := 11, ground := Ground.guard }], guard := some (11, false) }) (d := 36) (v := undef) rfl rfl (by kernel_rfl) (by kernel_rfl) (by kernel_rfl) (fun _ _ _ h => h) (Or.inr ⟨by rfl, rfl⟩) hHeld ?_
      simp only [List.setIfInBounds_toArray, List.set_cons_zero, List.set_cons_succ]
      refine wpAnyH_takeD (i := 23) (oi := { dst := some 37, op := Op.load 3 (Operand.tmp 36), type := 3, pos := "chain.go:63", after := #[{ on := 22, ground := Ground.data }, { on := 11, ground := Ground.guard }], guard := some (11, false) }) (d := 37) (v := undef) rfl rfl (by kernel_rfl) (by kernel_rfl) (by kernel_rfl) (fun _ _ _ h => h) (Or.inr ⟨by rfl, rfl⟩) hHeld ?_
      simp only [List.setIfInBounds_toArray, List.set_cons_zero, List.set_cons_succ]
      refine wpAnyH_takeD (i := 24) (oi := { dst := some 38, op := Op.binOp BinOp.neq 3 (Operand.tmp 34) (Operand.tmp 37) 3, type := 4, pos := "chain.go:63", after := #[{ on := 20, ground := Ground.data }, { on := 23, ground := Ground.data }, { on := 11, ground := Ground.guard }], guard := some (11, false) }) (d := 38) (v := undef) rfl rfl (by kernel_rfl) (by kernel_rfl) (by kernel_rfl) (fun _ _ _ h => h) (Or.inr ⟨by rfl, rfl⟩) hHeld ?_
      simp only [List.setIfInBounds_toArray, List.set_cons_zero, List.set_cons_succ]
      refine wpAnyH_takeD (i := 25) (oi := { dst := some 39, op := Op.pick (Operand.tmp 25) (Operand.const (Value.bool true)) (Operand.tmp 38), type := 4, pos := "chain.go:63", after := #[{ on := 11, ground := Ground.data }, { on := 24, ground := Ground.data }], guard := none }) (d := 39) (v := ?_) rfl rfl (by kernel_rfl) (by kernel_rfl) (by kernel_rfl) (fun _ _ _ h => h) (Or.inl ⟨by rfl, ?_⟩) hHeld ?_
      rotate_left
      · (intro w' hSw; (try dsimp only at hSw); go_simp; (try with_reducible rfl))
      simp only [List.setIfInBounds_toArray, List.set_cons_zero, List.set_cons_succ]
      refine wpAnyH_takeD (i := 26) (oi := { dst := some 4, op := Op.assign (Operand.tmp 39), type := 4, pos := "chain.go:63", after := #[{ on := 25, ground := Ground.data }, { on := 11, ground := Ground.chain }, { on := 0, ground := Ground.phase }, { on := 1, ground := Ground.phase }, { on := 2, ground := Ground.phase }, { on := 3, ground := Ground.phase }, { on := 4, ground := Ground.phase }, { on := 5, ground := Ground.phase }, { on := 6, ground := Ground.phase }, { on := 7, ground := Ground.phase }, { on := 8, ground := Ground.phase }, { on := 9, ground := Ground.phase }, { on := 10, ground := Ground.phase }, { on := 11, ground := Ground.phase }, { on := 12, ground := Ground.phase }, { on := 13, ground := Ground.phase }, { on := 14, ground := Ground.phase }, { on := 15, ground := Ground.phase }, { on := 16, ground := Ground.phase }, { on := 17, ground := Ground.phase }, { on := 18, ground := Ground.phase }, { on := 19, ground := Ground.phase }, { on := 20, ground := Ground.phase }, { on := 21, ground := Ground.phase }, { on := 22, ground := Ground.phase }, { on := 23, ground := Ground.phase }, { on := 24, ground := Ground.phase }, { on := 25, ground := Ground.phase }], guard := none }) (d := 4) (v := ?_) rfl rfl (by kernel_rfl) (by kernel_rfl) (by kernel_rfl) (fun _ _ _ h => h) (Or.inl ⟨by rfl, ?_⟩) hHeld ?_
      rotate_left
      · (intro w' hSw; (try dsimp only at hSw); go_simp; (try with_reducible rfl))
      simp only [List.setIfInBounds_toArray, List.set_cons_zero, List.set_cons_succ]
      refine wpAnyH_done (by kernel_rfl) ?_ _
      go_wp2_with fail
      go_ret
      exact ⟨ret_bool HT.out.symm, HB0.out.drew⟩
    · obtain ⟨j, hj, y, hy⟩ := HX.out rfl e2
      simp only at hj
      subst hj
      have q2 : ((j : Int) == -1) = false := by simp
      have HT : Hid (B = (y.1 != b)) := Lib.hid (by rw [← HBB.out]; simp [staleB, hy])
      have hlt2 := (List.getElem?_eq_some_iff.1 hy).1
      obtain ⟨g', e, b0, b1, b2⟩ := HD.out.lk.at j _ hy
      injection e with e
      injection e with e
      subst e
      have p2 : (0 : Int) ≤ (j : Int) := by omega
      have p3 : (j : Int) < (N.length : Int) := by omega
      clear e2 hy
      refine wp_region_held_drew (S := fun V => V.cell? ⟨cb, 1, none⟩ = some (.slice (some ⟨g, 0, none⟩) N.length c) ∧ V.cell? ⟨w.heap.size, 1, none⟩ = some (.int .i64 x1) ∧ V.cell? ⟨w.heap.size, 2, none⟩ = some (.int .i64 b) ∧ V.cell? ⟨g5, 0, none⟩ = some (.int .i64 x1) ∧ V.cell? ⟨g5, 2, none⟩ = some (.int .i64 (j : Int)) ∧ V.cell? ⟨g, j * 3, none⟩ = some (.int .i64 y.1)) (by kernel_rfl) (by exact ⟨h1, n1, n2, m0, m2, b0⟩) (fun hHeld => ?_)
      refine wpAnyH_takeD (i := 0) (oi := { dst := some 14, op := Op.fieldAddr 266 (Operand.tmp 5) 0, type := 0, pos := "chain.go:63", after := #[], guard := none }) (d := 14) (v := ?_) rfl rfl (by kernel_rfl) (by kernel_rfl) (by kernel_rfl) (fun _ _ _ h => h) (Or.inl ⟨by rfl, ?_⟩) hHeld ?_
      rotate_left
      · (intro w' hSw; (try dsimp only at hSw); go_simp; (try with_reducible rfl))
      simp only [List.setIfInBounds_toArray, List.set_cons_zero, List.set_cons_succ]
      refine wpAnyH_takeD (i := 1) (oi := { dst := some 15, op := Op.load 3 (Operand.tmp 14), type := 3, pos := "chain.go:63", after := #[{ on := 0, ground := Ground.data }], guard := none }) (d := 15) (v := ?_) rfl rfl (by kernel_rfl) (by kernel_rfl) (by kernel_rfl) (fun _ _ _ h => h) (Or.inl ⟨by rfl, ?_⟩) hHeld ?_
      rotate_left
      · (intro w' hSw; (try dsimp only at hSw); go_simp; (try with_reducible rfl))
      simp only [List.setIfInBounds_toArray, List.set_cons_zero, List.set_cons_succ]
      refine wpAnyH_takeD (i := 2) (oi := { dst := some 16, op := Op.fieldAddr 261 (Operand.tmp 3) 1, type := 0, pos := "chain.go:63", after := #[], guard := none }) (d := 16) (v := ?_) rfl rfl (by kernel_rfl) (by kernel_rfl) (by kernel_rfl) (fun _ _ _ h => h) (Or.inl ⟨by rfl, ?_⟩) hHeld ?_
      rotate_left
      · (intro w' hSw; (try dsimp only at hSw); go_simp; (try with_reducible rfl))
      simp only [List.setIfInBounds_toArray, List.set_cons_zero, List.set_cons_succ]
      refine wpAnyH_takeD (i := 3) (oi := { dst := some 17, op := Op.fieldAddr 55 (Operand.tmp 16) 0, type := 0, pos := "chain.go:63", after := #[{ on := 2, ground := Ground.data }], guard := none }) (d := 17) (v := ?_) rfl rfl (by kernel_rfl) (by kernel_rfl) (by kernel_rfl) (fun _ _ _ h => h) (Or.inl ⟨by rfl, ?_⟩) hHeld ?_
      rotate_left
      · (intro w' hSw; (try dsimp only at hSw); go_simp; (try with_reducible rfl))
      simp only [List.setIfInBounds_toArray, List.set_cons_zero, List.set_cons_succ]
      refine wpAnyH_takeD (i := 4) (oi := { dst := some 18, op := Op.load 3 (Operand.tmp 17), type := 3, pos := "chain.go:63", after := #[{ on := 3, ground := Ground.data }], guard := none }) (d := 18) (v := ?_) rfl rfl (by kernel_rfl) (by kernel_rfl) (by kernel_rfl) (fun _ _ _ h => h) (Or.inl ⟨by rfl, ?_⟩) hHeld ?_
      rotate_left
      · (intro w' hSw; (try dsimp only at hSw); go_simp; (try with_reducible rfl))
      simp only [List.setIfInBounds_toArray, List.set_cons_zero, List.set_cons_succ]
      refine wpAnyH_takeD (i := 5) (oi := { dst := some 19, op := Op.binOp BinOp.neq 3 (Operand.tmp 15) (Operand.tmp 18) 3, type := 4, pos := "chain.go:63", after := #[{ on := 1, ground := Ground.data }, { on := 4, ground := Ground.data }], guard := none }) (d := 19) (v := ?_) rfl rfl (by kernel_rfl) (by kernel_rfl) (by kernel_rfl) (fun _ _ _ h => h) (Or.inl ⟨by rfl, ?_⟩) hHeld ?_
      rotate_left
      · (intro w' hSw; (try dsimp only at hSw); go_simp; (try with_reducible rfl))
      simp only [List.setIfInBounds_toArray, List.set_cons_zero, List.set_cons_succ]
      refine wpAnyH_takeD (i := 6) (oi := { dst := some 20, op := Op.move (Operand.tmp 19), type := 4, pos := "chain.go:63", after := #[{ on := 5, ground := Ground.data }], guard := none }) (d := 20) (v := ?_) rfl rfl (by kernel_rfl) (by kernel_rfl) (by kernel_rfl) (fun _ _ _ h => h) (Or.inl ⟨by rfl, ?_⟩) hHeld ?_
      rotate_left
      · (intro w' hSw; (try dsimp only at hSw); go_simp; (try with_reducible rfl))
      simp only [List.setIfInBounds_toArray, List.set_cons_zero, List.set_cons_succ]
      refine wpAnyH_takeD (i := 7) (oi := { dst := some 21, op := Op.fieldAddr 266 (Operand.tmp 5) 2, type := 0, pos := "chain.go:63", after := #[{ on := 6, ground := Ground.guard }], guard := some (6, false) }) (d := 21) (v := ?_) rfl rfl (by kernel_rfl) (by kernel_rfl) (by kernel_rfl) (fun _ _ _ h => h) (Or.inl ⟨by rfl, ?_⟩) hHeld ?_
      rotate_left
      · (intro w' hSw; (try dsimp only at hSw); go_simp; (try with_reducible rfl))
      simp only [List.setIfInBounds_toArray, List.set_cons_zero, List.set_cons_succ]
      refine wpAnyH_takeD (i := 8) (oi := { dst := some 22, op := Op.load 3 (Operand.tmp 21), type := 3, pos := "chain.go:63", after := #[{ on := 7, ground := Ground.data }, { on := 6, ground := Ground.guard }], guard := some (6, false) }) (d := 22) (v := ?_) rfl rfl (by kernel_rfl) (by kernel_rfl) (by kernel_rfl) (fun _ _ _ h => h) (Or.inl ⟨by rfl, ?_⟩) hHeld ?_
      rotate_left
      · (intro w' hSw; (try dsimp only at hSw); go_simp; (try with_reducible rfl))
      simp only [List.setIfInBounds_toArray, List.set_cons_zero, List.set_cons_succ]
      refine wpAnyH_takeD (i := 9) (oi := { dst := some 23, op := Op.binOp BinOp.eql 3 (Operand.tmp 22) (Operand.const (Value.int IntKind.i64 (-1))) 3, type := 4, pos := "chain.go:63", after := #[{ on := 8, ground := Ground.data }, { on := 6, ground := Ground.guard }], guard := some (6, false) }) (d := 23) (v := ?_) rfl rfl (by kernel_rfl) (by kernel_rfl) (by kernel_rfl) (fun _ _ _ h => h) (Or.inl ⟨by rfl, ?_⟩) hHeld ?_
      rotate_left
      · (intro w' hSw; (try dsimp only at hSw); go_simp; (try with_reducible rfl))
      simp only [List.setIfInBounds_toArray, List.set_cons_zero, List.set_cons_succ]
      refine wpAnyH_takeD (i := 10) (oi := { dst := some 24, op := Op.pick (Operand.tmp 20) (Operand.const (Value.bool true)) (Operand.tmp 23), type := 4, pos := "chain.go:63", after := #[{ on := 6, ground := Ground.data }, { on := 9, ground := Ground.data }], guard := none }) (d := 24) (v := ?_) rfl rfl (by kernel_rfl) (by kernel_rfl) (by kernel_rfl) (fun _ _ _ h => h) (Or.inl ⟨by rfl, ?_⟩) hHeld ?_
      rotate_left
      · (intro w' hSw; (try dsimp only at hSw); go_simp; (try with_reducible rfl))
      simp only [List.setIfInBounds_toArray, List.set_cons_zero, List.set_cons_succ]
      refine wpAnyH_takeD (i := 11) (oi := { dst := some 25, op := Op.move (Operand.tmp 24), type := 4, pos := "chain.go:63", after := #[{ on := 10, ground := Ground.data }, { on := 6, ground := Ground.chain }], guard := none }) (d := 25) (v := ?_) rfl rfl (by kernel_rfl) (by kernel_rfl) (by kernel_rfl) (fun _ _ _ h => h) (Or.inl ⟨by rfl, ?_⟩) hHeld ?_
      rotate_left
      · (intro w' hSw; (try dsimp only at hSw); go_simp; (try with_reducible rfl))
      simp only [List.setIfInBounds_toArray, List.set_cons_zero, List.set_cons_succ]
      refine wpAnyH_takeD (i := 12) (oi := { dst := some 26, op := Op.move (Operand.tmp 0), type := 248, pos := "chain.go:63", after := #[{ on := 11, ground := Ground.guard }], guard := some (11, false) }) (d := 26) (v := ?_) rfl rfl (by kernel_rfl) (by kernel_rfl) (by kernel_rfl) (fun _ _ _ h => h) (Or.inl ⟨by rfl, ?_⟩) hHeld ?_
      rotate_left
      · (intro w' hSw; (try dsimp only at hSw); go_simp; (try with_reducible rfl))
      simp only [List.setIfInBounds_toArray, List.set_cons_zero, List.set_cons_succ]
      refine wpAnyH_takeD (i := 13) (oi := { dst := some 27, op := Op.nilCheck (Operand.tmp 26), type := 0, pos := "chain.go:63", after := #[{ on := 12, ground := Ground.data }, { on := 11, ground := Ground.guard }], guard := some (11, false) }) (d := 27) (v := ?_) rfl rfl (by kernel_rfl) (by kernel_rfl) (by kernel_rfl) (fun _ _ _ h => h) (Or.inl ⟨by rfl, ?_⟩) hHeld ?_
      rotate_left
      · (intro w' hSw; (try dsimp only at hSw); go_simp; (try with_reducible rfl))
      simp only [List.setIfInBounds_toArray, List.set_cons_zero, List.set_cons_succ]
      refine wpAnyH_takeD (i := 14) (oi := { dst := some 28, op := Op.fieldAddr 264 (Operand.tmp 27) 1, type := 0, pos := "chain.go:63", after := #[{ on := 13, ground := Ground.data }, { on := 11, ground := Ground.guard }], guard := some (11, false) }) (d := 28) (v := ?_) rfl rfl (by kernel_rfl) (by kernel_rfl) (by kernel_rfl) (fun _ _ _ h => h) (Or.inl ⟨by rfl, ?_⟩) hHeld ?_
      rotate_left
      · (intro w' hSw; (try dsimp only at hSw); go_simp; (try with_reducible rfl))
      simp only [List.setIfInBounds_toArray, List.set_cons_zero, List.set_cons_succ]
      refine wpAnyH_takeD (i := 15) (oi := { dst := some 29, op := Op.load 262 (Operand.tmp 28), type := 262, pos := "chain.go:63", after := #[{ on := 14, ground := Ground.data }, { on := 11, ground := Ground.guard }], guard := some (11, false) }) (d := 29) (v := ?_) rfl rfl (by kernel_rfl) (by kernel_rfl) (by kernel_rfl) (fun _ _ _ h => h) (Or.inl ⟨by rfl, ?_⟩) hHeld ?_
      rotate_left
      · (intro w' hSw; (try dsimp only at hSw); go_simp; (try with_reducible rfl))
      simp only [List.setIfInBounds_toArray, List.set_cons_zero, List.set_cons_succ]
      refine wpAnyH_takeD (i := 16) (oi := { dst := some 30, op := Op.fieldAddr 266 (Operand.tmp 5) 2, type := 0, pos := "chain.go:63", after := #[{ on := 11, ground := Ground.guard }], guard := some (11, false) }) (d := 30) (v := ?_) rfl rfl (by kernel_rfl) (by kernel_rfl) (by kernel_rfl) (fun _ _ _ h => h) (Or.inl ⟨by rfl, ?_⟩) hHeld ?_
      rotate_left
      · (intro w' hSw; (try dsimp only at hSw); go_simp; (try with_reducible rfl))
      simp only [List.setIfInBounds_toArray, List.set_cons_zero, List.set_cons_succ]
      refine wpAnyH_takeD (i := 17) (oi := { dst := some 31, op := Op.load 3 (Operand.tmp 30), type := 3, pos := "chain.go:63", after := #[{ on := 16, ground := Ground.data }, { on := 11, ground := Ground.guard }], guard := some (11, false) }) (d := 31) (v := ?_) rfl rfl (by kernel_rfl) (by kernel_rfl) (by kernel_rfl) (fun _ _ _ h => h) (Or.inl ⟨by rfl, ?_⟩) hHeld ?_
      rotate_left
      · (intro w' hSw; (try dsimp only at hSw); go_simp; (try with_reducible rfl))
      simp only [List.setIfInBounds_toArray, List.set_cons_zero, List.set_cons_succ]
      refine wpAnyH_takeD (i := 18) (oi := { dst := some 32, op := Op.indexAddr 262 (Operand.tmp 29) (Operand.tmp 31), type := 0, pos := "chain.go:63", after := #[{ on := 15, ground := Ground.data }, { on := 17, ground := Ground.data }, { on := 11, ground := Ground.guard }], guard := some (11, false) }) (d := 32) (v := ?_) rfl rfl (by kernel_rfl) (by kernel_rfl) (by kernel_rfl) (fun _ _ _ h => h) (Or.inl ⟨by rfl, ?_⟩) hHeld ?_
      rotate_left
      · (intro w' hSw; (try dsimp only at hSw); go_simp; (try with_reducible rfl))
      simp only [List.setIfInBounds_toArray, List.set_cons_zero, List.set_cons_succ]
      refine wpAnyH_takeD (i := 19) (oi := { dst := some 33, op := Op.fieldAddr 266 (Operand.tmp 32) 0, type := 0, pos := "chain.go:63", after := #[{ on := 18, ground := Ground.data }, { on := 11, ground := Ground.guard }], guard := some (11, false) }) (d := 33) (v := ?_) rfl rfl (by kernel_rfl) (by kernel_rfl) (by kernel_rfl) (fun _ _ _ h => h) (Or.inl ⟨by rfl, ?_⟩) hHeld ?_
      rotate_left
      · (intro w' hSw; (try dsimp only at hSw); go_simp; (try with_reducible rfl))
      simp only [List.setIfInBounds_toArray, List.set_cons_zero, List.set_cons_succ]
      refine wpAnyH_takeD (i := 20) (oi := { dst := some 34, op := Op.load 3 (Operand.tmp 33), type := 3, pos := "chain.go:63", after := #[{ on := 19, ground := Ground.data }, { on := 11, ground := Ground.guard }], guard := some (11, false) }) (d := 34) (v := ?_) rfl rfl (by kernel_rfl) (by kernel_rfl) (by kernel_rfl) (fun _ _ _ h => h) (Or.inl ⟨by rfl, ?_⟩) hHeld ?_
      rotate_left
      · (intro w' hSw; (try dsimp only at hSw); go_simp; (try with_reducible rfl))
      simp only [List.setIfInBounds_toArray, List.set_cons_zero, List.set_cons_succ]
      refine wpAnyH_takeD (i := 21) (oi := { dst := some 35, op := Op.fieldAddr 261 (Operand.tmp 3) 1, type := 0, pos := "chain.go:63", after := #[{ on := 11, ground := Ground.guard }], guard := some (11, false) }) (d := 35) (v := ?_) rfl rfl (by kernel_rfl) (by kernel_rfl) (by kernel_rfl) (fun _ _ _ h => h) (Or.inl ⟨by rfl, ?_⟩) hHeld ?_
      rotate_left
      · (intro w' hSw; (try dsimp only at hSw); go_simp; (try with_reducible rfl))
      simp only [List.setIfInBounds_toArray, List.set_cons_zero, List.set_cons_succ]
      refine wpAnyH_takeD (i := 22) (oi := { dst := some 36, op := Op.fieldAddr 55 (Operand.tmp 35) 1, type := 0, pos := "chain.go:63", after := #[{ on := 21, ground := Ground.data }, { on := 11, ground := Ground.guard }], guard := some (11, false) }) (d := 36) (v := ?_) rfl rfl (by kernel_rfl) (by kernel_rfl) (by kernel_rfl) (fun _ _ _ h => h) (Or.inl ⟨by rfl, ?_⟩) hHeld ?_
      rotate_left
      · (intro w' hSw; (try dsimp only at hSw); go_simp; (try with_reducible rfl))
      simp only [List.setIfInBounds_toArray, List.set_cons_zero, List.set_cons_succ]
      refine wpAnyH_takeD (i := 23) (oi := { dst := some 37, op := Op.load 3 (Operand.tmp 36), type := 3, pos := "chain.go:63", after := #[{ on := 22, ground := Ground.data }, { on := 11, ground := Ground.guard }], guard := some (11, false) }) (d := 37) (v := ?_) rfl rfl (by kernel_rfl) (by kernel_rfl) (by kernel_rfl) (fun _ _ _ h => h) (Or.inl ⟨by rfl, ?_⟩) hHeld ?_
      rotate_left
      · (intro w' hSw; (try dsimp only at hSw); go_simp; (try with_reducible rfl))
      simp only [List.setIfInBounds_toArray, List.set_cons_zero, List.set_cons_succ]
      refine wpAnyH_takeD (i := 24) (oi := { dst := some 38, op := Op.binOp BinOp.neq 3 (Operand.tmp 34) (Operand.tmp 37) 3, type := 4, pos := "chain.go:63", after := #[{ on := 20, ground := Ground.data }, { on := 23, ground := Ground.data }, { on := 11, ground := Ground.guard }], guard := some (11, false) }) (d := 38) (v := ?_) rfl rfl (by kernel_rfl) (by kernel_rfl) (by kernel_rfl) (fun _ _ _ h => h) (Or.inl ⟨by rfl, ?_⟩) hHeld ?_
      rotate_left
      · (intro w' hSw; (try dsimp only at hSw); go_simp; (try with_reducible rfl))
      simp only [List.setIfInBounds_toArray, List.set_cons_zero, List.set_cons_succ]
      refine wpAnyH_takeD (i := 25) (oi := { dst := some 39, op := Op.pick (Operand.tmp 25) (Operand.const (Value.bool true)) (Operand.tmp 38), type := 4, pos := "chain.go:63", after := #[{ on := 11, ground := Ground.data }, { on := 24, ground := Ground.data }], guard := none }) (d := 39) (v := ?_) rfl rfl (by kernel_rfl) (by kernel_rfl) (by kernel_rfl) (fun _ _ _ h => h) (Or.inl ⟨by rfl, ?_⟩) hHeld ?_
      rotate_left
      · (intro w' hSw; (try dsimp only at hSw); go_simp; (try with_reducible rfl))
      simp only [List.setIfInBounds_toArray, List.set_cons_zero, List.set_cons_succ]
      refine wpAnyH_takeD (i := 26) (oi := { dst := some 4, op := Op.assign (Operand.tmp 39), type := 4, pos := "chain.go:63", after := #[{ on := 25, ground := Ground.data }, { on := 11, ground := Ground.chain }, { on := 0, ground := Ground.phase }, { on := 1, ground := Ground.phase }, { on := 2, ground := Ground.phase }, { on := 3, ground := Ground.phase }, { on := 4, ground := Ground.phase }, { on := 5, ground := Ground.phase }, { on := 6, ground := Ground.phase }, { on := 7, ground := Ground.phase }, { on := 8, ground := Ground.phase }, { on := 9, ground := Ground.phase }, { on := 10, ground := Ground.phase }, { on := 11, ground := Ground.phase }, { on := 12, ground := Ground.phase }, { on := 13, ground := Ground.phase }, { on := 14, ground := Ground.phase }, { on := 15, ground := Ground.phase }, { on := 16, ground := Ground.phase }, { on := 17, ground := Ground.phase }, { on := 18, ground := Ground.phase }, { on := 19, ground := Ground.phase }, { on := 20, ground := Ground.phase }, { on := 21, ground := Ground.phase }, { on := 22, ground := Ground.phase }, { on := 23, ground := Ground.phase }, { on := 24, ground := Ground.phase }, { on := 25, ground := Ground.phase }], guard := none }) (d := 4) (v := ?_) rfl rfl (by kernel_rfl) (by kernel_rfl) (by kernel_rfl) (fun _ _ _ h => h) (Or.inl ⟨by rfl, ?_⟩) hHeld ?_
      rotate_left
      · (intro w' hSw; (try dsimp only at hSw); go_simp; (try with_reducible rfl))
      simp only [List.setIfInBounds_toArray, List.set_cons_zero, List.set_cons_succ]
      refine wpAnyH_done (by kernel_rfl) ?_ _
      go_wp2_with fail
      go_ret
      exact ⟨ret_bool HT.out.symm, HB0.out.drew⟩
  · have q1 : (x1 != a) = true := by simpa using e1
    have HT : Hid (B = true) := Lib.hid (by rw [← HBB.out]; simp [staleB, e1])
    clear e1
    refine wp_region_held_drew (S := fun V => V.cell? ⟨cb, 1, none⟩ = some (.slice (some ⟨g, 0, none⟩) N.length c) ∧ V.cell? ⟨w.heap.size, 1, none⟩ = some (.int .i64 a) ∧ V.cell? ⟨g5, 0, none⟩ = some (.int .i64 x1)) (by kernel_rfl) (by exact ⟨h1, n1, m0⟩) (fun hHeld => ?_)
    refine wpAnyH_takeD (i := 0) (oi := { dst := some 14, op := Op.fieldAddr 266 (Operand.tmp 5) 0, type := 0, pos := "chain.go:63", after := #[], guard := none }) (d := 14) (v := ?_) rfl rfl (by kernel_rfl) (by kernel_rfl) (by kernel_rfl) (fun _ _ _ h => h) (Or.inl ⟨by rfl, ?_⟩) hHeld ?_
    rotate_left
    · (intro w' hSw; (try dsimp only at hSw); go_simp; (try with_reducible rfl))
    simp only [List.setIfInBounds_toArray, List.set_cons_zero, List.set_cons_succ]
    refine wpAnyH_takeD (i := 1) (oi := { dst := some 15, op := Op.load 3 (Operand.tmp 14), type := 3, pos := "chain.go:63", after := #[{ on := 0, ground := Ground.data }], guard := none }) (d := 15) (v := ?_) rfl rfl (by kernel_rfl) (by kernel_rfl) (by kernel_rfl) (fun _ _ _ h => h) (Or.inl ⟨by rfl, ?_⟩) hHeld ?_
    rotate_left
    · (intro w' hSw; (try dsimp only at hSw); go_simp; (try with_reducible rfl))
    simp only [List.setIfInBounds_toArray, List.set_cons_zero, List.set_cons_succ]
    refine wpAnyH_takeD (i := 2) (oi := { dst := some 16, op := Op.fieldAddr 261 (Operand.tmp 3) 1, type := 0, pos := "chain.go:63", after := #[], guard := none }) (d := 16) (v := ?_) rfl rfl (by kernel_rfl) (by kernel_rfl) (by kernel_rfl) (fun _ _ _ h => h) (Or.inl ⟨by rfl, ?_⟩) hHeld ?_
    rotate_left
    · (intro w' hSw; (try dsimp only at hSw); go_simp; (try with_reducible rfl))
    simp only [List.setIfInBounds_toArray, List.set_cons_zero, List.set_cons_succ]
    refine wpAnyH_takeD (i := 3) (oi := { dst := some 17, op := Op.fieldAddr 55 (Operand.tmp 16) 0, type := 0, pos := "chain.go:63", after := #[{ on := 2, ground := Ground.data }], guard := none }) (d := 17) (v := ?_) rfl rfl (by kernel_rfl) (by kernel_rfl) (by kernel_rfl) (fun _ _ _ h => h) (Or.inl ⟨by rfl, ?_⟩) hHeld ?_
    rotate_left
    · (intro w' hSw; (try dsimp only at hSw); go_simp; (try with_reducible rfl))
    simp only [List.setIfInBounds_toArray, List.set_cons_zero, List.set_cons_succ]
    refine wpAnyH_takeD (i := 4) (oi := { dst := some 18, op := Op.load 3 (Operand.tmp 17), type := 3, pos := "chain.go:63", after := #[{ on := 3, ground := Ground.data }], guard := none }) (d := 18) (v := ?_) rfl rfl (by kernel_rfl) (by kernel_rfl) (by kernel_rfl) (fun _ _ _ h => h) (Or.inl ⟨by rfl, ?_⟩) hHeld ?_
    rotate_left
    · (intro w' hSw; (try dsimp only at hSw); go_simp; (try with_reducible rfl))
    simp only [List.setIfInBounds_toArray, List.set_cons_zero, List.set_cons_succ]
    refine wpAnyH_takeD (i := 5) (oi := { dst := some 19, op := Op.binOp BinOp.neq 3 (Operand.tmp 15) (Operand.tmp 18) 3, type := 4, pos := "chain.go:63", after := #[{ on := 1, ground := Ground.data }, { on := 4, ground := Ground.data }], guard := none }) (d := 19) (v := ?_) rfl rfl (by kernel_rfl) (by kernel_rfl) (by kernel_rfl) (fun _ _ _ h => h) (Or.inl ⟨by rfl, ?_⟩) hHeld ?_
    rotate_left
    · (intro w' hSw; (try dsimp only at hSw); go_simp; (try with_reducible rfl))
    simp only [List.setIfInBounds_toArray, List.set_cons_zero, List.set_cons_succ]
    refine wpAnyH_takeD (i := 6) (oi := { dst := some 20, op := Op.move (Operand.tmp 19), type := 4, pos := "chain.go:63", after := #[{ on := 5, ground := Ground.data }], guard := none }) (d := 20) (v := ?_) rfl rfl (by kernel_rfl) (by kernel_rfl) (by kernel_rfl) (fun _ _ _ h => h) (Or.inl ⟨by rfl, ?_⟩) hHeld ?_
    rotate_left
    · (intro w' hSw; (try dsimp only at hSw); go_simp; (try with_reducible rfl))
    simp only [List.setIfInBounds_toArray, List.set_cons_zero, List.set_cons_succ]
    refine wpAnyH_takeD (i := 7) (oi := { dst := some 21, op := Op.fieldAddr 266 (Operand.tmp 5) 2, type := 0, pos := "chain.go:63", after := #[{ on := 6, ground := Ground.guard }], guard := some (6, false) }) (d := 21) (v := undef) rfl rfl (by kernel_rfl) (by kernel_rfl) (by kernel_rfl) (fun _ _ _ h => h) (Or.inr ⟨by rfl, rfl⟩) hHeld ?_
    simp only [List.setIfInBounds_toArray, List.set_cons_zero, List.set_cons_succ]
    refine wpAnyH_takeD (i := 8) (oi := { dst := some 22, op := Op.load 3 (Operand.tmp 21), type := 3, pos := "chain.go:63", after := #[{ on := 7, ground := Ground.data }, { on := 6, ground := Ground.guard }], guard := some (6, false) }) (d := 22) (v := undef) rfl rfl (by kernel_rfl) (by kernel_rfl) (by kernel_rfl) (fun _ _ _ h => h) (Or.inr ⟨by rfl, rfl⟩) hHeld ?_
    simp only [List.setIfInBounds_toArray, List.set_cons_zero, List.set_cons_succ]
    refine wpAnyH_takeD (i := 9) (oi := { dst := some 23, op := Op.binOp BinOp.eql 3 (Operand.tmp 22) (Operand.const (Value.int IntKind.i64 (-1))) 3, type := 4, pos := "chain.go:63", after := #[{ on := 8, ground := Ground.data }, { on := 6, ground := Ground.guard }], guard := some (6, false) }) (d := 23) (v := undef) rfl rfl (by kernel_rfl) (by kernel_rfl) (by kernel_rfl) (fun _ _ _ h => h) (Or.inr ⟨by rfl, rfl⟩) hHeld ?_
    simp only [List.setIfInBounds_toArray, List.set_cons_zero, List.set_cons_succ]
    refine wpAnyH_takeD (i := 10) (oi := { dst := some 24, op := Op.pick (Operand.tmp 20) (Operand.const (Value.bool true)) (Operand.tmp 23), type := 4, pos := "chain.go:63", after := #[{ on := 6, ground := Ground.data }, { on := 9, ground := Ground.data }], guard := none }) (d := 24) (v := ?_) rfl rfl (by kernel_rfl) (by kernel_rfl) (by kernel_rfl) (fun _ _ _ h => h) (Or.inl ⟨by rfl, ?_⟩) hHeld ?_
    rotate_left
    · (intro w' hSw; (try dsimp only at hSw); go_simp; (try with_reducible rfl))
    simp only [List.setIfInBounds_toArray, List.set_cons_zero, List.set_cons_succ]
    refine wpAnyH_takeD (i := 11) (oi := { dst := some 25, op := Op.move (Operand.tmp 24), type := 4, pos := "chain.go:63", after := #[{ on := 10, ground := Ground.data }, { on := 6, ground := Ground.chain }], guard := none }) (d := 25) (v := ?_) rfl rfl (by kernel_rfl) (by kernel_rfl) (by kernel_rfl) (fun _ _ _ h => h) (Or.inl ⟨by rfl, ?_⟩) hHeld ?_
    rotate_left
    · (intro w' hSw; (try dsimp only at hSw); go_simp; (try with_reducible rfl))
    simp only [List.setIfInBounds_toArray, List.set_cons_zero, List.set_cons_succ]
    refine wpAnyH_takeD (i := 12) (oi := { dst := some 26, op := Op.move (Operand.tmp 0), type := 248, pos := "chain.go:63", after := #[{ on := 11, ground := Ground.guard }], guard := some (11, false) }) (d := 26) (v := undef) rfl rfl (by kernel_rfl) (by kernel_rfl) (by kernel_rfl) (fun _ _ _ h => h) (Or.inr ⟨by rfl, rfl⟩) hHeld ?_
    simp only [List.setIfInBounds_toArray, List.set_cons_zero, List.set_cons_succ]
    refine wpAnyH_takeD (i := 13) (oi := { dst := some 27, op := Op.nilCheck (Operand.tmp 26), type := 0, pos := "chain.go:63", after := #[{ on := 12, ground := Ground.data }, { on := 11, ground := Ground.guard }], guard := some (11, false) }) (d := 27) (v := undef) rfl rfl (by kernel_rfl) (by kernel_rfl) (by kernel_rfl) (fun _ _ _ h => h) (Or.inr ⟨by rfl, rfl⟩) hHeld ?_
    simp only [List.setIfInBounds_toArray, List.set_cons_zero, List.set_cons_succ]
    refine wpAnyH_takeD (i := 14) (oi := { dst := some 28, op := Op.fieldAddr 264 (Operand.tmp 27) 1, type := 0, pos := "chain.go:63", after := #[{ on := 13, ground := Ground.data }, { on := 11, ground := Ground.guard }], guard := some (11, false) }) (d := 28) (v := undef) rfl rfl (by kernel_rfl) (by kernel_rfl) (by kernel_rfl) (fun _ _ _ h => h) (Or.inr ⟨by rfl, rfl⟩) hHeld ?_
    simp only [List.setIfInBounds_toArray, List.set_cons_zero, List.set_cons_succ]
    refine wpAnyH_takeD (i := 15) (oi := { dst := some 29, op := Op.load 262 (Operand.tmp 28), type := 262, pos := "chain.go:63", after := #[{ on := 14, ground := Ground.data }, { on := 11, ground := Ground.guard }], guard := some (11, false) }) (d := 29) (v := undef) rfl rfl (by kernel_rfl) (by kernel_rfl) (by kernel_rfl) (fun _ _ _ h => h) (Or.inr ⟨by rfl, rfl⟩) hHeld ?_
    simp only [List.setIfInBounds_toArray, List.set_cons_zero, List.set_cons_succ]
    refine wpAnyH_takeD (i := 16) (oi := { dst := some 30, op := Op.fieldAddr 266 (Operand.tmp 5) 2, type := 0, pos := "chain.go:63", after := #[{ on := 11, ground := Ground.guard }], guard := some (11, false) }) (d := 30) (v := undef) rfl rfl (by kernel_rfl) (by kernel_rfl) (by kernel_rfl) (fun _ _ _ h => h) (Or.inr ⟨by rfl, rfl⟩) hHeld ?_
    simp only [List.setIfInBounds_toArray, List.set_cons_zero, List.set_cons_succ]
    refine wpAnyH_takeD (i := 17) (oi := { dst := some 31, op := Op.load 3 (Operand.tmp 30), type := 3, pos := "chain.go:63", after := #[{ on := 16, ground := Ground.data }, { on := 11, ground := Ground.guard }], guard := some (11, false) }) (d := 31) (v := undef) rfl rfl (by kernel_rfl) (by kernel_rfl) (by kernel_rfl) (fun _ _ _ h => h) (Or.inr ⟨by rfl, rfl⟩) hHeld ?_
    simp only [List.setIfInBounds_toArray, List.set_cons_zero, List.set_cons_succ]
    refine wpAnyH_takeD (i := 18) (oi := { dst := some 32, op := Op.indexAddr 262 (Operand.tmp 29) (Operand.tmp 31), type := 0, pos := "chain.go:63", after := #[{ on := 15, ground := Ground.data }, { on := 17, ground := Ground.data }, { on := 11, ground := Ground.guard }], guard := some (11, false) }) (d := 32) (v := undef) rfl rfl (by kernel_rfl) (by kernel_rfl) (by kernel_rfl) (fun _ _ _ h => h) (Or.inr ⟨by rfl, rfl⟩) hHeld ?_
    simp only [List.setIfInBounds_toArray, List.set_cons_zero, List.set_cons_succ]
    refine wpAnyH_takeD (i := 19) (oi := { dst := some 33, op := Op.fieldAddr 266 (Operand.tmp 32) 0, type := 0, pos := "chain.go:63", after := #[{ on := 18, ground := Ground.data }, { on := 11, ground := Ground.guard }], guard := some (11, false) }) (d := 33) (v := undef) rfl rfl (by kernel_rfl) (by kernel_rfl) (by kernel_rfl) (fun _ _ _ h => h) (Or.inr ⟨by rfl, rfl⟩) hHeld ?_
    simp only [List.setIfInBounds_toArray, List.set_cons_zero, List.set_cons_succ]
    refine wpAnyH_takeD (i := 20) (oi := { dst := some 34, op := Op.load 3 (Operand.tmp 33), type := 3, pos := "chain.go:63", after := #[{ on := 19, ground := Ground.data }, { on := 11, ground := Ground.guard }], guard := some (11, false) }) (d := 34) (v := undef) rfl rfl (by kernel_rfl) (by kernel_rfl) (by kernel_rfl) (fun _ _ _ h => h) (Or.inr ⟨by rfl, rfl⟩) hHeld ?_
    simp only [List.setIfInBounds_toArray, List.set_cons_zero, List.set_cons_succ]
    refine wpAnyH_takeD (i := 21) (oi := { dst := some 35, op := Op.fieldAddr 261 (Operand.tmp 3) 1, type := 0, pos := "chain.go:63", after := #[{ on := 11, ground := Ground.guard }], guard := some (11, false) }) (d := 35) (v := undef) rfl rfl (by kernel_rfl) (by kernel_rfl) (by kernel_rfl) (fun _ _ _ h => h) (Or.inr ⟨by rfl, rfl⟩) hHeld ?_
    simp only [List.setIfInBounds_toArray, List.set_cons_zero, List.set_cons_succ]
    refine wpAnyH_takeD (i := 22) (oi := { dst := some 36, op := Op.fieldAddr 55 (Operand.tmp 35) 1, type := 0, pos := "chain.go:63", after := #[{ on := 21, ground := Ground.data }, { on := 11, ground := Ground.guard }], guard := some (11, false) }) (d := 36) (v := undef) rfl rfl (by kernel_rfl) (by kernel_rfl) (by kernel_rfl) (fun _ _ _ h => h) (Or.inr ⟨by rfl, rfl⟩) hHeld ?_
    simp only [List.setIfInBounds_toArray, List.set_cons_zero, List.set_cons_succ]
    refine wpAnyH_takeD (i := 23) (oi := { dst := some 37, op := Op.load 3 (Operand.tmp 36), type := 3, pos := "chain.go:63", after := #[{ on := 22, ground := Ground.data }, { on := 11, ground := Ground.guard }], guard := some (11, false) }) (d := 37) (v := undef) rfl rfl (by kernel_rfl) (by kernel_rfl) (by kernel_rfl) (fun _ _ _ h => h) (Or.inr ⟨by rfl, rfl⟩) hHeld ?_
    simp only [List.setIfInBounds_toArray, List.set_cons_zero, List.set_cons_succ]
    refine wpAnyH_takeD (i := 24) (oi := { dst := some 38, op := Op.binOp BinOp.neq 3 (Operand.tmp 34) (Operand.tmp 37) 3, type := 4, pos := "chain.go:63", after := #[{ on := 20, ground := Ground.data }, { on := 23, ground := Ground.data }, { on := 11, ground := Ground.guard }], guard := some (11, false) }) (d := 38) (v := undef) rfl rfl (by kernel_rfl) (by kernel_rfl) (by kernel_rfl) (fun _ _ _ h => h) (Or.inr ⟨by rfl, rfl⟩) hHeld ?_
    simp only [List.setIfInBounds_toArray, List.set_cons_zero, List.set_cons_succ]
    refine wpAnyH_takeD (i := 25) (oi := { dst := some 39, op := Op.pick (Operand.tmp 25) (Operand.const (Value.bool true)) (Operand.tmp 38), type := 4, pos := "chain.go:63", after := #[{ on := 11, ground := Ground.data }, { on := 24, ground := Ground.data }], guard := none }) (d := 39) (v := ?_) rfl rfl (by kernel_rfl) (by kernel_rfl) (by kernel_rfl) (fun _ _ _ h => h) (Or.inl ⟨by rfl, ?_⟩) hHeld ?_
    rotate_left
    · (intro w' hSw; (try dsimp only at hSw); go_simp; (try with_reducible rfl))
    simp only [List.setIfInBounds_toArray, List.set_cons_zero, List.set_cons_succ]
    refine wpAnyH_takeD (i := 26) (oi := { dst := some 4, op := Op.assign (Operand.tmp 39), type := 4, pos := "chain.go:63", after := #[{ on := 25, ground := Ground.data }, { on := 11, ground := Ground.chain }, { on := 0, ground := Ground.phase }, { on := 1, ground := Ground.phase }, { on := 2, ground := Ground.phase }, { on := 3, ground := Ground.phase }, { on := 4, ground := Ground.phase }, { on := 5, ground := Ground.phase }, { on := 6, ground := Ground.phase }, { on := 7, ground := Ground.phase }, { on := 8, ground := Ground.phase }, { on := 9, ground := Ground.phase }, { on := 10, ground := Ground.phase }, { on := 11, ground := Ground.phase }, { on := 12, ground := Ground.phase }, { on := 13, ground := Ground.phase }, { on := 14, ground := Ground.phase }, { on := 15, ground := Ground.phase }, { on := 16, ground := Ground.phase }, { on := 17, ground := Ground.phase }, { on := 18, ground := Ground.phase }, { on := 19, ground := Ground.phase }, { on := 20, ground := Ground.phase }, { on := 21, ground := Ground.phase }, { on := 22, ground := Ground.phase }, { on := 23, ground := Ground.phase }, { on := 24, ground := Ground.phase }, { on := 25, ground := Ground.phase }], guard := none }) (d := 4) (v := ?_) rfl rfl (by kernel_rfl) (by kernel_rfl) (by kernel_rfl) (fun _ _ _ h => h) (Or.inl ⟨by rfl, ?_⟩) hHeld ?_
    rotate_left
    · (intro w' hSw; (try dsimp only at hSw); go_simp; (try with_reducible rfl))
    simp only [List.setIfInBounds_toArray, List.set_cons_zero, List.set_cons_succ]
    refine wpAnyH_done (by kernel_rfl) ?_ _
    go_wp2_with fail
    go_ret
    exact ⟨ret_bool HT.out.symm, HB0.out.drew⟩
end
end Go.Proofs.YtbppaiejpgdbiaaGreat

/- Layer 5 (chain): join. -/
namespace Go.Proofs.YtbppaiejpgdbiaaGreat
open Go.RowKit Go.Maps Go.WideMaps
set_option maxRecDepth 100000
set_option linter.unusedVariables false
set_option linter.unusedSimpArgs false

section
variable {w w' : World} {base tbase tb : Nat} {T : List Ent} {sv : Value} {mb mp cb qb : Nat} {N : List Node} {bel steps : Int} {A : Option Addr} {c g : Nat} {Q : List (Th Wt)} {turn : Int} {Aq : Option Addr} {cq : Nat}
theorem LinkIs.set (h : LinkIs w base cb tb qb N bel steps (some ⟨g, 0, none⟩) c) {N' : List Node} {j : Nat} {u : Int} (hl : N'.length = N.length) (hf : N'.flatMap encN = (N.flatMap encN).set j (.int .i64 u)) : LinkIs (w.setCell ⟨g, j, none⟩ (.int .i64 u)) base cb tb qb N' bel steps (some ⟨g, 0, none⟩) c := by
  refine ⟨?_, ?_, h.le⟩
  · rw [hl]
    exact blk_far h.blk (fun e => row_ne2 h.row h.blk (by decide) (by rw [show cb = g from e])) _
  · rw [hl, hf]
    exact own_set h.row j _
theorem LinkIs.set_steps (h : LinkIs w base cb tb qb N bel steps (some ⟨g, 0, none⟩) c) {u : Int} : LinkIs (w.setCell ⟨cb, 4, none⟩ (.int .i64 u)) base cb tb qb N bel u (some ⟨g, 0, none⟩) c := by
  refine ⟨by simpa using blk_set h.blk 4 (.int .i64 u), ?_, h.le⟩
  exact own_keep h.row ((Keep.refl (fun x => x = cb) w).setCell (p := ⟨cb, 4, none⟩) (.inl rfl) _) (fun x hx e => row_ne2 h.row h.blk (by decide) (by rw [hw.own_addr h.row x hx, e]))
theorem LinkIs.cellAt (h : LinkIs w base cb tb qb N bel steps (some ⟨g, 0, none⟩) c) (j : Nat) (hj : j < N.length * 3) : (∃ v, w.cell? ⟨g, j, none⟩ = some v) ∧ w.frozen? ⟨g, j, none⟩ = false :=
  hw.own_cells h.row (by omega) j hj

set_option maxHeartbeats 4000000 in
theorem join_any (h : ChainIs w base tbase tb T sv mb mp cb qb N bel steps A c Q turn Aq cq) {L1 L2 : List Nd} {i j : Nat} {a b r : Int} (hL : Lives N (L1 ++ ((i : Int), a) :: ((j : Int), b) :: L2)) (hr : 0 ≤ r ∧ r < 1000000)
    (hQ : Q.length + 1 < 1000000000) (ht0 : 0 ≤ turn) (ht1 : turn + 1 < 1000000000000000000) (hs0 : 0 ≤ steps) (hs1 : steps < 1000000000000000000) (R : List (Th Wt) × Int)
    (hR : askQ (pairB T bel) (askL (pairB T bel) Q turn L1 (((i : Int), r) :: L2)).1 (askL (pairB T bel) Q turn L1 (((i : Int), r) :: L2)).2 i r L2 = R) :
    Calls Tryz.prog 182 #[.pointer (some ⟨cb, 0, none⟩), .int .i64 (i : Int), .int .i64 r] w fun e w' => e = .returned (.tuple #[]) ∧ (∃ Aq' cq', ChainIs w' base tbase tb T sv mb mp cb qb (joinN N i j r (kOf L2)) bel (steps + 1) A c R.1 R.2 Aq' cq') ∧ Below base w w' := by
  obtain ⟨ki, e, hi⟩ := hL.at_ L1 i a _ rfl
  have e : i = ki := by omega
  subst e
  obtain ⟨kj, e, hj⟩ := hL.at_ (L1 ++ [((i : Int), a)]) j b L2 (by simp)
  have e : j = kj := by omega
  subst e
  rw [headI_cons] at hi
  rw [← Lives.aft (N := N) (L1 := L1 ++ [((i : Int), a)]) (x := ((j : Int), b)) (L2 := L2) (by simpa using hL)] at hj
  have HLV := Lib.hid (hL.join (r := r) hr)
  have hkm : ∀ m, kOf L2 = some m → m < N.length := by
    intro m hm
    rcases L2 with _ | ⟨y, L2⟩
    · simp [kOf] at hm
    · obtain ⟨k, h1, h2⟩ := hL.place (x := y) (by simp)
      simp only [kOf, List.head?_cons, Option.map_some, Option.some.injEq] at hm
      omega
  have HQL : Hid ((askL (pairB T bel) Q turn L1 (((i : Int), r) :: L2)).1.length < 1000000000 ∧ 0 ≤ (askL (pairB T bel) Q turn L1 (((i : Int), r) :: L2)).2 ∧ (askL (pairB T bel) Q turn L1 (((i : Int), r) :: L2)).2 < 1000000000000000000) := Lib.hid (by
    have := askL_len (P := pairB T bel) (Q := Q) (turn := turn) (p := L1) (q := ((i : Int), r) :: L2)
    omega)
  generalize hk : kOf L2 = k at *
  have hlt := (List.getElem?_eq_some_iff.1 hi).1
  have hlt2 := (List.getElem?_eq_some_iff.1 hj).1
  obtain ⟨g, rfl, a0, a1, a2⟩ := h.lk.at i _ hi
  obtain ⟨g', e, b0, b1, b2⟩ := h.lk.at j _ hj
  injection e with e
  injection e with e
  subst e
  have h1 := blk_cell h.lk.blk 1
  simp only [List.getElem?_toArray, List.getElem?_cons_zero, List.getElem?_cons_succ] at h1 a2 b0 b2
  have p0 : (0 : Int) ≤ (i : Int) := by omega
  have p1 : (i : Int) < (N.length : Int) := by omega
  have p2 : (0 : Int) ≤ (j : Int) := by omega
  have p3 : (j : Int) < (N.length : Int) := by omega
  have z0 := (h.lk.cellAt (j * 3) (by omega)).2
  have HH := Lib.hid h
  have HR := Lib.hid hR
  have HK : Hid (∀ m, k = some m → m < N.length) := Lib.hid hkm
  clear hi hj h a0 a1 b1 hL hR hk hkm
  go_enter Tryz.func182, Tryz.ntmps182
  go_upto_region 3 with fail
  have HL1 := Lib.hid (HH.out.lk.set (by rw [List.length_modify]) (flat_id N (-2) j hlt2))
  have HK1 : Hid (Keep (fun x => x = cb ∨ (some ⟨g, 0, none⟩ : Option Addr) = some ⟨x, 0, none⟩) w (w.setCell ⟨g, j * 3, none⟩ (.int .i64 (-2)))) := Lib.hid ((Keep.refl _ _).setCell (p := ⟨g, j * 3, none⟩) (.inl (.inr rfl)) _)
  clear z0 h1 a2 b0 b2
  generalize w.setCell ⟨g, j * 3, none⟩ (.int .i64 (-2)) = W1 at *
  have h1 := blk_cell HL1.out.blk 1
  simp only [List.getElem?_toArray, List.getElem?_cons_zero, List.getElem?_cons_succ, List.length_modify] at h1
  refine wp_region_D (Ds := [14, 17]) (S := fun V => V.cell? ⟨cb, 1, none⟩ = some (.slice (some ⟨g, 0, none⟩) N.length c)) (by kernel_rfl) (by exact h1) (fun hHeld => ?_)
  (replace HL1 : Hid (LinkIs W1.drew base cb tb qb (N.modify j (idN (-2))) bel steps (some ⟨g, 0, none⟩) c) := Lib.hid (HL1.out.below (B := W1.heap.size) ⟨rfl, rfl, rfl, Nat.le_refl _, fun _ _ => rfl⟩ (Nat.le_refl _))); (replace HK1 := Lib.hid HK1.out.drew); clear h1; generalize W1.drew = W2 at *
  refine wpAnyD_takeP (i := 0) (oi := { dst := some 31, op := Op.move (Operand.tmp 0), type := 248, pos := "chain.go:74", after := #[], guard := none }) (d := 31) (v := ?_) rfl rfl (by kernel_rfl) (by kernel_rfl) (by kernel_rfl) (fun _ _ _ h => h) (Or.inl ⟨by rfl, ?_⟩) ?_
  rotate_left
  · (intro w' _; go_simp; (try with_reducible rfl))
  simp only [List.setIfInBounds_toArray, List.set_cons_zero, List.set_cons_succ]
  refine wpAnyD_takeP (i := 1) (oi := { dst := some 32, op := Op.nilCheck (Operand.tmp 31), type := 0, pos := "chain.go:74", after := #[{ on := 0, ground := Ground.data }], guard := none }) (d := 32) (v := ?_) rfl rfl (by kernel_rfl) (by kernel_rfl) (by kernel_rfl) (fun _ _ _ h => h) (Or.inl ⟨by rfl, ?_⟩) ?_
  rotate_left
  · (intro w' _; go_simp; (try with_reducible rfl))
  simp only [List.setIfInBounds_toArray, List.set_cons_zero, List.set_cons_succ]
  refine wpAnyD_takeP (i := 2) (oi := { dst := some 33, op := Op.fieldAddr 264 (Operand.tmp 32) 1, type := 0, pos := "chain.go:74", after := #[{ on := 1, ground := Ground.data }], guard := none }) (d := 33) (v := ?_) rfl rfl (by kernel_rfl) (by kernel_rfl) (by kernel_rfl) (fun _ _ _ h => h) (Or.inl ⟨by rfl, ?_⟩) ?_
  rotate_left
  · (intro w' _; go_simp; (try with_reducible rfl))
  simp only [List.setIfInBounds_toArray, List.set_cons_zero, List.set_cons_succ]
  refine wpAnyD_takeP (i := 4) (oi := { dst := some 35, op := Op.move (Operand.tmp 1), type := 3, pos := "chain.go:74", after := #[], guard := none }) (d := 35) (v := ?_) rfl rfl (by kernel_rfl) (by kernel_rfl) (by kernel_rfl) (fun _ _ _ h => h) (Or.inl ⟨by rfl, ?_⟩) ?_
  rotate_left
  · (intro w' _; go_simp; (try with_reducible rfl))
  simp only [List.setIfInBounds_toArray, List.set_cons_zero, List.set_cons_succ]
  refine wpAnyD_takeP (i := 5) (oi := { dst := some 36, op := Op.move (Operand.tmp 0), type := 248, pos := "chain.go:74", after := #[], guard := none }) (d := 36) (v := ?_) rfl rfl (by kernel_rfl) (by kernel_rfl) (by kernel_rfl) (fun _ _ _ h => h) (Or.inl ⟨by rfl, ?_⟩) ?_
  rotate_left
  · (intro w' _; go_simp; (try with_reducible rfl))
  simp only [List.setIfInBounds_toArray, List.set_cons_zero, List.set_cons_succ]
  refine wpAnyD_takeP (i := 6) (oi := { dst := some 37, op := Op.nilCheck (Operand.tmp 36), type := 0, pos := "chain.go:74", after := #[{ on := 5, ground := Ground.data }], guard := none }) (d := 37) (v := ?_) rfl rfl (by kernel_rfl) (by kernel_rfl) (by kernel_rfl) (fun _ _ _ h => h) (Or.inl ⟨by rfl, ?_⟩) ?_
  rotate_left
  · (intro w' _; go_simp; (try with_reducible rfl))
  simp only [List.setIfInBounds_toArray, List.set_cons_zero, List.set_cons_succ]
  refine wpAnyD_takeP (i := 7) (oi := { dst := some 38, op := Op.fieldAddr 264 (Operand.tmp 37) 1, type := 0, pos := "chain.go:74", after := #[{ on := 6, ground := Ground.data }], guard := none }) (d := 38) (v := ?_) rfl rfl (by kernel_rfl) (by kernel_rfl) (by kernel_rfl) (fun _ _ _ h => h) (Or.inl ⟨by rfl, ?_⟩) ?_
  rotate_left
  · (intro w' _; go_simp; (try with_reducible rfl))
  simp only [List.setIfInBounds_toArray, List.set_cons_zero, List.set_cons_succ]
  refine wpAnyD_takeP (i := 9) (oi := { dst := some 40, op := Op.move (Operand.tmp 1), type := 3, pos := "chain.go:74", after := #[{ on := 14, ground := Ground.gcOnly Departure.lateStores }], guard := none }) (d := 40) (v := ?_) rfl rfl (by kernel_rfl) (by kernel_rfl) (by kernel_rfl) (fun _ _ _ h => h) (Or.inl ⟨by rfl, ?_⟩) ?_
  rotate_left
  · (intro w' _; go_simp; (try with_reducible rfl))
  simp only [List.setIfInBounds_toArray, List.set_cons_zero, List.set_cons_succ]
  refine wpAnyD_takeP (i := 10) (oi := { dst := some 41, op := Op.move (Operand.tmp 2), type := 3, pos := "chain.go:74", after := #[], guard := none }) (d := 41) (v := ?_) rfl rfl (by kernel_rfl) (by kernel_rfl) (by kernel_rfl) (fun _ _ _ h => h) (Or.inl ⟨by rfl, ?_⟩) ?_
  rotate_left
  · (intro w' _; go_simp; (try with_reducible rfl))
  simp only [List.setIfInBounds_toArray, List.set_cons_zero, List.set_cons_succ]
  refine wpAnyD_takeP (i := 11) (oi := { dst := some 42, op := Op.move (Operand.tmp 7), type := 3, pos := "chain.go:74", after := #[{ on := 14, ground := Ground.gcOnly Departure.lateStores }], guard := none }) (d := 42) (v := ?_) rfl rfl (by kernel_rfl) (by kernel_rfl) (by kernel_rfl) (fun _ _ _ h => h) (Or.inl ⟨by rfl, ?_⟩) ?_
  rotate_left
  · (intro w' _; go_simp; (try with_reducible rfl))
  simp only [List.setIfInBounds_toArray, List.set_cons_zero, List.set_cons_succ]
  refine wpAnyD_takeD (i := 3) (oi := { dst := some 34, op := Op.load 262 (Operand.tmp 33), type := 262, pos := "chain.go:74", after := #[{ on := 2, ground := Ground.data }], guard := none }) (d := 34) (v := ?_) rfl rfl (by kernel_rfl) (by kernel_rfl) (by kernel_rfl) (by kernel_rfl) (fun _ _ _ h => h) (Or.inl ⟨by rfl, ?_⟩) hHeld ?_
  rotate_left
  · (intro w' hSw; (try dsimp only at hSw); go_simp; (try with_reducible rfl))
  simp only [List.setIfInBounds_toArray, List.set_cons_zero, List.set_cons_succ]
  refine wpAnyD_takeD (i := 8) (oi := { dst := some 39, op := Op.load 262 (Operand.tmp 38), type := 262, pos := "chain.go:74", after := #[{ on := 7, ground := Ground.data }], guard := none }) (d := 39) (v := ?_) rfl rfl (by kernel_rfl) (by kernel_rfl) (by kernel_rfl) (by kernel_rfl) (fun _ _ _ h => h) (Or.inl ⟨by rfl, ?_⟩) hHeld ?_
  rotate_left
  · (intro w' hSw; (try dsimp only at hSw); go_simp; (try with_reducible rfl))
  simp only [List.setIfInBounds_toArray, List.set_cons_zero, List.set_cons_succ]
  refine wpAnyD_takeP (i := 12) (oi := { dst := some 43, op := Op.indexAddr 262 (Operand.tmp 34) (Operand.tmp 35), type := 0, pos := "chain.go:74", after := #[{ on := 3, ground := Ground.data }, { on := 4, ground := Ground.data }, { on := 0, ground := Ground.phase }, { on := 1, ground := Ground.phase }, { on := 2, ground := Ground.phase }, { on := 3, ground := Ground.phase }, { on := 4, ground := Ground.phase }, { on := 5, ground := Ground.textOnly Departure.lateStores }, { on := 6, ground := Ground.textOnly Departure.lateStoresUnsure }, { on := 7, ground := Ground.textOnly Departure.lateStoresUnsure }, { on := 8, ground := Ground.phase }, { on := 9, ground := Ground.textOnly Departure.lateStores }, { on := 10, ground := Ground.phase }, { on := 11, ground := Ground.textOnly Departure.lateStores }], guard := none }) (d := 43) (v := ?_) rfl rfl (by kernel_rfl) (by kernel_rfl) (by kernel_rfl) (fun _ _ _ h => h) (Or.inl ⟨by rfl, ?_⟩) ?_
  rotate_left
  · (intro w' _; go_simp; (try with_reducible rfl))
  simp only [List.setIfInBounds_toArray, List.set_cons_zero, List.set_cons_succ]
  refine wpAnyD_takeP (i := 13) (oi := { dst := some 44, op := Op.fieldAddr 266 (Operand.tmp 43) 0, type := 0, pos := "chain.go:74", after := #[{ on := 12, ground := Ground.data }, { on := 0, ground := Ground.phase }, { on := 1, ground := Ground.phase }, { on := 2, ground := Ground.phase }, { on := 3, ground := Ground.phase }, { on := 4, ground := Ground.phase }, { on := 5, ground := Ground.textOnly Departure.lateStores }, { on := 6, ground := Ground.textOnly Departure.lateStoresUnsure }, { on := 7, ground := Ground.textOnly Departure.lateStoresUnsure }, { on := 8, ground := Ground.phase }, { on := 9, ground := Ground.textOnly Departure.lateStores }, { on := 10, ground := Ground.phase }, { on := 11, ground := Ground.textOnly Departure.lateStores }], guard := none }) (d := 44) (v := ?_) rfl rfl (by kernel_rfl) (by kernel_rfl) (by kernel_rfl) (fun _ _ _ h => h) (Or.inl ⟨by rfl, ?_⟩) ?_
  rotate_left
  · (intro w' _; go_simp; (try with_reducible rfl))
  simp only [List.setIfInBounds_toArray, List.set_cons_zero, List.set_cons_succ]
  refine wpAnyD_last (D := 14) (by decide) (o := { dst := none, op := Op.store 3 (Operand.tmp 44) (Operand.tmp 41), type := 0, pos := "chain.go:74", after := #[{ on := 13, ground := Ground.data }, { on := 10, ground := Ground.data }, { on := 0, ground := Ground.phase }, { on := 1, ground := Ground.phase }, { on := 2, ground := Ground.phase }, { on := 3, ground := Ground.phase }, { on := 4, ground := Ground.phase }, { on := 5, ground := Ground.textOnly Departure.lateStores }, { on := 6, ground := Ground.textOnly Departure.lateStoresUnsure }, { on := 7, ground := Ground.textOnly Departure.lateStoresUnsure }, { on := 8, ground := Ground.phase }, { on := 9, ground := Ground.textOnly Departure.lateStores }, { on := 10, ground := Ground.phase }, { on := 11, ground := Ground.textOnly Departure.lateStores }], guard := none }) (by kernel_rfl) rfl (by rfl) (fun K hK => ?_)
  obtain ⟨⟨v0, c0⟩, z0⟩ := HL1.out.cellAt (i * 3) (by rw [List.length_modify]; omega); go_simp; have HL2 := Lib.hid (HL1.out.set (N' := (N.modify j (idN (-2))).modify i (idN r)) (by simp) (flat_id (N.modify j (idN (-2))) r i (by rw [List.length_modify]; exact hlt))); have HK2 := Lib.hid (HK1.out.setCell (p := ⟨g, i * 3, none⟩) (.inl (.inr rfl)) (.int .i64 r)); clear c0 z0; generalize W2.setCell ⟨g, i * 3, none⟩ (.int .i64 r) = W3 at *
  refine hK.out _ _ ?_
  clear hK K
  try simp only [Act.put, List.setIfInBounds_toArray, List.set_cons_zero, List.set_cons_succ]
  refine wpAnyD_takeP (i := 15) (oi := { dst := some 45, op := Op.indexAddr 262 (Operand.tmp 39) (Operand.tmp 40), type := 0, pos := "chain.go:74", after := #[{ on := 8, ground := Ground.data }, { on := 9, ground := Ground.data }, { on := 0, ground := Ground.phase }, { on := 1, ground := Ground.phase }, { on := 2, ground := Ground.phase }, { on := 3, ground := Ground.phase }, { on := 4, ground := Ground.phase }, { on := 5, ground := Ground.phase }, { on := 6, ground := Ground.phase }, { on := 7, ground := Ground.phase }, { on := 8, ground := Ground.phase }, { on := 9, ground := Ground.phase }, { on := 10, ground := Ground.phase }, { on := 11, ground := Ground.phase }, { on := 12, ground := Ground.phase }, { on := 13, ground := Ground.phase }, { on := 14, ground := Ground.phase }], guard := none }) (d := 45) (v := ?_) rfl rfl (by kernel_rfl) (by kernel_rfl) (by kernel_rfl) (fun _ _ _ h => h) (Or.inl ⟨by rfl, ?_⟩) ?_
  rotate_left
  · (intro w' _; go_simp; (try with_reducible rfl))
  simp only [List.setIfInBounds_toArray, List.set_cons_zero, List.set_cons_succ]
  refine wpAnyD_takeP (i := 16) (oi := { dst := some 46, op := Op.fieldAddr 266 (Operand.tmp 45) 2, type := 0, pos := "chain.go:74", after := #[{ on := 15, ground := Ground.data }, { on := 0, ground := Ground.phase }, { on := 1, ground := Ground.phase }, { on := 2, ground := Ground.phase }, { on := 3, ground := Ground.phase }, { on := 4, ground := Ground.phase }, { on := 5, ground := Ground.phase }, { on := 6, ground := Ground.phase }, { on := 7, ground := Ground.phase }, { on := 8, ground := Ground.phase }, { on := 9, ground := Ground.phase }, { on := 10, ground := Ground.phase }, { on := 11, ground := Ground.phase }, { on := 12, ground := Ground.phase }, { on := 13, ground := Ground.phase }, { on := 14, ground := Ground.phase }], guard := none }) (d := 46) (v := ?_) rfl rfl (by kernel_rfl) (by kernel_rfl) (by kernel_rfl) (fun _ _ _ h => h) (Or.inl ⟨by rfl, ?_⟩) ?_
  rotate_left
  · (intro w' _; go_simp; (try with_reducible rfl))
  simp only [List.setIfInBounds_toArray, List.set_cons_zero, List.set_cons_succ]
  refine wpAnyD_last (D := 17) (by decide) (o := { dst := none, op := Op.store 3 (Operand.tmp 46) (Operand.tmp 42), type := 0, pos := "chain.go:74", after := #[{ on := 16, ground := Ground.data }, { on := 11, ground := Ground.data }, { on := 14, ground := Ground.chain }, { on := 0, ground := Ground.phase }, { on := 1, ground := Ground.phase }, { on := 2, ground := Ground.phase }, { on := 3, ground := Ground.phase }, { on := 4, ground := Ground.phase }, { on := 5, ground := Ground.phase }, { on := 6, ground := Ground.phase }, { on := 7, ground := Ground.phase }, { on := 8, ground := Ground.phase }, { on := 9, ground := Ground.phase }, { on := 10, ground := Ground.phase }, { on := 11, ground := Ground.phase }, { on := 12, ground := Ground.phase }, { on := 13, ground := Ground.phase }, { on := 14, ground := Ground.phase }], guard := none }) (by kernel_rfl) rfl (by rfl) (fun K hK => ?_)
  obtain ⟨⟨v0, c0⟩, z0⟩ := HL2.out.cellAt (i * 3 + 2) (by rw [List.length_modify, List.length_modify]; omega); go_simp; have HL3 := Lib.hid (HL2.out.set (N' := ((N.modify j (idN (-2))).modify i (idN r)).modify i (nextN (aftI k))) (by simp) (flat_next ((N.modify j (idN (-2))).modify i (idN r)) (aftI k) i (by rw [List.length_modify, List.length_modify]; exact hlt))); have HK3 := Lib.hid (HK2.out.setCell (p := ⟨g, i * 3 + 2, none⟩) (.inl (.inr rfl)) (.int .i64 (aftI k))); clear c0 z0; generalize W3.setCell ⟨g, i * 3 + 2, none⟩ (.int .i64 (aftI k)) = W4 at *
  refine hK.out _ _ ?_
  clear hK K
  try simp only [Act.put, List.setIfInBounds_toArray, List.set_cons_zero, List.set_cons_succ]
  refine wpAnyD_done (by kernel_rfl) ?_ _
  cases k with
  | none =>
    simp only [aftI] at *
    have HL4 : Hid (LinkIs W4 base cb tb qb (joinN N i j r none) bel steps (some ⟨g, 0, none⟩) c) := Lib.hid HL3.out
    have HK4 := HK3
    clear HL1 HL2 HL3 HK1 HK2 HK3
    go_upto_region 6 with fail
    have g4 := blk_cell HL4.out.blk 4
    have z4 := blk_froz HL4.out.blk 4
    simp only [List.getElem?_toArray, List.getElem?_cons_zero, List.getElem?_cons_succ] at g4
    have ws : IntKind.i64.wrap (steps + 1) = steps + 1 := IntWalk.i64_in _ (by omega)
    go_upto_region 7 with fail
    clear ws
    have HL5 := Lib.hid (HL4.out.set_steps (u := steps + 1))
    have HK5 := Lib.hid (HK4.out.setCell (p := ⟨cb, 4, none⟩) (.inl (.inl rfl)) (.int .i64 (steps + 1)))
    clear g4 z4
    generalize W4.setCell ⟨cb, 4, none⟩ (.int .i64 (steps + 1)) = W5 at *
    obtain ⟨hC, hB⟩ := HH.out.link HL5.out HK5.out
    have HC := Lib.hid hC
    have HB := Lib.hid hB
    clear hC hB
    have hlv := HLV.out
    obtain ⟨ki, e, hki⟩ := hlv.at_ L1 i r L2 rfl
    have e : i = ki := by omega
    subst e
    obtain ⟨g', e, a0, a1, a2⟩ := HL5.out.at i _ hki
    injection e with e
    injection e with e
    subst e
    have h1 := blk_cell HL5.out.blk 1
    simp only [List.getElem?_toArray, List.getElem?_cons_zero, List.getElem?_cons_succ] at h1 a1
    rw [joinN_len] at h1
    clear hki hlv a0 a2
    go_wp2_with fail
    refine (asks_ahead HC.out HLV.out (by omega) ht0 (by omega)).mono ?_
    rintro e W6 ⟨rfl, ⟨Aq6, cq6, h6⟩, hb6⟩
    have H6 := Lib.hid h6
    have HB6 := Lib.hid (HB.out.trans hb6)
    clear h6 hb6
    go_wp2_with fail
    refine (asks_live H6.out HLV.out HQL.out.1 HQL.out.2.1 HQL.out.2.2).mono ?_
    rintro e W7 ⟨rfl, ⟨Aq7, cq7, h7⟩, hb7⟩
    have H7 := Lib.hid h7
    have HB7 := Lib.hid (HB6.out.trans hb7)
    clear h7 hb7
    go_wp2_with fail
    go_end0
    exact ⟨rfl, ⟨Aq7, cq7, by rw [← HR.out]; exact H7.out⟩, HB7.out⟩
  | some m =>
    have hm := HK.out m rfl
    simp only [aftI] at *
    have q1 : ((m : Int) != -1) = true := by simp
    have p4 : (0 : Int) ≤ (m : Int) := by omega
    have p5 : (m : Int) < (N.length : Int) := by omega
    have h1 := blk_cell HL3.out.blk 1
    simp only [List.getElem?_toArray, List.getElem?_cons_zero, List.getElem?_cons_succ, List.length_modify] at h1
    obtain ⟨⟨v0, c0⟩, z0⟩ := HL3.out.cellAt (m * 3 + 1) (by rw [List.length_modify, List.length_modify, List.length_modify]; omega)
    go_upto_region 6 with fail
    have HL4 : Hid (LinkIs (W4.setCell ⟨g, m * 3 + 1, none⟩ (.int .i64 (i : Int))) base cb tb qb (joinN N i j r (some m)) bel steps (some ⟨g, 0, none⟩) c) := Lib.hid (HL3.out.set (by rw [joinN_len]; simp) (flat_ahead (((N.modify j (idN (-2))).modify i (idN r)).modify i (nextN (aftI (some m)))) (i : Int) m (by simp only [List.length_modify]; exact hm)))
    have HK4 := Lib.hid (HK3.out.setCell (p := ⟨g, m * 3 + 1, none⟩) (.inl (.inr rfl)) (.int .i64 (i : Int)))
    clear HL1 HL2 HL3 HK1 HK2 HK3 c0 z0 h1
    generalize W4.setCell ⟨g, m * 3 + 1, none⟩ (.int .i64 (i : Int)) = W4 at *
    go_upto_region 6 with fail
    have g4 := blk_cell HL4.out.blk 4
    have z4 := blk_froz HL4.out.blk 4
    simp only [List.getElem?_toArray, List.getElem?_cons_zero, List.getElem?_cons_succ] at g4
    have ws : IntKind.i64.wrap (steps + 1) = steps + 1 := IntWalk.i64_in _ (by omega)
    go_upto_region 7 with fail
    clear ws
    have HL5 := Lib.hid (HL4.out.set_steps (u := steps + 1))
    have HK5 := Lib.hid (HK4.out.setCell (p := ⟨cb, 4, none⟩) (.inl (.inl rfl)) (.int .i64 (steps + 1)))
    clear g4 z4
    generalize W4.setCell ⟨cb, 4, none⟩ (.int .i64 (steps + 1)) = W5 at *
    obtain ⟨hC, hB⟩ := HH.out.link HL5.out HK5.out
    have HC := Lib.hid hC
    have HB := Lib.hid hB
    clear hC hB
    have hlv := HLV.out
    obtain ⟨ki, e, hki⟩ := hlv.at_ L1 i r L2 rfl
    have e : i = ki := by omega
    subst e
    obtain ⟨g', e, a0, a1, a2⟩ := HL5.out.at i _ hki
    injection e with e
    injection e with e
    subst e
    have h1 := blk_cell HL5.out.blk 1
    simp only [List.getElem?_toArray, List.getElem?_cons_zero, List.getElem?_cons_succ] at h1 a1
    rw [joinN_len] at h1
    clear hki hlv a0 a2
    go_wp2_with fail
    refine (asks_ahead HC.out HLV.out (by omega) ht0 (by omega)).mono ?_
    rintro e W6 ⟨rfl, ⟨Aq6, cq6, h6⟩, hb6⟩
    have H6 := Lib.hid h6
    have HB6 := Lib.hid (HB.out.trans hb6)
    clear h6 hb6
    go_wp2_with fail
    refine (asks_live H6.out HLV.out HQL.out.1 HQL.out.2.1 HQL.out.2.2).mono ?_
    rintro e W7 ⟨rfl, ⟨Aq7, cq7, h7⟩, hb7⟩
    have H7 := Lib.hid h7
    have HB7 := Lib.hid (HB6.out.trans hb7)
    clear h7 hb7
    go_wp2_with fail
    go_end0
    exact ⟨rfl, ⟨Aq7, cq7, by rw [← HR.out]; exact H7.out⟩, HB7.out⟩
end
end Go.Proofs.YtbppaiejpgdbiaaGreat

/- Layer 5 (chain): run. -/
namespace Go.Proofs.YtbppaiejpgdbiaaGreat
open Go.RowKit Go.Maps Go.WideMaps
set_option maxRecDepth 100000
set_option linter.unusedVariables false
set_option linter.unusedSimpArgs false

theorem stale_spec {N : List Node} {L : List Nd} (hL : Lives N L) {k : Nat} {y : Node} (hk : N[k]? = some y) {a b : Int} (ha : 0 ≤ a) :
    (y.1 = a → y.2.2 ≠ -1 → ∃ j : Nat, y.2.2 = j ∧ ∃ z, N[j]? = some z) ∧ (staleB N y a b = true → ∀ p j q, L ≠ p ++ ((k : Int), a) :: (j, b) :: q) ∧ (staleB N y a b = false → ∃ p q, ∃ j : Nat, L = p ++ ((k : Int), a) :: ((j : Int), b) :: q) := by
  by_cases hal : ∃ c, ((k : Int), c) ∈ L
  · obtain ⟨c, hc⟩ := hal
    obtain ⟨p, q, rfl⟩ := List.append_of_mem hc
    obtain ⟨k', e, hk'⟩ := hL.at_ p k c q rfl
    have e : k = k' := by omega
    subst e
    rw [hk] at hk'
    have hy : y = (c, lastI p, headI q) := Option.some.inj hk'
    subst hy
    rcases q with _ | ⟨⟨j, d⟩, q⟩
    · refine ⟨fun _ h => absurd headI_nil h, fun _ p' j q' e => ?_, fun h => ?_⟩
      · obtain ⟨_, _, e2⟩ := place_once hL.srt e
        simp at e2
      · simp [staleB, headI_nil] at h
    · obtain ⟨j', rfl, hj'⟩ := hL.at_ (p ++ [((k : Int), c)]) j d q (by simp)
      refine ⟨fun _ _ => ⟨j', rfl, _, hj'⟩, fun h p' j q' e => ?_, fun h => ?_⟩
      · obtain ⟨_, e1, e2⟩ := place_once hL.srt e
        simp at e2
        obtain ⟨⟨e2, e3⟩, _⟩ := e2
        simp [staleB, headI_cons, hj', e1, e3] at h
      · by_cases h1 : c = a
        · subst h1
          simp [staleB, headI_cons, hj'] at h
          exact ⟨p, q, j', by rw [h]⟩
        · simp [staleB, h1] at h
  · have hd := hL.dead k y hk (fun c hc => hal ⟨c, hc⟩)
    have hne : y.1 ≠ a := by omega
    refine ⟨fun h => absurd h hne, fun _ p j q e => hal ⟨a, by rw [e]; simp⟩, fun h => ?_⟩
    simp [staleB, hne] at h

section
variable {w w' : World} {base tbase tb : Nat} {T : List Ent} {sv : Value} {mb mp cb qb : Nat} {N : List Node} {bel steps : Int} {A : Option Addr} {c g : Nat} {Q : List (Th Wt)} {turn : Int} {Aq : Option Addr} {cq : Nat}
structure RunIs (w W : World) (base tbase tb : Nat) (T : List Ent) (sv : Value) (mb mp cb qb : Nat) (bel : Int) (A : Option Addr) (c : Nat) (M : List (Int × Int)) (ids0 : List Int) (n : Nat) (N : List Node) (L : List Nd) (Q : List (Th Wt)) (turn steps : Int) (Aq : Option Addr) (cq : Nat) : Prop where
  ch : ChainIs W base tbase tb T sv mb mp cb qb N bel steps A c Q turn Aq cq
  run : RunS (pairB T bel) M ids0 N L Q turn steps n
  bl : Below base w W

set_option maxHeartbeats 4000000 in
theorem run_any {L : List Nd} {M : List (Int × Int)} {ids0 : List Int} {n : Nat} (h : ChainIs w base tbase tb T sv mb mp cb qb N bel steps A c Q turn Aq cq) (hr : RunS (pairB T bel) M ids0 N L Q turn steps n) (hn : n ≤ 100000000)
    (hP : ∀ a b r, pairB T bel a b = some r ↔ ∃ k : Nat, M[k]? = some (a, b) ∧ r = 256 + k) (hM : OkM M 256) (hrs : ∀ a b r, pairB T bel a b = some r → r < 1000000) :
    Calls Tryz.prog 168 #[.pointer (some ⟨cb, 0, none⟩)] w fun e w' => e = .returned (.tuple #[]) ∧ ∃ N' L' turn' steps' Aq' cq', RunIs w w' base tbase tb T sv mb mp cb qb bel A c M ids0 n N' L' [] turn' steps' Aq' cq' := by
  have HS : Hid (RunIs w w base tbase tb T sv mb mp cb qb bel A c M ids0 n N L Q turn steps Aq cq) := Lib.hid ⟨h, hr, Below.refl _ _⟩
  have HPP := Lib.hid hP
  have HM := Lib.hid hM
  have HRS := Lib.hid hrs
  clear h hr hP hM hrs
  go_enter Tryz.func168, Tryz.ntmps168
  go_wp2_with fail
  go_loopg [] (Q.length + 3 * L.length) (fun m W => ∃ N' L' Q' turn' steps' Aq' cq', Q'.length + 3 * L'.length ≤ m ∧ RunIs w W base tbase tb T sv mb mp cb qb bel A c M ids0 n N' L' Q' turn' steps' Aq' cq')
  case atStart => exact ⟨N, L, Q, turn, steps, Aq, cq, Nat.le_refl _, HS.out⟩
  case round =>
    obtain ⟨N', L', Q', turn', steps', Aq', cq', hm, hW⟩ := hrel
    clear HS
    rename World => W
    have HW := Lib.hid hW
    have HMM := Lib.hid hm
    have hsz := hW.run.size
    have htn := hW.run.turn
    have hst := hW.run.steps
    have HSZ := Lib.hid hsz
    have HTN := Lib.hid htn
    have HST := Lib.hid hst
    have h2 := blk_cell hW.ch.lk.blk 2
    simp only [List.getElem?_toArray, List.getElem?_cons_zero, List.getElem?_cons_succ] at h2
    clear hW hm hsz htn hst
    go_wp2_with fail
    by_cases h0 : 0 < Q'.length
    · refine (hw.pop_h HW.out.ch.hp h0 (by have := HSZ.out; omega)).mono ?_
      rintro e w4 ⟨rfl, h4, hk4⟩
      obtain ⟨hC, hB⟩ := HW.out.ch.queue h4 hk4
      have HC := Lib.hid hC
      have HB := Lib.hid (HW.out.bl.trans hB)
      have hent := HW.out.run.q.ent Q'[0] (List.getElem_mem _)
      obtain ⟨k, hk1, hk2, hk3⟩ := HW.out.run.q.pos Q'[0] (List.getElem_mem _)
      have HRR := Lib.hid (HRS.out _ _ _ hent.1)
      obtain ⟨x, hx⟩ : ∃ x, Q'[0].x = x := ⟨_, rfl⟩
      have HX := Lib.hid hx
      rw [hx] at hk1 hk3 ⊢
      clear hx hent h4 hk4 hC hB h2
      obtain ⟨xi, xa, xb⟩ := x
      simp only at hk1 hk3
      subst hk1
      have hkN : k < N'.length := by rw [HW.out.run.nlen]; exact hk2
      have hy := List.getElem?_eq_getElem hkN
      obtain ⟨hs1, hs2, hs3⟩ := stale_spec HW.out.run.lives hy (b := xb) hk3
      have HST2 := Lib.hid (by simpa only [hw.wtV] using stale_any (HC.out.below ((Below.refl w4.heap.size w4).alloc (Nat.le_refl _) (.cells #[.int .i64 (k : Int), .int .i64 xa, .int .i64 xb] 261)) (Nat.le_refl _)) k _ xa xb hy hs1)
      have HS2 := Lib.hid hs2
      have HS3 := Lib.hid hs3
      replace HB := Lib.hid (HB.out.alloc HC.out.sizes (.cells #[.int .i64 (k : Int), .int .i64 xa, .int .i64 xb] 261))
      replace HC := Lib.hid (HC.out.below ((Below.refl w4.heap.size w4).alloc (Nat.le_refl _) (.cells #[.int .i64 (k : Int), .int .i64 xa, .int .i64 xb] 261)) (Nat.le_refl _))
      have HN := Lib.hid (blk_new w4 (.cells #[.int .i64 (k : Int), .int .i64 xa, .int .i64 xb] 261))
      clear hs1 hs2 hs3 hy
      unfold hw.wtV
      simp only
      go_upto_region 2 with fail
      have HB2 := Lib.hid HB.out
      have n0 := blk_cell HN.out 0
      have n1 := blk_cell HN.out 1
      have n2 := blk_cell HN.out 2
      simp only [List.getElem?_toArray, List.getElem?_cons_zero, List.getElem?_cons_succ] at n0 n1 n2
      generalize w4.heap.size = g2 at *
      generalize w4.alloc (.cells #[.int .i64 (k : Int), .int .i64 xa, .int .i64 xb] 261) = w5 at *
      obtain ⟨B, hB⟩ : ∃ B, staleB N' N'[k] xa xb = B := ⟨_, rfl⟩
      rw [hB] at HST2 HS2 HS3
      clear hB
      go_wp2_with fail
      refine HST2.out.mono ?_
      rintro e w6 ⟨rfl, hb6⟩
      clear HST2
      have n60 := below_cell hb6 (Nat.le_refl _) n0
      have HC6 := Lib.hid (HC.out.below hb6 (Nat.le_refl _))
      have HB6 := Lib.hid (HB.out.trans (hb6.mono HC.out.sizes))
      clear hb6 n0 n1 n2 HC HB HB2 HN
      cases B with
      | true =>
        have HNEW := Lib.hid (HW.out.run.drop h0 (by rw [HX.out]; exact HS2.out rfl))
        have HPL := Lib.hid (pop_len Q')
        go_wp2_with fail
        go_roundg (gk - 1)
        case measure => have := HMM.out; omega
        case rel => exact ⟨N', L', popT Q', turn', steps', Aq', cq', by have := HMM.out; have := HPL.out; omega, HC6.out, HNEW.out, HB6.out⟩
      | false =>
        obtain ⟨L1, L2, j, hL⟩ := HS3.out rfl
        subst hL
        have HNEW := Lib.hid (HW.out.run.join h0 HX.out HPP.out HM.out HRR.out)
        have hr0 : 0 ≤ Q'[0].r := by
          obtain ⟨_, _, e⟩ := (HPP.out _ _ _).1 (HW.out.run.q.ent Q'[0] (List.getElem_mem _)).1
          omega
        have HJ := Lib.hid (join_any HC6.out HW.out.run.lives ⟨hr0, HRR.out⟩ (by rw [pop_len]; have := HSZ.out; omega) (by have := HTN.out; omega) (by have := HTN.out; omega) HW.out.run.pos (by have := HST.out; omega) _ rfl)
        have HPL := Lib.hid (pop_len Q')
        have HQ3 := Lib.hid (askL_len (P := pairB T bel) (Q := popT Q') (turn := turn') (p := L1) (q := ((k : Int), Q'[0].r) :: L2))
        generalize hR2 : askL (pairB T bel) (popT Q') turn' L1 (((k : Int), Q'[0].r) :: L2) = R2 at *
        have HQ4 := Lib.hid (askQ_len (P := pairB T bel) (Q := R2.1) (turn := R2.2) (i := (k : Int)) (a := Q'[0].r) (q := L2))
        generalize hR3 : askQ (pairB T bel) R2.1 R2.2 (k : Int) Q'[0].r L2 = R3 at *
        generalize Q'[0].r = rr at *
        clear hR2 hR3 hr0 HS2 HS3
        go_wp2_with fail
        refine HJ.out.mono ?_
        rintro e w7 ⟨rfl, ⟨Aq7, cq7, h7⟩, hb7⟩
        have H7 := Lib.hid h7
        have HB7 := Lib.hid (HB6.out.trans hb7)
        clear h7 hb7 HJ
        go_wp2_with fail
        go_roundg (gk - 1)
        case measure => have := HMM.out; omega
        case rel => exact ⟨_, _, R3.1, R3.2, _, Aq7, cq7, by have := HMM.out; have := HPL.out; have := HQ3.out; have := HQ4.out; simp only [List.length_append, List.length_cons] at *; omega, H7.out, HNEW.out, HB7.out⟩
    · have e0 : Q' = [] := List.eq_nil_of_length_eq_zero (by omega)
      subst e0
      refine (hw.pop_none HW.out.ch.hp).mono ?_
      rintro e w4 ⟨rfl, hb4⟩
      have HF : Hid (RunIs w (w4.alloc (.cells #[.int .i64 0, .int .i64 0, .int .i64 0] 261)) base tbase tb T sv mb mp cb qb bel A c M ids0 n N' L' [] turn' steps' Aq' cq') := Lib.hid (by
        have hb5 := hb4.alloc hb4.size (.cells #[.int .i64 0, .int .i64 0, .int .i64 0] 261)
        exact ⟨HW.out.ch.below hb5 (Nat.le_refl _), HW.out.run, HW.out.bl.trans (hb5.mono HW.out.ch.sizes)⟩)
      clear hb4 h2
      unfold hw.wtV
      go_wp2_with fail
      (try simp only [Exit.inBlock, Exit.then])
      refine bodyPost_ret (results_none rfl _ _ _) rfl ?_
      exact ⟨rfl, _, _, _, _, _, _, HF.out⟩
end
end Go.Proofs.YtbppaiejpgdbiaaGreat

/- Layer 5 (chain): ids. -/
namespace Go.Proofs.YtbppaiejpgdbiaaGreat
open Go.RowKit Go.Maps Go.WideMaps
set_option maxRecDepth 100000
set_option linter.unusedVariables false
set_option linter.unusedSimpArgs false

theorem info_int5 : (Tryz.prog.info? 3).map (fun i => (i.zero, i.size, i.bytes)) = some (some (.int .i64 0), 1, 8) := by kernel_rfl
/-- numbers in a row of the call's own -/
def IntsIs (w : World) (base : Nat) (v : Value) (l : List Int) : Prop := ∃ A c, v = .slice A l.length c ∧ w.ownsRow base 3 1 (.slice A l.length c) l.length (l.map (Value.int .i64))
section
variable {w w' : World} {base tbase tb : Nat} {T : List Ent} {sv : Value} {mb mp cb qb : Nat} {N : List Node} {bel steps : Int} {A : Option Addr} {c g : Nat} {Q : List (Th Wt)} {turn : Int} {Aq : Option Addr} {cq : Nat}
structure IdsIs (w W : World) (base cb tb qb : Nat) (N : List Node) (bel steps : Int) (A : Option Addr) (c : Nat) (p : List Nd) (A2 : Option Addr) (c2 : Nat) : Prop where
  lk : LinkIs W base cb tb qb N bel steps A c
  row : W.ownsRow w.heap.size 3 1 (.slice A2 p.length c2) p.length ((idsC p).map (Value.int .i64))
  bl : Below w.heap.size w W
theorem ids_none (h : LinkIs w base cb tb qb [] bel steps A c) :
    Calls Tryz.prog 169 #[.pointer (some ⟨cb, 0, none⟩)] w fun e w' => (∃ v, e = .returned v ∧ IntsIs w' w.heap.size v []) ∧ Below w.heap.size w w' := by
  have h1 := blk_cell h.blk 1
  simp only [List.getElem?_toArray, List.getElem?_cons_zero, List.getElem?_cons_succ, List.length_nil] at h1
  clear h
  go_enter Tryz.func169, Tryz.ntmps169
  go_wp2_with fail
  go_loopg [3, 4] 0 (fun n u i W => u = .slice none 0 0 ∧ i = .int .i64 0 ∧ W = w)
  case atStart => exact ⟨rfl, rfl, rfl⟩
  case round =>
    obtain ⟨rfl, rfl, rfl⟩ := hrel
    go_wp2_with fail
    go_ret
    exact ⟨⟨_, rfl, none, 0, rfl, own_nil _ _ _ _⟩, Below.refl _ _⟩
set_option maxHeartbeats 4000000 in
theorem ids_any {L : List Nd} (h : LinkIs w base cb tb qb N bel steps A c) (hL : Lives N L) (hN : N ≠ []) (hn : L.length ≤ 100000000) :
    Calls Tryz.prog 169 #[.pointer (some ⟨cb, 0, none⟩)] w fun e w' => (∃ v, e = .returned v ∧ IntsIs w' w.heap.size v (idsC L)) ∧ Below w.heap.size w w' := by
  have HS : Hid (IdsIs w w base cb tb qb N bel steps A c [] none 0) := Lib.hid ⟨h, by simpa [idsC] using own_nil _ _ _ _, Below.refl _ _⟩
  have HLT := Lib.hid (blk_lt h.blk)
  have HAT : Hid (∀ g, A = some ⟨g, 0, none⟩ → g < w.heap.size) := Lib.hid (fun g hg => hw.own_lt h.row g (hw.addr_own hg))
  have HL := Lib.hid hL
  have hN0 : 0 < N.length := by
    rcases N with _ | ⟨x, N⟩
    · exact absurd rfl hN
    · simp
  obtain ⟨a0, q0, e0⟩ := hL.first hN
  have HE := Lib.hid e0
  have h0i : (0 : Int) = headI L := by rw [e0]; rfl
  have H0 := Lib.hid h0i
  clear h hL hN e0 h0i
  go_enter Tryz.func169, Tryz.ntmps169
  go_wp2_with fail
  go_loopg [3, 4] L.length (fun n u i W => ∃ p q A2 c2, L = p ++ q ∧ q.length = n ∧ u = .slice A2 p.length c2 ∧ i = .int .i64 (headI q) ∧ IdsIs w W base cb tb qb N bel steps A c p A2 c2)
  case atStart => exact ⟨[], L, none, 0, rfl, rfl, rfl, by rw [← H0.out], HS.out⟩
  case round =>
    obtain ⟨p, q, A2, c2, hLq, hq, rfl, rfl, hW⟩ := hrel
    clear HS
    rename World => W
    have HW := Lib.hid hW
    have HLQ := Lib.hid hLq
    have HQ := Lib.hid hq
    have hlen : p.length + q.length = L.length := by rw [hLq]; simp
    have HLEN := Lib.hid hlen
    have h1 := blk_cell hW.lk.blk 1
    simp only [List.getElem?_toArray, List.getElem?_cons_zero, List.getElem?_cons_succ] at h1
    clear hW hLq hq hlen
    rcases q with _ | ⟨⟨k, a⟩, q⟩
    · rw [headI_nil]
      go_wp2_with fail
      go_ret
      have e := HLQ.out
      rw [List.append_nil] at e
      subst e
      exact ⟨⟨_, rfl, A2, c2, by simp [idsC], by simpa [idsC] using HW.out.row⟩, HW.out.bl⟩
    · obtain ⟨k', rfl, hk⟩ := HL.out.at_ p k a q HLQ.out
      have hkl := (List.getElem?_eq_some_iff.1 hk).1
      obtain ⟨g, hA, c0, c1, c2'⟩ := HW.out.lk.at k' _ hk
      subst hA
      simp only at c0 c2'
      have HKK := Lib.hid hk
      clear c1 hk
      rw [headI_cons]
      simp only
      have p0 : (0 : Int) ≤ (k' : Int) := by omega
      have p1 : (k' : Int) < (N.length : Int) := by omega
      have q1 : ((k' : Int) != -1) = true := by simp
      have hpl : p.length ≤ 100000000 := by have := HLEN.out; simp at this; omega
      go_wp2_with (at_builtin; refine app_one (w.heap.size) 57 3 (.int .i64 0) 1 8 [_] 1 _ _ rfl rfl Tryz.underlying57 info_int5 rfl (by decide) _ _ _ rfl rfl rfl (by intro u hu; simp at hu; subst hu; rfl) HW.out.row (by omega) (by omega) HW.out.bl.size ?_)
      intro v' w6 hown hg6
      obtain ⟨A3, c3, rfl⟩ := own_slice hown
      have hk6 : Keep (fun g => (Value.slice A2 p.length c2).ownBlock = some g) W w6 := Keep.of_grown hg6 (fun g hg => hg)
      have hnew : IdsIs w w6 base cb tb qb N bel steps (some ⟨g, 0, none⟩) c (p ++ [((k' : Int), a)]) A3 c3 := by
        refine ⟨HW.out.lk.keep hk6 (fun e => ?_) (fun x hx e => ?_), ?_, ?_⟩
        · have := own_base HW.out.row _ e; have := HLT.out; omega
        · have := own_base HW.out.row _ e; have := HAT.out x hx; omega
        · have e2 : (p ++ [((k' : Int), a)]).length = p.length + 1 := by simp
          rw [e2]
          unfold idsC at hown ⊢
          rw [List.map_append, List.map_append]
          exact hown
        · exact HW.out.bl.trans (Keep.below hk6 HW.out.bl.size (fun x hx => own_base HW.out.row x hx))
      have HNEW := Lib.hid hnew
      have HP1 := Lib.hid (show (p ++ [((k' : Int), a)]).length = p.length + 1 from by simp)
      clear hown hg6 hk6 hnew h1 c0 c2'
      obtain ⟨g', e, d0, d1, d2⟩ := HNEW.out.lk.at k' _ HKK.out
      injection e with e
      injection e with e
      subst e
      have h1 := blk_cell HNEW.out.lk.blk 1
      simp only [List.getElem?_toArray, List.getElem?_cons_zero, List.getElem?_cons_succ] at h1 d2
      clear d0 d1
      go_wp2_with fail
      go_roundg q.length
      case measure => have := HQ.out; simp at this; omega
      case rel => exact ⟨p ++ [((k' : Int), a)], q, A3, c3, by rw [HLQ.out]; simp, rfl, by rw [HP1.out], rfl, HNEW.out⟩
end
end Go.Proofs.YtbppaiejpgdbiaaGreat

/- Layer 5 (chain): the nodes at the beginning: the plain law. -/
namespace Go.Proofs.YtbppaiejpgdbiaaGreat
set_option linter.unusedVariables false
set_option linter.unusedSimpArgs false

/-- a byte as a token -/
def byI (s : List UInt8) (i : Nat) : Int := (s.getD i 0).toNat
def rawN (s : List UInt8) (k : Nat) : List Node := (List.range k).map fun (i : Nat) => (byI s i, (i : Int) - 1, (i : Int) + 1)
def begN (s : List UInt8) : List Node := (List.range s.length).map fun (i : Nat) => (byI s i, (i : Int) - 1, if i + 1 < s.length then (i : Int) + 1 else -1)
def begL (s : List UInt8) : List Nd := (List.range s.length).map fun (i : Nat) => ((i : Int), byI s i)
def bysI (s : List UInt8) : List Int := s.map fun c => (c.toNat : Int)
theorem rawN_len (s : List UInt8) (k : Nat) : (rawN s k).length = k := by simp [rawN]
theorem begN_len (s : List UInt8) : (begN s).length = s.length := by simp [begN]
theorem begL_len (s : List UInt8) : (begL s).length = s.length := by simp [begL]
theorem rawN_succ (s : List UInt8) (k : Nat) : rawN s (k + 1) = rawN s k ++ [(byI s k, (k : Int) - 1, (k : Int) + 1)] := by simp [rawN, List.range_succ]
theorem begL_ids (s : List UInt8) : idsC (begL s) = bysI s := by
  apply List.ext_getElem
  · simp [idsC, begL, bysI]
  · intro i h1 h2
    simp [idsC, begL, bysI, byI] at h1 ⊢
    rw [List.getElem?_eq_getElem h1]
    rfl
theorem begN_raw (s : List UInt8) (h : 0 < s.length) : (rawN s s.length).modify (s.length - 1) (nextN (-1)) = begN s := by
  apply List.ext_getElem
  · simp [rawN, begN]
  · intro i h1 h2
    simp [rawN, begN, List.getElem_modify] at h1 ⊢
    by_cases e : s.length - 1 = i
    · have : ¬ i + 1 < s.length := by omega
      simp [e, nextN, this]
    · have : i + 1 < s.length := by omega
      simp [e, this]
theorem byI_nn (s : List UInt8) (i : Nat) : 0 ≤ byI s i ∧ byI s i < 256 := by
  unfold byI
  have := (s.getD i 0).toNat_lt
  omega
theorem begL_srt (s : List UInt8) : (begL s).Pairwise (fun x y => x.1 < y.1) := by
  unfold begL
  rw [List.pairwise_map]
  exact List.pairwise_lt_range.imp (fun h => by simpa using h)
theorem begL_at (s : List UInt8) {p q : List Nd} {x : Nd} (h : begL s = p ++ x :: q) : x.1 = p.length ∧ x.2 = byI s p.length ∧ p.length < s.length ∧ lastI p = (p.length : Int) - 1 ∧ headI q = (if p.length + 1 < s.length then (p.length : Int) + 1 else -1) := by
  have hl : (begL s).length = p.length + (q.length + 1) := by rw [h]; simp
  rw [begL_len] at hl
  have at_ : ∀ k (hk : k < s.length), (begL s)[k]? = some ((k : Int), byI s k) := by
    intro k hk
    simp [begL, hk]
  have h0 := at_ p.length (by omega)
  rw [h, List.getElem?_append_right (Nat.le_refl _)] at h0
  simp at h0
  refine ⟨by rw [h0], by rw [h0], by omega, ?_, ?_⟩
  · rcases List.eq_nil_or_concat p with rfl | ⟨p', y, rfl⟩
    · rfl
    · rw [List.concat_eq_append] at *
      rw [lastI_snoc]
      have h1 := at_ p'.length (by simp at hl; omega)
      rw [h] at h1
      simp at h1
      rw [h1]
      simp
  · rcases q with _ | ⟨y, q⟩
    · rw [headI_nil, if_neg (by simp at hl; omega)]
    · rw [headI_cons, if_pos (by simp at hl; omega)]
      have h1 := at_ (p.length + 1) (by simp at hl; omega)
      rw [h, List.getElem?_append_right (by omega)] at h1
      have e : p.length + 1 - p.length = 1 := by omega
      rw [e] at h1
      simp at h1
      rw [h1]
theorem begL_split (s : List UInt8) {k : Nat} (hk : k < s.length) : ∃ p q, begL s = p ++ ((k : Int), byI s k) :: q ∧ p.length = k := by
  have hk' : k < (begL s).length := by rw [begL_len]; exact hk
  refine ⟨(begL s).take k, (begL s).drop (k + 1), ?_, by rw [List.length_take]; omega⟩
  have h1 : (begL s)[k] = ((k : Int), byI s k) := by simp [begL]
  rw [← h1, List.getElem_cons_drop, List.take_append_drop]
theorem beg_lives (s : List UInt8) : Lives (begN s) (begL s) := by
  refine ⟨?_, ?_, ?_, ?_, begL_srt s⟩
  · intro p i a q h
    obtain ⟨h1, h2, h3, h4, h5⟩ := begL_at s h
    refine ⟨p.length, h1, ?_⟩
    simp only at h2
    rw [h2, h4, h5]
    simp [begN, h3]
  · intro k x hk hno
    exfalso
    have hlt := (List.getElem?_eq_some_iff.1 hk).1
    rw [begN_len] at hlt
    exact hno (byI s k) (by simp [begL]; exact ⟨k, hlt, rfl, rfl⟩)
  · intro h
    rcases s with _ | ⟨c, s⟩
    · exact absurd rfl h
    · exact ⟨byI (c :: s) 0, (List.range s.length).map (fun i => (((i + 1 : Nat) : Int), byI (c :: s) (i + 1))), by simp [begL, List.range_succ_eq_map]⟩
  · intro x hx
    simp [begL] at hx
    obtain ⟨i, _, rfl⟩ := hx
    have := byI_nn s i
    exact ⟨this.1, by simp; omega⟩
end Go.Proofs.YtbppaiejpgdbiaaGreat

/- Layer 5 (chain): begin. -/
namespace Go.Proofs.YtbppaiejpgdbiaaGreat
open Go.RowKit Go.Maps Go.WideMaps
set_option maxRecDepth 100000
set_option linter.unusedVariables false
set_option linter.unusedSimpArgs false

theorem byI_at (s : ByteArray) (k : Nat) (hk : k < s.size) : byI s.data.toList k = ((s[k]'hk).toNat : Int) := by
  have h2 : k < s.data.toList.length := by simpa using hk
  unfold byI
  rw [List.getD_eq_getElem?_getD, List.getElem?_eq_getElem h2]
  rfl
theorem dataLen (s : ByteArray) : s.data.toList.length = s.size := by rw [Array.length_toList]; rfl
section
variable {w w' : World} {tbase tb : Nat} {T : List Ent} {sv : Value} {mb mp : Nat}
structure CBegIs (w W : World) (tbase tb : Nat) (T : List Ent) (sv : Value) (mb mp cb : Nat) (N : List Node) (bel : Int) (A : Option Addr) (c : Nat) (Q : List (Th Wt)) (turn : Int) (Aq : Option Addr) (cq : Nat) : Prop where
  ch : ChainIs W w.heap.size tbase tb T sv mb mp cb w.heap.size N bel 0 A c Q turn Aq cq
  bl : Below w.heap.size w W
  ge : w.heap.size ≤ cb
theorem cbeg_app {W W1 : World} {cb : Nat} {N : List Node} {bel : Int} {A A1 : Option Addr} {c c1 : Nat} {x : Node} (h : CBegIs w W tbase tb T sv mb mp cb N bel A c [] 0 none 0)
    (hown : W1.ownsRow w.heap.size 266 3 (.slice A1 (N.length + 1) c1) (N.length + 1) (N.flatMap encN ++ encN x)) (hg : W.grownBy W1 (Value.slice A N.length c).ownBlock) :
    W1.heap[cb]? = some (.cells #[.pointer (some ⟨tb, 0, none⟩), .slice A N.length c, .pointer (some ⟨w.heap.size, 0, none⟩), .int .i64 bel, .int .i64 0] 264) ∧
    CBegIs w (W1.setCell ⟨cb, 1, none⟩ (.slice A1 (N.length + 1) c1)) tbase tb T sv mb mp cb (N ++ [x]) bel A1 c1 [] 0 none 0 := by
  have hk1 : Keep (fun g => (Value.slice A N.length c).ownBlock = some g) W W1 := Keep.of_grown hg (fun g hg => hg)
  have b1 := hk1.blk h.ch.lk.blk (row_ne h.ch.lk.row h.ch.lk.blk (by decide))
  have hk2 : Keep (fun g => g = cb ∨ A = some ⟨g, 0, none⟩) W (W1.setCell ⟨cb, 1, none⟩ (.slice A1 (N.length + 1) c1)) := (hk1.mono (fun g hg => .inr (hw.own_addr h.ch.lk.row g hg))).setCell (p := ⟨cb, 1, none⟩) (.inl (.inl rfl)) _
  have hl : LinkIs (W1.setCell ⟨cb, 1, none⟩ (.slice A1 (N.length + 1) c1)) w.heap.size cb tb w.heap.size (N ++ [x]) bel 0 A1 c1 := by
    refine ⟨?_, ?_, h.ch.lk.le⟩
    · rw [List.length_append]
      simpa using blk_set b1 1 (.slice A1 (N.length + 1) c1)
    · rw [List.length_append, List.flatMap_append]
      have := own_keep hown ((Keep.refl (fun x => x = cb) W1).setCell (p := ⟨cb, 1, none⟩) (.inl rfl) (.slice A1 (N.length + 1) c1)) (fun x hx e => row_ne hown b1 (by decide) (by rw [hx, e]))
      simpa using this
  obtain ⟨hC, hB⟩ := h.ch.link hl hk2
  exact ⟨b1, hC, h.bl.trans hB, h.ge⟩

set_option maxHeartbeats 4000000 in
theorem chain_begin (s : ByteArray) (bel : Int) (h : TabIs w tbase tb T sv mb mp) (hs : s.size ≤ 100000000) :
    Calls Tryz.prog 167 #[.pointer (some ⟨tb, 0, none⟩), .string s, .int .i64 bel] w fun e w' => ∃ cb A c Q turn Aq cq, e = .returned (.pointer (some ⟨cb, 0, none⟩)) ∧
      CBegIs w w' tbase tb T sv mb mp cb (begN s.data.toList) bel A c Q turn Aq cq ∧ BegS (pairB T bel) (begL s.data.toList) s.size s.size Q turn := by
  have HT := Lib.hid h
  clear h
  go_enter Tryz.func167, Tryz.ntmps167
  go_wp2_with fail
  refine (hw.new_any w).mono ?_
  rintro e w1 ⟨rfl, hq, hb⟩
  have hlt : w.heap.size < w1.heap.size := blk_lt hq.blk
  have hb2 := (Below.refl w1.heap.size w1).alloc (Nat.le_refl _) (.cells #[.pointer (some ⟨tb, 0, none⟩), .slice none 0 0, .pointer (some ⟨w.heap.size, 0, none⟩), .int .i64 bel, .int .i64 0] 264)
  have HS : Hid (CBegIs w (w1.alloc (.cells #[.pointer (some ⟨tb, 0, none⟩), .slice none 0 0, .pointer (some ⟨w.heap.size, 0, none⟩), .int .i64 bel, .int .i64 0] 264)) tbase tb T sv mb mp w1.heap.size [] bel none 0 [] 0 none 0) := Lib.hid (by
    refine ⟨⟨⟨?_, ?_, Nat.le_of_lt hlt⟩, hq.below hb2 (Nat.le_refl _), (HT.out.below hb (Nat.le_refl _)).below hb2 (Nat.le_refl _), ?_⟩, hb.trans (hb2.mono (Nat.le_of_lt hlt)), Nat.le_of_lt hlt⟩
    · simpa using blk_new w1 _
    · simpa using own_nil _ _ _ _
    · rintro x (rfl | e | rfl | rfl)
      · exact blk_lt HT.out.blk
      · exact hw.own_lt HT.out.row x e
      · exact HT.out.bys.lt
      · exact HT.out.prs.lt)
  clear hq hb hb2 hlt
  go_wp2_with fail
  generalize w1.heap.size = cb at *
  generalize w1.alloc (.cells #[.pointer (some ⟨tb, 0, none⟩), .slice none 0 0, .pointer (some ⟨w.heap.size, 0, none⟩), .int .i64 bel, .int .i64 0] 264) = W0 at *
  go_loopg [18] s.size (fun n u W => ∃ k A c, k + n = s.size ∧ u = .int .i64 ((k : Nat) : Int) ∧ CBegIs w W tbase tb T sv mb mp cb (rawN s.data.toList k) bel A c [] 0 none 0)
  case atStart => exact ⟨0, none, 0, by omega, rfl, HS.out⟩
  case round =>
    obtain ⟨k, A, c, hk, rfl, hW⟩ := hrel
    clear HS
    rename World => W
    have HW := Lib.hid hW
    have HK := Lib.hid hk
    clear hW
    by_cases hlt : k < s.size
    · have p0 : (0 : Int) ≤ (k : Int) := by omega
      have p1 : (k : Int) < (s.size : Int) := by omega
      have w1 : IntKind.i64.wrap ((k : Int) - 1) = (k : Int) - 1 := IntWalk.i64_in _ (by omega)
      have w2 : IntKind.i64.wrap ((k : Int) + 1) = (k : Int) + 1 := IntWalk.i64_in _ (by omega)
      have hgk : 0 < gk := by omega
      clear hk
      go_upto_region 5 with fail
      have h1 := blk_cell HW.out.ch.lk.blk 1
      simp only [List.getElem?_toArray, List.getElem?_cons_zero, List.getElem?_cons_succ, rawN_len] at h1
      have HBY := Lib.hid (byI_at s k hlt)
      have h8 : IntKind.i64.wrap ((s[k]'hlt).toNat : Int) = ((s[k]'hlt).toNat : Int) := by have := (s[k]'hlt).toNat_lt; exact IntWalk.i64_in _ (by omega)
      refine wp_region_D (Ds := [18]) (S := fun V => V.cell? ⟨cb, 1, none⟩ = some (.slice A k c)) (by kernel_rfl) (by exact h1) (fun hHeld => ?_)
      (have HBL := Lib.hid (show Below w.heap.size w W.drew from HW.out.bl.drew)); (replace HW : Hid (CBegIs w W.drew tbase tb T sv mb mp cb (rawN s.data.toList k) bel A c [] 0 none 0) := Lib.hid ⟨HW.out.ch.drew, HW.out.bl.drew, HW.out.ge⟩); clear h1; generalize W.drew = W1 at *
      refine wpAnyD_takeP (i := 0) (oi := { dst := some 21, op := Op.move (Operand.tmp 7), type := 248, pos := "chain.go:38", after := #[], guard := none }) (d := 21) (v := ?_) rfl rfl (by kernel_rfl) (by kernel_rfl) (by kernel_rfl) (fun _ _ _ h => h) (Or.inl ⟨by rfl, ?_⟩) ?_
      rotate_left
      · (intro w' _; go_simp; (try with_reducible rfl))
      simp only [List.setIfInBounds_toArray, List.set_cons_zero, List.set_cons_succ]
      refine wpAnyD_takeP (i := 1) (oi := { dst := some 22, op := Op.move (Operand.tmp 7), type := 248, pos := "chain.go:38", after := #[], guard := none }) (d := 22) (v := ?_) rfl rfl (by kernel_rfl) (by kernel_rfl) (by kernel_rfl) (fun _ _ _ h => h) (Or.inl ⟨by rfl, ?_⟩) ?_
      rotate_left
      · (intro w' _; go_simp; (try with_reducible rfl))
      simp only [List.setIfInBounds_toArray, List.set_cons_zero, List.set_cons_succ]
      refine wpAnyD_takeP (i := 2) (oi := { dst := some 23, op := Op.nilCheck (Operand.tmp 22), type := 0, pos := "chain.go:38", after := #[{ on := 1, ground := Ground.data }], guard := none }) (d := 23) (v := ?_) rfl rfl (by kernel_rfl) (by kernel_rfl) (by kernel_rfl) (fun _ _ _ h => h) (Or.inl ⟨by rfl, ?_⟩) ?_
      rotate_left
      · (intro w' _; go_simp; (try with_reducible rfl))
      simp only [List.setIfInBounds_toArray, List.set_cons_zero, List.set_cons_succ]
      refine wpAnyD_takeP (i := 3) (oi := { dst := some 24, op := Op.fieldAddr 264 (Operand.tmp 23) 1, type := 0, pos := "chain.go:38", after := #[{ on := 2, ground := Ground.data }], guard := none }) (d := 24) (v := ?_) rfl rfl (by kernel_rfl) (by kernel_rfl) (by kernel_rfl) (fun _ _ _ h => h) (Or.inl ⟨by rfl, ?_⟩) ?_
      rotate_left
      · (intro w' _; go_simp; (try with_reducible rfl))
      simp only [List.setIfInBounds_toArray, List.set_cons_zero, List.set_cons_succ]
      refine wpAnyD_takeP (i := 5) (oi := { dst := some 26, op := Op.move (Operand.tmp 1), type := 9, pos := "chain.go:38", after := #[], guard := none }) (d := 26) (v := ?_) rfl rfl (by kernel_rfl) (by kernel_rfl) (by kernel_rfl) (fun _ _ _ h => h) (Or.inl ⟨by rfl, ?_⟩) ?_
      rotate_left
      · (intro w' _; go_simp; (try with_reducible rfl))
      simp only [List.setIfInBounds_toArray, List.set_cons_zero, List.set_cons_succ]
      refine wpAnyD_takeP (i := 6) (oi := { dst := some 27, op := Op.move (Operand.tmp 8), type := 3, pos := "chain.go:38", after := #[], guard := none }) (d := 27) (v := ?_) rfl rfl (by kernel_rfl) (by kernel_rfl) (by kernel_rfl) (fun _ _ _ h => h) (Or.inl ⟨by rfl, ?_⟩) ?_
      rotate_left
      · (intro w' _; go_simp; (try with_reducible rfl))
      simp only [List.setIfInBounds_toArray, List.set_cons_zero, List.set_cons_succ]
      refine wpAnyD_takeP (i := 9) (oi := { dst := some 30, op := Op.move (Operand.tmp 8), type := 3, pos := "chain.go:38", after := #[], guard := none }) (d := 30) (v := ?_) rfl rfl (by kernel_rfl) (by kernel_rfl) (by kernel_rfl) (fun _ _ _ h => h) (Or.inl ⟨by rfl, ?_⟩) ?_
      rotate_left
      · (intro w' _; go_simp; (try with_reducible rfl))
      simp only [List.setIfInBounds_toArray, List.set_cons_zero, List.set_cons_succ]
      refine wpAnyD_takeP (i := 10) (oi := { dst := some 31, op := Op.binOp BinOp.sub 3 (Operand.tmp 30) (Operand.const (Value.int IntKind.i64 1)) 3, type := 3, pos := "chain.go:38", after := #[{ on := 9, ground := Ground.data }], guard := none }) (d := 31) (v := ?_) rfl rfl (by kernel_rfl) (by kernel_rfl) (by kernel_rfl) (fun _ _ _ h => h) (Or.inl ⟨by rfl, ?_⟩) ?_
      rotate_left
      · (intro w' _; go_simp; (try with_reducible rfl))
      simp only [List.setIfInBounds_toArray, List.set_cons_zero, List.set_cons_succ]
      refine wpAnyD_takeP (i := 11) (oi := { dst := some 32, op := Op.move (Operand.tmp 8), type := 3, pos := "chain.go:38", after := #[], guard := none }) (d := 32) (v := ?_) rfl rfl (by kernel_rfl) (by kernel_rfl) (by kernel_rfl) (fun _ _ _ h => h) (Or.inl ⟨by rfl, ?_⟩) ?_
      rotate_left
      · (intro w' _; go_simp; (try with_reducible rfl))
      simp only [List.setIfInBounds_toArray, List.set_cons_zero, List.set_cons_succ]
      refine wpAnyD_takeP (i := 12) (oi := { dst := some 33, op := Op.binOp BinOp.add 3 (Operand.tmp 32) (Operand.const (Value.int IntKind.i64 1)) 3, type := 3, pos := "chain.go:38", after := #[{ on := 11, ground := Ground.data }], guard := none }) (d := 33) (v := ?_) rfl rfl (by kernel_rfl) (by kernel_rfl) (by kernel_rfl) (fun _ _ _ h => h) (Or.inl ⟨by rfl, ?_⟩) ?_
      rotate_left
      · (intro w' _; go_simp; (try with_reducible rfl))
      simp only [List.setIfInBounds_toArray, List.set_cons_zero, List.set_cons_succ]
      refine wpAnyD_takeD (i := 4) (oi := { dst := some 25, op := Op.load 262 (Operand.tmp 24), type := 262, pos := "chain.go:38", after := #[{ on := 3, ground := Ground.data }], guard := none }) (d := 25) (v := ?_) rfl rfl (by kernel_rfl) (by kernel_rfl) (by kernel_rfl) (by kernel_rfl) (fun _ _ _ h => h) (Or.inl ⟨by rfl, ?_⟩) hHeld ?_
      rotate_left
      · (intro w' hSw; (try dsimp only at hSw); go_simp; (try with_reducible rfl))
      simp only [List.setIfInBounds_toArray, List.set_cons_zero, List.set_cons_succ]
      refine wpAnyD_takeD (i := 7) (oi := { dst := some 28, op := Op.index 9 (Operand.tmp 26) (Operand.tmp 27), type := 5, pos := "chain.go:38", after := #[{ on := 5, ground := Ground.data }, { on := 6, ground := Ground.data }], guard := none }) (d := 28) (v := ?_) rfl rfl (by kernel_rfl) (by kernel_rfl) (by kernel_rfl) (by kernel_rfl) (fun _ _ _ h => h) (Or.inl ⟨by rfl, ?_⟩) hHeld ?_
      rotate_left
      · (intro w' hSw; (try dsimp only at hSw); go_simp; (try with_reducible rfl))
      simp only [List.setIfInBounds_toArray, List.set_cons_zero, List.set_cons_succ]
      refine wpAnyD_takeD (i := 8) (oi := { dst := some 29, op := Op.convert 5 3 (Operand.tmp 28), type := 3, pos := "chain.go:38", after := #[{ on := 7, ground := Ground.data }], guard := none }) (d := 29) (v := ?_) rfl rfl (by kernel_rfl) (by kernel_rfl) (by kernel_rfl) (by kernel_rfl) (fun _ _ _ h => h) (Or.inl ⟨by rfl, ?_⟩) hHeld ?_
      rotate_left
      · (intro w' hSw; (try dsimp only at hSw); go_simp; (try with_reducible rfl))
      simp only [List.setIfInBounds_toArray, List.set_cons_zero, List.set_cons_succ]
      refine wpAnyD_takeP (i := 13) (oi := { dst := some 34, op := Op.build 266 #[(0, Operand.tmp 29), (1, Operand.tmp 31), (2, Operand.tmp 33)], type := 266, pos := "chain.go:38", after := #[{ on := 8, ground := Ground.data }, { on := 10, ground := Ground.data }, { on := 12, ground := Ground.data }], guard := none }) (d := 34) (v := ?_) rfl rfl (by kernel_rfl) (by kernel_rfl) (by kernel_rfl) (fun _ _ _ h => h) (Or.inl ⟨by rfl, ?_⟩) ?_
      rotate_left
      · (intro w' _; go_simp; (try with_reducible rfl))
      simp only [List.setIfInBounds_toArray, List.set_cons_zero, List.set_cons_succ]
      refine wpAnyD_one (i := 14) (o := { dst := some 35, op := Op.buildSlice 262 1 #[(0, Operand.tmp 34)], type := 262, pos := "chain.go:38", after := #[{ on := 13, ground := Ground.data }], guard := none }) (by kernel_rfl) rfl (by rfl) (fun K hK => ?_)
      go_simp; have hbl := (Below.refl W1.heap.size W1).alloc (Nat.le_refl _) (.cells #[.int .i64 ((s[k]'hlt).toNat : Int), .int .i64 ((k : Int) - 1), .int .i64 ((k : Int) + 1)] 266); have h := below_cell hbl (Nat.le_refl _) hHeld; clear hbl
      refine hK.out _ _ h (fun hHeld => ?_)
      clear hK K
      try simp only [Act.put, List.setIfInBounds_toArray, List.set_cons_zero, List.set_cons_succ]
      refine wpAnyD_one (i := 15) (o := { dst := some 36, op := Op.call { callee := Callee.builtin Builtin.append, args := #[Operand.tmp 25, Operand.tmp 35], argTypes := #[262, 262] }, type := 262, pos := "chain.go:38", after := #[{ on := 4, ground := Ground.data }, { on := 14, ground := Ground.data }], guard := none }) (by kernel_rfl) rfl (by rfl) (fun K hK => ?_)
      have hrow := HW.out.ch.lk.row; rw [rawN_len] at hrow; refine wp_app_one w.heap.size 262 266 (.agg #[.int .i64 0, .int .i64 0, .int .i64 0]) 3 24 [_, _, _] 1 _ _ rfl Tryz.underlying262 info_node rfl (by decide) _ _ _ rfl _ rfl rfl rfl (by intro u hu; simp at hu; rcases hu with rfl | rfl | rfl <;> rfl) hrow (by omega) (by omega) HW.out.bl.size ?_; intro v' W2 hown1 hg1 hnew; obtain ⟨A1, cA1, rfl⟩ := own_slice hown1; have hbeg := cbeg_app (x := (byI s.data.toList k, (k : Int) - 1, (k : Int) + 1)) HW.out (by rw [rawN_len]; unfold encN; rw [HBY.out]; exact hown1) (by rw [rawN_len]; exact hg1); have b1 := hbeg.1; have HNEW := Lib.hid hbeg.2; rw [rawN_len] at b1 HNEW; clear hown1 hg1 hnew hrow hbeg; have h := blk_cell b1 1
      refine hK.out _ _ h (fun hHeld => ?_)
      clear hK K
      try simp only [Act.put, List.setIfInBounds_toArray, List.set_cons_zero, List.set_cons_succ]
      refine wpAnyD_takeP (i := 16) (oi := { dst := some 37, op := Op.nilCheck (Operand.tmp 21), type := 0, pos := "chain.go:38", after := #[{ on := 0, ground := Ground.data }, { on := 0, ground := Ground.phase }, { on := 1, ground := Ground.phase }, { on := 2, ground := Ground.phase }, { on := 3, ground := Ground.phase }, { on := 4, ground := Ground.phase }, { on := 5, ground := Ground.phase }, { on := 6, ground := Ground.phase }, { on := 7, ground := Ground.phase }, { on := 8, ground := Ground.phase }, { on := 9, ground := Ground.phase }, { on := 10, ground := Ground.phase }, { on := 11, ground := Ground.phase }, { on := 12, ground := Ground.phase }, { on := 13, ground := Ground.phase }, { on := 14, ground := Ground.phase }, { on := 15, ground := Ground.phase }], guard := none }) (d := 37) (v := ?_) rfl rfl (by kernel_rfl) (by kernel_rfl) (by kernel_rfl) (fun _ _ _ h => h) (Or.inl ⟨by rfl, ?_⟩) ?_
      rotate_left
      · (intro w' _; go_simp; (try with_reducible rfl))
      simp only [List.setIfInBounds_toArray, List.set_cons_zero, List.set_cons_succ]
      refine wpAnyD_takeP (i := 17) (oi := { dst := some 38, op := Op.fieldAddr 264 (Operand.tmp 37) 1, type := 0, pos := "chain.go:38", after := #[{ on := 16, ground := Ground.data }, { on := 0, ground := Ground.phase }, { on := 1, ground := Ground.phase }, { on := 2, ground := Ground.phase }, { on := 3, ground := Ground.phase }, { on := 4, ground := Ground.phase }, { on := 5, ground := Ground.phase }, { on := 6, ground := Ground.phase }, { on := 7, ground := Ground.phase }, { on := 8, ground := Ground.phase }, { on := 9, ground := Ground.phase }, { on := 10, ground := Ground.phase }, { on := 11, ground := Ground.phase }, { on := 12, ground := Ground.phase }, { on := 13, ground := Ground.phase }, { on := 14, ground := Ground.phase }, { on := 15, ground := Ground.phase }], guard := none }) (d := 38) (v := ?_) rfl rfl (by kernel_rfl) (by kernel_rfl) (by kernel_rfl) (fun _ _ _ h => h) (Or.inl ⟨by rfl, ?_⟩) ?_
      rotate_left
      · (intro w' _; go_simp; (try with_reducible rfl))
      simp only [List.setIfInBounds_toArray, List.set_cons_zero, List.set_cons_succ]
      refine wpAnyD_last (D := 18) (by decide) (o := { dst := none, op := Op.store 262 (Operand.tmp 38) (Operand.tmp 36), type := 0, pos := "chain.go:38", after := #[{ on := 17, ground := Ground.data }, { on := 15, ground := Ground.data }, { on := 15, ground := Ground.chain }, { on := 0, ground := Ground.phase }, { on := 1, ground := Ground.phase }, { on := 2, ground := Ground.phase }, { on := 3, ground := Ground.phase }, { on := 4, ground := Ground.phase }, { on := 5, ground := Ground.phase }, { on := 6, ground := Ground.phase }, { on := 7, ground := Ground.phase }, { on := 8, ground := Ground.phase }, { on := 9, ground := Ground.phase }, { on := 10, ground := Ground.phase }, { on := 11, ground := Ground.phase }, { on := 12, ground := Ground.phase }, { on := 13, ground := Ground.phase }, { on := 14, ground := Ground.phase }, { on := 15, ground := Ground.phase }], guard := none }) (by kernel_rfl) rfl (by rfl) (fun K hK => ?_)
      have z0 := blk_froz b1 1; have c0 := hHeld; go_simp; clear z0 c0; rw [← rawN_succ] at HNEW; generalize W2.setCell ⟨cb, 1, none⟩ (.slice A1 (k + 1) cA1) = W3 at *
      refine hK.out _ _ ?_
      clear hK K
      try simp only [Act.put, List.setIfInBounds_toArray, List.set_cons_zero, List.set_cons_succ]
      refine wpAnyD_done (by kernel_rfl) ?_ _
      clear b1 h hHeld h8
      go_wp2_with fail
      go_roundg (gk - 1)
      case measure => omega
      case rel => exact ⟨k + 1, A1, cA1, by have := HK.out; omega, rfl, HNEW.out⟩
    · have hks : k = s.size := by omega
      subst hks
      clear hk HK hlt
      have h1 := blk_cell HW.out.ch.lk.blk 1
      simp only [List.getElem?_toArray, List.getElem?_cons_zero, List.getElem?_cons_succ, rawN_len] at h1
      by_cases hz : 0 < s.size
      · have pz : (0 : Int) < (s.size : Int) := by omega
        obtain ⟨m, hm⟩ : ∃ m, s.size - 1 = m := ⟨_, rfl⟩
        have wm : IntKind.i64.wrap ((s.size : Int) - 1) = (m : Int) := by rw [IntWalk.i64_in _ (by omega)]; omega
        have p0 : (0 : Int) ≤ (m : Int) := by omega
        have p1 : (m : Int) < (s.size : Int) := by omega
        have hml : m < (rawN s.data.toList s.size).length := by rw [rawN_len]; omega
        obtain ⟨g, hA, hcs⟩ := HW.out.ch.lk.at m _ (List.getElem?_eq_getElem hml)
        clear hcs
        subst hA
        obtain ⟨⟨v0, c0⟩, z0⟩ := HW.out.ch.lk.cellAt (m * 3 + 2) (by omega)
        have HB : Hid (CBegIs w (W.setCell ⟨g, m * 3 + 2, none⟩ (.int .i64 (-1))) tbase tb T sv mb mp cb (begN s.data.toList) bel (some ⟨g, 0, none⟩) c [] 0 none 0) := Lib.hid (by
          have hl := HW.out.ch.lk.set (N' := begN s.data.toList) (by rw [begN_len, rawN_len, dataLen]) (by
            have := flat_next (rawN s.data.toList s.size) (-1) m hml
            rw [← this, ← begN_raw _ (by rw [dataLen]; exact hz), dataLen, hm])
          obtain ⟨hC, hB⟩ := HW.out.ch.link hl ((Keep.refl _ _).setCell (p := ⟨g, m * 3 + 2, none⟩) (.inl (.inr rfl)) _)
          exact ⟨hC, HW.out.bl.trans hB, HW.out.ge⟩)
        clear hm hml
        go_upto_region 10 with fail
        clear h1 c0 z0 wm
        generalize W.setCell ⟨g, m * 3 + 2, none⟩ (.int .i64 (-1)) = W4 at *
        obtain ⟨A, hA⟩ : ∃ A, (some ⟨g, 0, none⟩ : Option Addr) = A := ⟨_, rfl⟩
        have HW := HB
        rw [hA] at HW
        clear HB
        have HA := Lib.hid hA
        clear hA
        have h1 := blk_cell HW.out.ch.lk.blk 1
        simp only [List.getElem?_toArray, List.getElem?_cons_zero, List.getElem?_cons_succ, begN_len, dataLen] at h1
        go_wp2_with fail
        clear h1
        go_loopg [60] s.size (fun n u W => ∃ k Q turn Aq cq, k + n = s.size ∧ u = .int .i64 ((k : Nat) : Int) ∧ CBegIs w W tbase tb T sv mb mp cb (begN s.data.toList) bel A c Q turn Aq cq ∧ BegS (pairB T bel) (begL s.data.toList) s.size k Q turn)
        case atStart => exact ⟨0, [], 0, none, 0, by omega, rfl, HW.out, BegS.start _ _ _⟩
        case round =>
          obtain ⟨k, Q, turn, Aq, cq, hk, rfl, hW2, hbg⟩ := hrel
          clear HW
          rename World => W2
          have HW2 := Lib.hid hW2
          have HBG := Lib.hid hbg
          have HK := Lib.hid hk
          clear hW2 hbg
          by_cases hlt : k < s.size
          · have p0 : (0 : Int) ≤ (k : Int) := by omega
            have p1 : (k : Int) < (s.size : Int) := by omega
            have w2 : IntKind.i64.wrap ((k : Int) + 1) = (k : Int) + 1 := IntWalk.i64_in _ (by omega)
            obtain ⟨p, q, hpq, hpl⟩ := begL_split s.data.toList (k := k) (by rw [dataLen]; exact hlt)
            have hlv := beg_lives s.data.toList
            rw [hpq] at hlv
            have HAS := Lib.hid (asks_live HW2.out.ch hlv (by have := HBG.out.size; omega) HBG.out.turn.1 (by have := HBG.out.turn.2; omega))
            have HB2 : Hid (BegS (pairB T bel) (begL s.data.toList) s.size (k + 1) (askQ (pairB T bel) Q turn k (byI s.data.toList k) q).1 (askQ (pairB T bel) Q turn k (byI s.data.toList k) q).2) := Lib.hid (by
              have hb := HBG.out
              rw [← hpl] at hb
              have hh := BegS.ask hb (p := p) (i := k) hpq hlt (byI_nn _ _).1
              rw [hpl] at hh
              exact hh)
            clear hpq hpl hlv hk
            go_wp2_with fail
            refine HAS.out.mono ?_
            rintro e W3 ⟨rfl, ⟨Aq3, cq3, h3⟩, hb3⟩
            have HN : Hid (CBegIs w W3 tbase tb T sv mb mp cb (begN s.data.toList) bel A c (askQ (pairB T bel) Q turn k (byI s.data.toList k) q).1 (askQ (pairB T bel) Q turn k (byI s.data.toList k) q).2 Aq3 cq3) := Lib.hid ⟨h3, HW2.out.bl.trans hb3, HW2.out.ge⟩
            clear h3 hb3 HAS
            go_wp2_with fail
            go_roundg (gk - 1)
            case measure => have := HK.out; omega
            case rel => exact ⟨k + 1, _, _, Aq3, cq3, by have := HK.out; omega, rfl, HN.out, HB2.out⟩
          · have hks : k = s.size := by omega
            subst hks
            clear hk HK
            go_wp2_with fail
            go_ret
            exact ⟨cb, A, c, Q, turn, Aq, cq, rfl, HW2.out, HBG.out⟩
      · have e0 : s.size = 0 := by omega
        have el : s.data.toList = [] := List.eq_nil_of_length_eq_zero (by rw [dataLen]; exact e0)
        replace HW : Hid (CBegIs w W tbase tb T sv mb mp cb (begN s.data.toList) bel A c [] 0 none 0) := Lib.hid (by
          have := HW.out
          rw [el, e0] at this
          rw [el]
          exact this)
        have pz : ¬ (0 : Int) < (s.size : Int) := by omega
        clear hz e0 el
        go_upto_region 10 with fail
        clear h1
        have hA : True := trivial
        have HA := Lib.hid hA
        clear hA
        have h1 := blk_cell HW.out.ch.lk.blk 1
        simp only [List.getElem?_toArray, List.getElem?_cons_zero, List.getElem?_cons_succ, begN_len, dataLen] at h1
        go_wp2_with fail
        clear h1
        go_loopg [60] s.size (fun n u W => ∃ k Q turn Aq cq, k + n = s.size ∧ u = .int .i64 ((k : Nat) : Int) ∧ CBegIs w W tbase tb T sv mb mp cb (begN s.data.toList) bel A c Q turn Aq cq ∧ BegS (pairB T bel) (begL s.data.toList) s.size k Q turn)
        case atStart => exact ⟨0, [], 0, none, 0, by omega, rfl, HW.out, BegS.start _ _ _⟩
        case round =>
          obtain ⟨k, Q, turn, Aq, cq, hk, rfl, hW2, hbg⟩ := hrel
          clear HW
          rename World => W2
          have HW2 := Lib.hid hW2
          have HBG := Lib.hid hbg
          have HK := Lib.hid hk
          clear hW2 hbg
          by_cases hlt : k < s.size
          · have p0 : (0 : Int) ≤ (k : Int) := by omega
            have p1 : (k : Int) < (s.size : Int) := by omega
            have w2 : IntKind.i64.wrap ((k : Int) + 1) = (k : Int) + 1 := IntWalk.i64_in _ (by omega)
            obtain ⟨p, q, hpq, hpl⟩ := begL_split s.data.toList (k := k) (by rw [dataLen]; exact hlt)
            have hlv := beg_lives s.data.toList
            rw [hpq] at hlv
            have HAS := Lib.hid (asks_live HW2.out.ch hlv (by have := HBG.out.size; omega) HBG.out.turn.1 (by have := HBG.out.turn.2; omega))
            have HB2 : Hid (BegS (pairB T bel) (begL s.data.toList) s.size (k + 1) (askQ (pairB T bel) Q turn k (byI s.data.toList k) q).1 (askQ (pairB T bel) Q turn k (byI s.data.toList k) q).2) := Lib.hid (by
              have hb := HBG.out
              rw [← hpl] at hb
              have hh := BegS.ask hb (p := p) (i := k) hpq hlt (byI_nn _ _).1
              rw [hpl] at hh
              exact hh)
            clear hpq hpl hlv hk
            go_wp2_with fail
            refine HAS.out.mono ?_
            rintro e W3 ⟨rfl, ⟨Aq3, cq3, h3⟩, hb3⟩
            have HN : Hid (CBegIs w W3 tbase tb T sv mb mp cb (begN s.data.toList) bel A c (askQ (pairB T bel) Q turn k (byI s.data.toList k) q).1 (askQ (pairB T bel) Q turn k (byI s.data.toList k) q).2 Aq3 cq3) := Lib.hid ⟨h3, HW2.out.bl.trans hb3, HW2.out.ge⟩
            clear h3 hb3 HAS
            go_wp2_with fail
            go_roundg (gk - 1)
            case measure => have := HK.out; omega
            case rel => exact ⟨k + 1, _, _, Aq3, cq3, by have := HK.out; omega, rfl, HN.out, HB2.out⟩
          · have hks : k = s.size := by omega
            subst hks
            clear hk HK
            go_wp2_with fail
            go_ret
            exact ⟨cb, A, c, Q, turn, Aq, cq, rfl, HW2.out, HBG.out⟩
end
end Go.Proofs.YtbppaiejpgdbiaaGreat

/- Layer 4 (token): the document's answer: New. -/
namespace Go.Proofs.YtbppaiejpgdbiaaGreat
open Go.RowKit Go.Maps Go.WideMaps
set_option maxRecDepth 100000
set_option linter.unusedVariables false
set_option linter.unusedSimpArgs false

/-- a table that lies in a variable, and the result -/
structure RVar (w W : World) (r tb : Nat) (T : List Ent) : Prop where
  ex : ∃ A c A2 c2, W.heap[tb]? = some (.cells #[.slice A T.length c, .slice A2 (mrgsT T).length c2] 34) ∧ RefIs W w.heap.size T (.slice A T.length c) (.slice A2 (mrgsT T).length c2)
  res : W.heap[r]? = some (.cells #[.slice none 0 0, .slice none 0 0] 34)
  below : Below w.heap.size w W
  le : w.heap.size ≤ r ∧ w.heap.size ≤ tb
  ne : r ≠ tb
theorem RVar.start {w w1 : World} {A1 : Option Addr} {c1 : Nat} (hr : RefIs w1 (w.alloc (.cells #[.slice none 0 0, .slice none 0 0] 34)).heap.size baseT (.slice A1 baseT.length c1) (.slice none 0 0))
    (hb : Below (w.alloc (.cells #[.slice none 0 0, .slice none 0 0] 34)).heap.size (w.alloc (.cells #[.slice none 0 0, .slice none 0 0] 34)) w1) :
    RVar w (w1.alloc (.cells #[.slice A1 baseT.length c1, .slice none 0 0] 34)) w.heap.size w1.heap.size baseT := by
  have h := grow_start (l := []) hr hb
  exact ⟨h.ex, h.res, h.below, h.le, h.ne⟩
theorem RVar.step {w W w2 : World} {r tb : Nat} {T : List Ent} (h : RVar w W r tb T) (hb : Below W.heap.size W w2) : RVar w w2 r tb T := by
  obtain ⟨A, c, A2, c2, hbk, href⟩ := h.ex
  exact ⟨⟨A, c, A2, c2, blk_below hb (blk_lt hbk) hbk, href.below hb (Nat.le_refl _)⟩, blk_below hb (blk_lt h.res) h.res, h.below.trans (hb.mono h.below.size), h.le, h.ne⟩
/-- another table is laid into the variable -/
theorem RVar.put {w W : World} {r tb n m c c2 : Nat} {T T' : List Ent} {A A2 : Option Addr} (h : RVar w W r tb T) (href : RefIs W w.heap.size T' (.slice A n c) (.slice A2 m c2)) :
    RVar w ((W.setCell ⟨tb, 0, none⟩ (.slice A n c)).setCell ⟨tb, 1, none⟩ (.slice A2 m c2)) r tb T' := by
  obtain ⟨A0, c0, A20, c20, hbk, _⟩ := h.ex
  have en : n = T'.length := by obtain ⟨_, _, e⟩ := own_slice href.row; injection e
  have em : m = (mrgsT T').length := by obtain ⟨_, _, e⟩ := own_slice href.mrg; injection e
  subst en; subst em
  have b1 := blk_set (blk_set hbk 0 (.slice A T'.length c)) 1 (.slice A2 (mrgsT T').length c2)
  simp only [List.setIfInBounds_toArray, List.set_cons_zero, List.set_cons_succ] at b1
  have K3 : ∀ (W : World) (i : Nat) (u : Value), Keep (fun g => g = tb) W (W.setCell ⟨tb, i, none⟩ u) := fun W i u => Keep.setCell (F := fun g => g = tb) (p := ⟨tb, i, none⟩) (Keep.refl _ _) (Or.inl rfl) _
  refine ⟨⟨A, c, A2, c2, b1, ?_, ?_, href.nil⟩, blk_far (p := ⟨tb, 1, none⟩) (blk_far (p := ⟨tb, 0, none⟩) h.res h.ne _) h.ne _, (h.below.setCell (p := ⟨tb, 0, none⟩) h.le.2 _).setCell (p := ⟨tb, 1, none⟩) h.le.2 _, h.le, h.ne⟩
  · exact own_keep (own_keep href.row (K3 _ 0 _) (fun g hg e => row_ne href.row hbk (by decide) (by rw [hg, e]))) (K3 _ 1 _) (fun g hg e => row_ne href.row hbk (by decide) (by rw [hg, e]))
  · exact own_keep (own_keep href.mrg (K3 _ 0 _) (fun g hg e => row_ne href.mrg hbk (by decide) (by rw [hg, e]))) (K3 _ 1 _) (fun g hg e => row_ne href.mrg hbk (by decide) (by rw [hg, e]))
theorem RVar.fin {w W : World} {r tb n m c c2 : Nat} {T : List Ent} {A A2 : Option Addr} (h : RVar w W r tb T) (href : RefIs W w.heap.size T (.slice A n c) (.slice A2 m c2)) :
    ((W.setCell ⟨r, 0, none⟩ (.slice A n c)).setCell ⟨r, 1, none⟩ (.slice A2 m c2)).heap[r]? = some (.cells #[.slice A n c, .slice A2 m c2] 34) ∧ Below w.heap.size w ((W.setCell ⟨r, 0, none⟩ (.slice A n c)).setCell ⟨r, 1, none⟩ (.slice A2 m c2)) ∧
      RefIs ((W.setCell ⟨r, 0, none⟩ (.slice A n c)).setCell ⟨r, 1, none⟩ (.slice A2 m c2)) w.heap.size T (.slice A n c) (.slice A2 m c2) := by
  have b1 := blk_set (blk_set h.res 0 (.slice A n c)) 1 (.slice A2 m c2)
  simp only [List.setIfInBounds_toArray, List.set_cons_zero, List.set_cons_succ] at b1
  have K3 : ∀ (W : World) (i : Nat) (u : Value), Keep (fun g => g = r) W (W.setCell ⟨r, i, none⟩ u) := fun W i u => Keep.setCell (F := fun g => g = r) (p := ⟨r, i, none⟩) (Keep.refl _ _) (Or.inl rfl) _
  refine ⟨b1, (h.below.setCell (p := ⟨r, 0, none⟩) h.le.1 _).setCell (p := ⟨r, 1, none⟩) h.le.1 _, ?_, ?_, href.nil⟩
  · exact own_keep (own_keep href.row (K3 _ 0 _) (fun g hg e => row_ne href.row h.res (by decide) (by rw [hg, e]))) (K3 _ 1 _) (fun g hg e => row_ne href.row h.res (by decide) (by rw [hg, e]))
  · exact own_keep (own_keep href.mrg (K3 _ 0 _) (fun g hg e => row_ne href.mrg h.res (by decide) (by rw [hg, e]))) (K3 _ 1 _) (fun g hg e => row_ne href.mrg h.res (by decide) (by rw [hg, e]))

end Go.Proofs.YtbppaiejpgdbiaaGreat

/- Layer 4 (token): the document's answer: Pair. -/
namespace Go.Proofs.YtbppaiejpgdbiaaGreat
open Go.RowKit Go.Maps Go.WideMaps
set_option maxRecDepth 100000
set_option linter.unusedVariables false
set_option linter.unusedSimpArgs false

def findM (M : List (Int × Int)) (m : Int × Int) : Option Nat := M.findIdx? (fun e => e == m)

theorem findIdx_congr {α : Type} {p q : α → Bool} : ∀ {l : List α}, (∀ x ∈ l, p x = q x) → l.findIdx? p = l.findIdx? q
  | [], _ => rfl
  | a :: l, h => by
    rw [List.findIdx?_cons, List.findIdx?_cons, h a (by simp), findIdx_congr (fun x hx => h x (by simp [hx]))]
theorem pairT_mrgs {T : List Ent} (h : OkT T) (m : Int × Int) : pairT T m = (findM (mrgsT T) m).map (· + 256) := by
  have h256 := okT_256 h
  have e : T = T.take 256 ++ T.drop 256 := (List.take_append_drop _ _).symm
  have hB : (T.take 256).findIdx? (fun e => e.2 == m && m != (-1, -1)) = none := by
    rw [List.findIdx?_eq_none_iff]
    intro x hx
    obtain ⟨i, hi, rfl⟩ := List.getElem_of_mem hx
    rw [List.length_take] at hi
    have := base_ent h (i := i) (by omega)
    rw [entT_nat _ _ (by omega)] at this
    rw [List.getElem_take, this, Bool.eq_false_iff]
    intro hh
    simp only [Bool.and_eq_true, beq_iff_eq, bne_iff_ne, ne_eq] at hh
    exact hh.2 hh.1.symm
  have hM : (T.drop 256).findIdx? (fun e => e.2 == m && m != (-1, -1)) = findM (mrgsT T) m := by
    unfold findM mrgsT
    rw [List.findIdx?_map]
    refine findIdx_congr (fun x hx => ?_)
    obtain ⟨i, hi, rfl⟩ := List.getElem_of_mem hx
    rw [List.length_drop] at hi
    obtain ⟨q1, _⟩ := h.made (256 + i) (by omega) (by omega)
    rw [entT_nat _ _ (by omega)] at q1
    simp only [List.getElem_drop, Function.comp]
    by_cases hm : T[256 + i].2 = m
    · have : m ≠ (-1, -1) := by intro e; rw [hm, e] at q1; simp at q1
      simp [hm, this]
    · have h1 : (T[256 + i].2 == m) = false := by simpa using hm
      rw [h1]; rfl
  have e2 : pairT T m = (T.take 256 ++ T.drop 256).findIdx? (fun e => e.2 == m && m != (-1, -1)) := by rw [List.take_append_drop]; rfl
  rw [e2, List.findIdx?_append, hB, hM]
  simp only [Option.none_or, List.length_take]
  have : min 256 T.length = 256 := by omega
  rw [this]

end Go.Proofs.YtbppaiejpgdbiaaGreat

/- Layer 5 (chain): Below, Encode, Steps. -/
namespace Go.Proofs.YtbppaiejpgdbiaaGreat
open Go.RowKit Go.Maps Go.WideMaps
set_option maxRecDepth 100000
set_option linter.unusedVariables false
set_option linter.unusedSimpArgs false

theorem mrgs_at {T : List Ent} {k : Nat} {m : Int × Int} (h : (mrgsT T)[k]? = some m) : 256 + k < T.length ∧ (entT T ((256 + k : Nat) : Int)).2 = m := by
  unfold mrgsT at h
  rw [List.getElem?_map, Option.map_eq_some_iff] at h
  obtain ⟨e, he, rfl⟩ := h
  rw [List.getElem?_drop] at he
  obtain ⟨hlt, he⟩ := List.getElem?_eq_some_iff.1 he
  exact ⟨hlt, by rw [entT_nat _ _ hlt, he]⟩
theorem mrgs_ok {T : List Ent} (hT : OkT T) {k : Nat} {m : Int × Int} (h : (mrgsT T)[k]? = some m) : pairT T m = some (256 + k) ∧ 0 ≤ m.1 ∧ 0 ≤ m.2 ∧ m.1 < 256 + (k : Int) ∧ m.2 < 256 + (k : Int) := by
  obtain ⟨h1, h2⟩ := mrgs_at h
  obtain ⟨q1, _, _, _, _, q2, q3, q4, q5, q6⟩ := made_all hT (i := 256 + k) (by omega) h1
  have e : parT T ((256 + k : Nat) : Int) = m := by unfold parT; rw [if_pos q1]; exact h2
  rw [e] at q2 q3 q4 q5 q6
  exact ⟨q2, q3, q4, by omega, by omega⟩
/-- the merges below a limit -/
def mrgsB (T : List Ent) (bel : Int) : List (Int × Int) := (mrgsT T).take (bel - 256).toNat
theorem pairB_iff {T : List Ent} (hT : OkT T) (bel a b r : Int) : pairB T bel a b = some r ↔ ∃ k : Nat, (mrgsB T bel)[k]? = some (a, b) ∧ r = 256 + k := by
  unfold pairB mrgsB
  constructor
  · intro h
    cases hp : pairT T (a, b) with
    | none => rw [hp] at h; simp at h
    | some i =>
      rw [hp] at h
      simp only [Option.bind_some] at h
      by_cases hlt : (i : Int) < bel
      · rw [if_pos hlt] at h
        have h := Option.some.inj h
        subst h
        rw [pairT_mrgs hT, Option.map_eq_some_iff] at hp
        obtain ⟨k, hk, rfl⟩ := hp
        unfold findM at hk
        rw [List.findIdx?_eq_some_iff_getElem] at hk
        obtain ⟨hk1, hk2, _⟩ := hk
        refine ⟨k, ?_, by omega⟩
        rw [List.getElem?_take, if_pos (by omega), List.getElem?_eq_getElem hk1]
        simpa using hk2
      · rw [if_neg hlt] at h; simp at h
  · rintro ⟨k, hk, rfl⟩
    rw [List.getElem?_take] at hk
    by_cases hlt : k < (bel - 256).toNat
    · rw [if_pos hlt] at hk
      rw [(mrgs_ok hT hk).1]
      simp only [Option.bind_some]
      rw [if_pos (by omega)]
      congr 1
    · rw [if_neg hlt] at hk; simp at hk
theorem mrgsB_ok {T : List Ent} (hT : OkT T) (bel : Int) : OkM (mrgsB T bel) 256 := by
  intro k m hk
  unfold mrgsB at hk
  rw [List.getElem?_take] at hk
  by_cases hlt : k < (bel - 256).toNat
  · rw [if_pos hlt] at hk
    have := mrgs_ok hT hk
    exact ⟨this.2.2.2.1, this.2.2.2.2⟩
  · rw [if_neg hlt] at hk; simp at hk
theorem pairB_small {T : List Ent} (hT : OkT T) (bel a b r : Int) (h : pairB T bel a b = some r) : r < 1000000 := by
  obtain ⟨k, hk, rfl⟩ := (pairB_iff hT bel a b r).1 h
  have h2 := (List.getElem?_eq_some_iff.1 hk).1
  unfold mrgsB at h2
  rw [List.length_take, mrgs_len] at h2
  have := hT.small
  omega
/-- what is made of bytes by the tokens below a limit -/
def encT (T : List Ent) (bel : Int) (s : List UInt8) : List Int := seqE (mrgsB T bel) 256 (bysI s)

section
variable {w w' : World} {tbase tb : Nat} {T : List Ent} {sv : Value} {mb mp : Nat}
theorem ints_less {w : World} {b base : Nat} {v : Value} {l : List Int} (h : IntsIs w b v l) (hle : base ≤ b) : IntsIs w base v l := by
  obtain ⟨A, c, e, hr⟩ := h
  exact ⟨A, c, e, own_less hr hle⟩
set_option maxHeartbeats 4000000 in
theorem below_any (h : TabIs w tbase tb T sv mb mp) (hT : OkT T) (s : ByteArray) (hs : s.size ≤ 100000000) (bel : Int) :
    Calls Tryz.prog 157 #[.pointer (some ⟨tb, 0, none⟩), .string s, .int .i64 bel] w fun e w' => (∃ v, e = .returned v ∧ IntsIs w' w.heap.size v (encT T bel s.data.toList)) ∧ Below w.heap.size w w' := by
  have HT := Lib.hid h
  have HOK := Lib.hid hT
  clear h hT
  go_enter Tryz.func157, Tryz.ntmps157
  go_wp2_with fail
  refine (chain_begin s bel HT.out hs).mono ?_
  rintro e w1 ⟨cb, A, c, Q, turn, Aq, cq, rfl, hb, hbs⟩
  have HB := Lib.hid hb
  have HR := Lib.hid (run_any hb.ch (RunS.start (M := mrgsB T bel) (beg_lives s.data.toList) (by rw [begN_len, begL_len]) (by rw [begL_len, dataLen]; exact hbs)) (by rw [begL_len, dataLen]; exact hs) (pairB_iff HOK.out bel) (mrgsB_ok HOK.out bel) (pairB_small HOK.out bel))
  clear hb hbs
  go_wp2_with fail
  refine HR.out.mono ?_
  rintro e w2 ⟨rfl, N', L', turn', steps', Aq', cq', h2⟩
  have H2 := Lib.hid h2
  have hfin := h2.run.fin (pairB_iff HOK.out bel)
  rw [begL_ids] at hfin
  have hbl : Below w.heap.size w w2 := HB.out.bl.trans h2.bl
  have HBL := Lib.hid hbl
  have hids : Calls Tryz.prog 169 #[.pointer (some ⟨cb, 0, none⟩)] w2 fun e w' => (∃ v, e = .returned v ∧ IntsIs w' w2.heap.size v (encT T bel s.data.toList)) ∧ Below w2.heap.size w2 w' := by
    have e1 : encT T bel s.data.toList = idsC L' := hfin.1.symm
    rw [e1]
    by_cases hN : N' = []
    · subst hN
      have : L' = [] := by
        rcases L' with _ | ⟨x, L'⟩
        · rfl
        · obtain ⟨k, _, hk⟩ := h2.run.lives.place (x := x) (by simp)
          simp at hk
      subst this
      exact ids_none h2.ch.lk
    · refine ids_any h2.ch.lk h2.run.lives hN ?_
      have := h2.run.steps
      have := h2.run.pos
      rw [begL_len, dataLen] at *
      omega
  have HI := Lib.hid hids
  clear h2 hfin hbl hids HR
  go_wp2_with fail
  refine HI.out.mono ?_
  rintro e w3 ⟨⟨v, rfl, hv⟩, hb3⟩
  have HV := Lib.hid (ints_less hv HBL.out.size)
  have HB3 := Lib.hid (HBL.out.trans (hb3.mono HBL.out.size))
  clear hv hb3
  go_wp2_with fail
  go_ret
  exact ⟨⟨v, rfl, HV.out⟩, HB3.out⟩
theorem encode_any (h : TabIs w tbase tb T sv mb mp) (hT : OkT T) (s : ByteArray) (hs : s.size ≤ 100000000) :
    Calls Tryz.prog 135 #[.pointer (some ⟨tb, 0, none⟩), .string s] w fun e w' => (∃ v, e = .returned v ∧ IntsIs w' w.heap.size v (encT T T.length s.data.toList)) ∧ Below w.heap.size w w' := by
  have HT := Lib.hid h
  have HOK := Lib.hid hT
  clear h hT
  go_enter Tryz.func135, Tryz.ntmps135
  go_wp2_with fail
  refine (len_tab HT.out).mono ?_
  rintro e w1 ⟨rfl, rfl⟩
  go_wp2_with fail
  refine (below_any HT.out HOK.out s hs _).mono ?_
  rintro e w2 ⟨⟨v, rfl, hv⟩, hb⟩
  have HV := Lib.hid hv
  have HB := Lib.hid hb
  clear hv hb
  go_wp2_with fail
  go_ret
  exact ⟨⟨v, rfl, HV.out⟩, HB.out⟩
end
end Go.Proofs.YtbppaiejpgdbiaaGreat

/- Layer 5 (chain): two rows of numbers are the same; Spans. -/
namespace Go.Proofs.YtbppaiejpgdbiaaGreat
open Go.RowKit Go.Maps Go.WideMaps
set_option maxRecDepth 100000
set_option linter.unusedVariables false
set_option linter.unusedSimpArgs false

theorem eq_drop_ne {l m : List Int} {k : Nat} (h1 : k < l.length) (h2 : k < m.length) (h : l[k] ≠ m[k]) : l ≠ m := by rintro rfl; exact h rfl
set_option maxHeartbeats 2000000 in
theorem ints_any (l m : List Int) (A B : Option Addr) (c d : Nat) (w : World) (hl : Sl1 w A (Value.int .i64) l) (hm : Sl1 w B (Value.int .i64) m) (hz : l.length < 1000000000000) :
    Calls Tryz.prog 38 #[.slice A l.length c, .slice B m.length d] w fun e w' => e = .returned (.bool (decide (l = m))) ∧ Below w.heap.size w w' := by
  obtain ⟨R, hR⟩ : ∃ R, decide (l = m) = R := ⟨_, rfl⟩
  rw [hR]
  have HR := Lib.hid hR
  have HL := Lib.hid hl
  have HM := Lib.hid hm
  clear hl hm hR
  by_cases hlen : l.length = m.length
  · have HLEN := Lib.hid hlen
    rw [← hlen]
    clear hlen
    go_enter Tryz.func38, Tryz.ntmps38
    go_wp2_with fail
    go_loopg [5] l.length (fun n i W => ∃ k : Nat, k + n = l.length ∧ i = .int .i64 (k : Int) ∧ l.take k = m.take k ∧ Below w.heap.size w W)
    case atStart => exact ⟨0, by omega, rfl, rfl, Below.refl _ _⟩
    case round =>
      obtain ⟨k, hk, rfl, ht, hb⟩ := hrel
      have HT := Lib.hid ht
      have HB := Lib.hid hb
      have HK := Lib.hid hk
      clear ht hb
      rename World => W
      by_cases hlt : k < l.length
      · have hlt2 : k < m.length := by rw [← HLEN.out]; exact hlt
        have p0 : (0 : Int) ≤ (k : Int) := by omega
        have p1 : (k : Int) < (l.length : Int) := by omega
        obtain ⟨b1, o1, rfl, c1⟩ := (HL.out.below HB.out (Nat.le_refl _)).at k hlt
        obtain ⟨b2, o2, rfl, c2⟩ := (HM.out.below HB.out (Nat.le_refl _)).at k hlt2
        have HNX : Hid (l[k] = m[k] → l.take (k + 1) = m.take (k + 1)) := Lib.hid (fun e => by rw [take_snoc hlt, take_snoc hlt2, HT.out, e])
        have HNE := Lib.hid (fun e => eq_drop_ne hlt hlt2 e)
        have wk : IntKind.i64.wrap ((k : Int) + 1) = (k : Int) + 1 := IntWalk.i64_in _ (by omega)
        generalize l[k] = x at *
        generalize m[k] = y at *
        clear hk
        go_upto_region 6 with fail
        refine wp_region_held_drew (S := fun V => V.cell? ⟨b1, o1 + k, none⟩ = some (.int .i64 x) ∧ V.cell? ⟨b2, o2 + k, none⟩ = some (.int .i64 y)) (by kernel_rfl) (by exact ⟨c1, c2⟩) (fun hHeld => ?_)
        refine wpAnyH_takeD (i := 0) (oi := { dst := some 17, op := Op.move (Operand.tmp 0), type := 57, pos := "ref.go:111", after := #[], guard := none }) (d := 17) (v := ?_) rfl rfl (by kernel_rfl) (by kernel_rfl) (by kernel_rfl) (fun _ _ _ h => h) (Or.inl ⟨by rfl, ?_⟩) hHeld ?_
        rotate_left
        · (intro w' hSw; (try dsimp only at hSw); go_simp; (try with_reducible rfl))
        simp only [List.setIfInBounds_toArray, List.set_cons_zero, List.set_cons_succ]
        refine wpAnyH_takeD (i := 1) (oi := { dst := some 18, op := Op.move (Operand.tmp 5), type := 3, pos := "ref.go:111", after := #[], guard := none }) (d := 18) (v := ?_) rfl rfl (by kernel_rfl) (by kernel_rfl) (by kernel_rfl) (fun _ _ _ h => h) (Or.inl ⟨by rfl, ?_⟩) hHeld ?_
        rotate_left
        · (intro w' hSw; (try dsimp only at hSw); go_simp; (try with_reducible rfl))
        simp only [List.setIfInBounds_toArray, List.set_cons_zero, List.set_cons_succ]
        refine wpAnyH_takeD (i := 2) (oi := { dst := some 19, op := Op.indexAddr 57 (Operand.tmp 17) (Operand.tmp 18), type := 0, pos := "ref.go:111", after := #[{ on := 0, ground := Ground.data }, { on := 1, ground := Ground.data }], guard := none }) (d := 19) (v := ?_) rfl rfl (by kernel_rfl) (by kernel_rfl) (by kernel_rfl) (fun _ _ _ h => h) (Or.inl ⟨by rfl, ?_⟩) hHeld ?_
        rotate_left
        · (intro w' hSw; (try dsimp only at hSw); go_simp; (try with_reducible rfl))
        simp only [List.setIfInBounds_toArray, List.set_cons_zero, List.set_cons_succ]
        refine wpAnyH_takeD (i := 3) (oi := { dst := some 20, op := Op.load 3 (Operand.tmp 19), type := 3, pos := "ref.go:111", after := #[{ on := 2, ground := Ground.data }], guard := none }) (d := 20) (v := ?_) rfl rfl (by kernel_rfl) (by kernel_rfl) (by kernel_rfl) (fun _ _ _ h => h) (Or.inl ⟨by rfl, ?_⟩) hHeld ?_
        rotate_left
        · (intro w' hSw; (try dsimp only at hSw); go_simp; (try with_reducible rfl))
        simp only [List.setIfInBounds_toArray, List.set_cons_zero, List.set_cons_succ]
        refine wpAnyH_takeD (i := 4) (oi := { dst := some 21, op := Op.move (Operand.tmp 1), type := 57, pos := "ref.go:111", after := #[], guard := none }) (d := 21) (v := ?_) rfl rfl (by kernel_rfl) (by kernel_rfl) (by kernel_rfl) (fun _ _ _ h => h) (Or.inl ⟨by rfl, ?_⟩) hHeld ?_
        rotate_left
        · (intro w' hSw; (try dsimp only at hSw); go_simp; (try with_reducible rfl))
        simp only [List.setIfInBounds_toArray, List.set_cons_zero, List.set_cons_succ]
        refine wpAnyH_takeD (i := 5) (oi := { dst := some 22, op := Op.move (Operand.tmp 5), type := 3, pos := "ref.go:111", after := #[], guard := none }) (d := 22) (v := ?_) rfl rfl (by kernel_rfl) (by kernel_rfl) (by kernel_rfl) (fun _ _ _ h => h) (Or.inl ⟨by rfl, ?_⟩) hHeld ?_
        rotate_left
        · (intro w' hSw; (try dsimp only at hSw); go_simp; (try with_reducible rfl))
        simp only [List.setIfInBounds_toArray, List.set_cons_zero, List.set_cons_succ]
        refine wpAnyH_takeD (i := 6) (oi := { dst := some 23, op := Op.indexAddr 57 (Operand.tmp 21) (Operand.tmp 22), type := 0, pos := "ref.go:111", after := #[{ on := 4, ground := Ground.data }, { on := 5, ground := Ground.data }], guard := none }) (d := 23) (v := ?_) rfl rfl (by kernel_rfl) (by kernel_rfl) (by kernel_rfl) (fun _ _ _ h => h) (Or.inl ⟨by rfl, ?_⟩) hHeld ?_
        rotate_left
        · (intro w' hSw; (try dsimp only at hSw); go_simp; (try with_reducible rfl))
        simp only [List.setIfInBounds_toArray, List.set_cons_zero, List.set_cons_succ]
        refine wpAnyH_takeD (i := 7) (oi := { dst := some 24, op := Op.load 3 (Operand.tmp 23), type := 3, pos := "ref.go:111", after := #[{ on := 6, ground := Ground.data }], guard := none }) (d := 24) (v := ?_) rfl rfl (by kernel_rfl) (by kernel_rfl) (by kernel_rfl) (fun _ _ _ h => h) (Or.inl ⟨by rfl, ?_⟩) hHeld ?_
        rotate_left
        · (intro w' hSw; (try dsimp only at hSw); go_simp; (try with_reducible rfl))
        simp only [List.setIfInBounds_toArray, List.set_cons_zero, List.set_cons_succ]
        refine wpAnyH_takeD (i := 8) (oi := { dst := some 25, op := Op.binOp BinOp.neq 3 (Operand.tmp 20) (Operand.tmp 24) 3, type := 4, pos := "ref.go:111", after := #[{ on := 3, ground := Ground.data }, { on := 7, ground := Ground.data }], guard := none }) (d := 25) (v := ?_) rfl rfl (by kernel_rfl) (by kernel_rfl) (by kernel_rfl) (fun _ _ _ h => h) (Or.inl ⟨by rfl, ?_⟩) hHeld ?_
        rotate_left
        · (intro w' hSw; (try dsimp only at hSw); go_simp; (try with_reducible rfl))
        simp only [List.setIfInBounds_toArray, List.set_cons_zero, List.set_cons_succ]
        refine wpAnyH_done (by kernel_rfl) ?_ _
        replace HB := Lib.hid HB.out.drew
        clear c1 c2 hHeld
        by_cases hxy : x = y
        · have HN := Lib.hid (HNX.out hxy)
          have hn : (x != y) = false := by simpa using hxy
          clear hxy HNX HNE
          go_wp2_with fail
          go_roundg (gk - 1)
          case measure => have := HK.out; omega
          case rel => exact ⟨k + 1, by have := HK.out; omega, by go_num, HN.out, HB.out⟩
        · have hn : (x != y) = true := by simpa using hxy
          have HF : Hid (R = false) := Lib.hid (by rw [← HR.out]; simpa using HNE.out hxy)
          clear hxy HNX HNE
          go_wp2_with fail
          go_ret
          exact ⟨ret_bool HF.out.symm, HB.out⟩
      · have hke : k = l.length := by omega
        have HF : Hid (R = true) := Lib.hid (by
          rw [← HR.out]
          have := HT.out
          rw [hke, List.take_length, HLEN.out, List.take_length] at this
          simpa using this)
        have hlt' : ¬ (k : Int) < (l.length : Int) := by omega
        clear hke hk HK
        go_wp2_with fail
        go_ret
        exact ⟨ret_bool HF.out.symm, HB.out⟩
  · have HF : Hid (R = false) := Lib.hid (by rw [← HR.out]; simp; rintro rfl; exact hlen rfl)
    have hn : (l.length != m.length) = true := by simpa using hlen
    have hn2 : ((l.length : Int) != (m.length : Int)) = true := by simp; omega
    clear hlen
    go_enter Tryz.func38, Tryz.ntmps38
    go_wp2_with fail
    go_ret
    exact ⟨ret_bool HF.out.symm, Below.refl _ _⟩

theorem ints_same (l : List Int) (A B : Option Addr) (c d : Nat) (w : World) (hl : Sl1 w A (Value.int .i64) l) (hm : Sl1 w B (Value.int .i64) l) (hz : l.length < 1000000000000) :
    Calls Tryz.prog 38 #[.slice A l.length c, .slice B l.length d] w fun e w' => e = .returned (.bool true) ∧ Below w.heap.size w w' :=
  (ints_any l l A B c d w hl hm hz).mono fun e w' ⟨h, hb⟩ => ⟨by rw [h]; exact ret_bool (decide_eq_true rfl), hb⟩

/-! where tokens end -/
theorem bytesT_le {T : List Ent} (h : OkT T) (i : Int) : (bytesT T i).length ≤ 64 := by
  unfold bytesT
  split
  · rename_i hi
    obtain ⟨j, rfl, hj, e⟩ := hasT_at hi
    rw [e]
    exact (h.len _ (List.getElem_mem hj)).2
  · simp
end Go.Proofs.YtbppaiejpgdbiaaGreat

/- Layer 5 (chain): the law's own table. -/
namespace Go.Proofs.YtbppaiejpgdbiaaGreat
open Go.RowKit Go.Maps Go.WideMaps
set_option maxRecDepth 100000
set_option linter.unusedVariables false
set_option linter.unusedSimpArgs false

theorem adds_take (l : List (Int × Int)) : ∀ (T T' : List Ent) (k : Nat) (hk : k < l.length) (Tk : List Ent), addsT T l = some T' → addsT T (l.take k) = some Tk → (addT Tk l[k].1 l[k].2).2.1 = 0 := by
  induction l with
  | nil => intro T T' k hk; exact absurd hk (by simp)
  | cons a l ih =>
    intro T T' k hk Tk h1 h2
    simp only [addsT] at h1
    split at h1
    · rename_i h0
      match k, hk, h2 with
      | 0, _, h2 => simp only [List.take_zero, addsT, Option.some.injEq] at h2; subst h2; exact h0
      | k + 1, hk, h2 =>
        simp only [List.take_succ_cons, addsT, if_pos h0] at h2
        exact ih _ _ k (by simpa using hk) _ h1 h2
    · cases h1
/-- both tables -/
structure BothIs (w w' : World) (T : List Ent) (tb : Nat) (sv : Value) (mb mp : Nat) (vb vm : Value) : Prop where
  tab : TabIs w' w.heap.size tb T sv mb mp
  ref : RefIs w' w.heap.size T vb vm
  bl : Below w.heap.size w w'
theorem BothIs.step {w w' w2 : World} {T : List Ent} {tb : Nat} {sv : Value} {mb mp : Nat} {vb vm : Value} (h : BothIs w w' T tb sv mb mp vb vm) (hb : Below w'.heap.size w' w2) : BothIs w w2 T tb sv mb mp vb vm :=
  ⟨h.tab.below hb (Nat.le_refl _), h.ref.below hb (Nat.le_refl _), h.bl.trans (hb.mono h.bl.size)⟩
theorem TabIs.less {w : World} {b base tb : Nat} {T : List Ent} {sv : Value} {mb mp : Nat} (h : TabIs w b tb T sv mb mp) (hle : base ≤ b) : TabIs w base tb T sv mb mp :=
  ⟨h.blk, own_less h.row hle, h.bys, h.prs, h.ne, by have := h.lt; omega⟩
end Go.Proofs.YtbppaiejpgdbiaaGreat

/- Layer 5 (chain): the document's examples. -/
namespace Go.Proofs.YtbppaiejpgdbiaaGreat
open Go.RowKit Go.Maps Go.WideMaps
set_option maxRecDepth 100000
set_option linter.unusedVariables false
set_option linter.unusedSimpArgs false

def ac1 : List (Int × Int) := [(98, 99), (97, 98), (257, 99)]
def acU1 : List Ent := baseT ++ [([98, 99], 98, 99)]
def acU2 : List Ent := acU1 ++ [([97, 98], 97, 98)]
def acU3 : List Ent := acU2 ++ [([97, 98, 99], 257, 99)]
theorem ac_add3 : addT baseT 98 99 = (256, 0, acU1) := by kernel_rfl
theorem ac_add4 : addT acU1 97 98 = (257, 0, acU2) := by kernel_rfl
theorem ac_add5 : addT acU2 257 99 = (258, 0, acU3) := by kernel_rfl
theorem ac_adds1 : addsT baseT ac1 = some acU3 := by
  simp only [ac1, addsT, ac_add3, ac_add4, ac_add5, if_true]
/-- New of merges that can be added -/
theorem new_ok {l : List (Int × Int)} {T : List Ent} (hT : addsT baseT l = some T) (A : Option Addr) (c : Nat) (w : World) (hl : Sl w A encM 2 l) (hlen : l.length < 9000000000000000000) :
    Calls Tryz.prog 21 #[.slice A l.length c] w fun e w' => ∃ tb sv mb mp, e = .returned (.tuple #[.pointer (some ⟨tb, 0, none⟩), .int .i64 (l.length : Nat), .int .i64 0]) ∧ OkT T ∧ TabIs w' w.heap.size tb T sv mb mp ∧ Below w.heap.size w w' := by
  refine (new_any l A c w hl hlen).mono ?_
  rintro e w' ⟨hb, (⟨T', tb, sv, mb, mp, rfl, ha, hok, ht⟩ | ⟨k, hk, T', ha, hok, he, rfl⟩)⟩
  · rw [hT] at ha
    injection ha with ha
    subst ha
    exact ⟨tb, sv, mb, mp, rfl, hok, ht, hb⟩
  · exact absurd (adds_take l baseT T k hk T' hT ha) he
/-- merges that were just built -/
theorem sl_mrg {w : World} {g : Nat} {l : List (Int × Int)} (h : w.heap[g]? = some (.cells (l.flatMap encM).toArray 55)) : Sl w (some ⟨g, 0, none⟩) encM 2 l := by
  intro i x hx
  refine ⟨g, 0, rfl, fun j v hv => ?_⟩
  rw [blk_cell h, List.getElem?_toArray, Nat.zero_add]
  have key : ∀ (l : List (Int × Int)) (i : Nat), l[i]? = some x → (l.flatMap encM)[i * 2 + j]? = some v := by
    intro l
    induction l with
    | nil => intro i h; simp at h
    | cons y ys ih =>
      intro i hx
      have hj : j < 2 := (List.getElem?_eq_some_iff.1 hv).1
      cases i with
      | zero =>
        simp at hx
        subst hx
        rw [List.flatMap_cons, List.getElem?_append_left (by show 0 * 2 + j < 2; omega)]
        simpa using hv
      | succ i =>
        simp at hx
        rw [List.flatMap_cons, List.getElem?_append_right (by show 2 ≤ _; omega)]
        have := ih i hx
        rw [show (i + 1) * 2 + j - (encM y).length = i * 2 + j by show (i + 1) * 2 + j - 2 = _; omega]
        exact this
  exact key l i hx
/-- numbers that were just built -/
theorem sl_int {w : World} {g : Nat} {l : List Int} (h : w.heap[g]? = some (.cells (l.map (Value.int .i64)).toArray 3)) : Sl1 w (some ⟨g, 0, none⟩) (Value.int .i64) l := by
  intro i x hx
  refine ⟨g, 0, rfl, ?_⟩
  rw [blk_cell h, List.getElem?_toArray, Nat.zero_add, List.getElem?_map, hx]
  rfl
end Go.Proofs.YtbppaiejpgdbiaaGreat

/- Layer 7 (grow): a spec: Great, Load, the document's Load. -/
namespace Go.Proofs.YtbppaiejpgdbiaaGreat
open Go.RowKit Go.Maps Go.WideMaps
set_option maxRecDepth 100000
set_option linter.unusedVariables false
set_option linter.unusedSimpArgs false

/-- a spec as a value -/
def specV (rk : Bool) (AM : Option Addr) (nM cM : Nat) (AT : Option Addr) (nT cT : Nat) (AX : Option Addr) (nX cX : Nat) (AC : Option Addr) (nC cC : Nat) (AJ : Option Addr) (nJ cJ : Nat) : Value :=
  .agg #[.bool rk, .slice AM nM cM, .slice AT nT cT, .slice AX nX cX, .slice AC nC cC, .slice AJ nJ cJ]
section
variable {w : World} {rk : Bool} {AM : Option Addr} {nM cM : Nat} {AT : Option Addr} {nT cT : Nat} {AX : Option Addr} {nX cX : Nat} {AC : Option Addr} {nC cC : Nat} {AJ : Option Addr} {nJ cJ : Nat}
theorem load_false {R : Value → Value → Value → World → Prop} (hR : rk = false) (h : ∀ W, Below w.heap.size w W → Calls Tryz.prog 21 #[.slice AM nM cM] W fun e w' => ∃ x y z, e = .returned (.tuple #[x, y, z]) ∧ R x y z w') :
    Calls Tryz.prog 87 #[specV rk AM nM cM AT nT cT AX nX cX AC nC cC AJ nJ cJ] w fun e w' => ∃ x y z, e = .returned (.tuple #[x, y, z]) ∧ R x y z w' := by
  subst hR
  have HI := Lib.hid (h _ ((Below.refl w.heap.size w).alloc (Nat.le_refl _) (.cells #[.bool false, .slice AM nM cM, .slice AT nT cT, .slice AX nX cX, .slice AC nC cC, .slice AJ nJ cJ] 48)))
  clear h
  unfold specV
  go_enter Tryz.func87, Tryz.ntmps87
  go_wp2_with fail
  refine HI.out.mono ?_
  rintro e w1 ⟨x, y, z, rfl, hr⟩
  have HRR := Lib.hid hr
  clear hr
  go_wp2_with fail
  exact bodyPost_ret (results_tmp3 rfl _ _ _) rfl ⟨x, y, z, rfl, HRR.out⟩
end
end Go.Proofs.YtbppaiejpgdbiaaGreat

/- Layer 6 (spec): Right. PRINTED by tools/spec_right.py. -/
namespace Go.Proofs.YtbppaiejpgdbiaaGreat
open Go.RowKit Go.Maps Go.WideMaps
set_option maxRecDepth 100000
set_option linter.unusedVariables false
set_option linter.unusedSimpArgs false
/-- a spec -/
structure SpecP where
  rk : Bool
  ms : List (Int × Int)
  ts : List (List UInt8)
  xs : List (Int × List UInt8)
  cs : List Cls
  js : List Jn
structure SpecAt (w : World) (s : SpecP) (AM AT AX AC AJ : Option Addr) : Prop where
  ms : Sl w AM encM 2 s.ms
  ts : Sl1 w AT strV s.ts
  xs : Sl w AX encIS 2 s.xs
  cs : Sl w AC encCls 3 s.cs
  js : Sl w AJ encJn 2 s.js
  len : s.ms.length < 9000000000000000000 ∧ s.ts.length < 9000000000000000000 ∧ s.xs.length < 9000000000000000000 ∧ s.cs.length < 9000000000000000000 ∧ s.js.length < 9000000000000000000
theorem SpecAt.below {w w' : World} {s : SpecP} {AM AT AX AC AJ : Option Addr} (h : SpecAt w s AM AT AX AC AJ) {B : Nat} (hb : Below B w w') (hB : w.heap.size ≤ B) : SpecAt w' s AM AT AX AC AJ :=
  ⟨h.ms.below hb hB, h.ts.below hb hB, h.xs.below hb hB, h.cs.below hb hB, h.js.below hb hB, h.len⟩
def headR (s : SpecP) : Bool := if s.rk = true then decide (s.ms.length = 0) else decide (s.ts.length = 0)
def rightS (s : SpecP) : Bool := headR s && (decide ((s.ms.length : Int) ≤ 744) && s.ms.all mrgR) && (decide ((s.ts.length : Int) ≤ 744) && s.ts.all txtL) && (decide ((s.xs.length : Int) ≤ 32) && s.xs.all splL) && (decide ((s.cs.length : Int) ≤ 64) && s.cs.all clsR) && (decide ((s.js.length : Int) ≤ 64) && s.js.all jnR)
def specW (s : SpecP) (AM AT AX AC AJ : Option Addr) (cM cT cX cC cJ : Nat) : Value := specV s.rk AM s.ms.length cM AT s.ts.length cT AX s.xs.length cX AC s.cs.length cC AJ s.js.length cJ
section
variable {w : World} {s : SpecP} {AM AT AX AC AJ : Option Addr} {cM cT cX cC cJ nM nT nX nC nJ : Nat}
theorem right_bad_t (hd : 0 < nM) : Calls Tryz.prog 47 #[specV true AM nM cM AT nT cT AX nX cX AC nC cC AJ nJ cJ] w fun e w' => e = .returned (.bool false) ∧ Below w.heap.size w w' := by
  unfold specV
  have HB0 := Lib.hid ((Below.refl w.heap.size w).alloc (Nat.le_refl _) (.cells #[.bool true, .slice AM nM cM, .slice AT nT cT, .slice AX nX cX, .slice AC nC cC, .slice AJ nJ cJ] 48))
  have hd2 : decide (0 < nM) = true := decide_eq_true hd
  go_enter Tryz.func47, Tryz.ntmps47
  go_wp2_with fail
  go_ret
  exact ⟨rfl, HB0.out⟩
theorem right_bad_f (hd : 0 < nT) : Calls Tryz.prog 47 #[specV false AM nM cM AT nT cT AX nX cX AC nC cC AJ nJ cJ] w fun e w' => e = .returned (.bool false) ∧ Below w.heap.size w w' := by
  unfold specV
  have HB0 := Lib.hid ((Below.refl w.heap.size w).alloc (Nat.le_refl _) (.cells #[.bool false, .slice AM nM cM, .slice AT nT cT, .slice AX nX cX, .slice AC nC cC, .slice AJ nJ cJ] 48))
  have hd2 : decide (0 < nT) = true := decide_eq_true hd
  go_enter Tryz.func47, Tryz.ntmps47
  go_wp2_with fail
  go_ret
  exact ⟨rfl, HB0.out⟩
set_option maxHeartbeats 1000000 in
theorem right_t (q0 q1 q2 q3 q4 : Bool)
    (h0 : ∀ V, Below w.heap.size w V → Calls Tryz.prog 77 #[.slice AM 0 cM, .int .i64 744, .func (.func 78) #[] #[]] V fun e w' => e = .returned (.bool q0) ∧ Below V.heap.size V w')
    (h1 : ∀ V, Below w.heap.size w V → Calls Tryz.prog 79 #[.slice AT nT cT, .int .i64 744, .func (.func 80) #[] #[]] V fun e w' => e = .returned (.bool q1) ∧ Below V.heap.size V w')
    (h2 : ∀ V, Below w.heap.size w V → Calls Tryz.prog 81 #[.slice AX nX cX, .int .i64 32, .func (.func 82) #[] #[]] V fun e w' => e = .returned (.bool q2) ∧ Below V.heap.size V w')
    (h3 : ∀ V, Below w.heap.size w V → Calls Tryz.prog 83 #[.slice AC nC cC, .int .i64 64, .func (.func 84) #[] #[]] V fun e w' => e = .returned (.bool q3) ∧ Below V.heap.size V w')
    (h4 : ∀ V, Below w.heap.size w V → Calls Tryz.prog 85 #[.slice AJ nJ cJ, .int .i64 64, .func (.func 86) #[] #[]] V fun e w' => e = .returned (.bool q4) ∧ Below V.heap.size V w')
    : Calls Tryz.prog 47 #[specV true AM 0 cM AT nT cT AX nX cX AC nC cC AJ nJ cJ] w fun e w' => e = .returned (.bool (q0 && q1 && q2 && q3 && q4)) ∧ Below w.heap.size w w' := by
  unfold specV
  have H0 := Lib.hid h0
  have H1 := Lib.hid h1
  have H2 := Lib.hid h2
  have H3 := Lib.hid h3
  have H4 := Lib.hid h4
  have HB0 := Lib.hid ((Below.refl w.heap.size w).alloc (Nat.le_refl _) (.cells #[.bool true, .slice AM 0 cM, .slice AT nT cT, .slice AX nX cX, .slice AC nC cC, .slice AJ nJ cJ] 48))
  have HO0 := Lib.hid (blk_new w (.cells #[.bool true, .slice AM 0 cM, .slice AT nT cT, .slice AX nX cX, .slice AC nC cC, .slice AJ nJ cJ] 48))
  clear h0 h1 h2 h3 h4
  rcases q0 with _ | _
  · go_enter Tryz.func47, Tryz.ntmps47
    go_wp2_with (go_at_call 77; (refine (H0.out _ HB0.out).mono ?_); (rintro e V1 ⟨rfl, hb⟩); (have HB1 := Lib.hid (HB0.out.trans (hb.mono HB0.out.size))); (have HO1 := Lib.hid (blk_below hb (blk_lt HO0.out) HO0.out)); (have c1 := blk_cell HO1.out 2); (simp only [List.getElem?_toArray, List.getElem?_cons_zero, List.getElem?_cons_succ] at c1); (clear hb))
    go_ret
    exact ⟨rfl, HB1.out⟩
  ·
    rcases q1 with _ | _
    · go_enter Tryz.func47, Tryz.ntmps47
      go_wp2_with (first | (go_at_call 77; (refine (H0.out _ HB0.out).mono ?_); (rintro e V1 ⟨rfl, hb⟩); (have HB1 := Lib.hid (HB0.out.trans (hb.mono HB0.out.size))); (have HO1 := Lib.hid (blk_below hb (blk_lt HO0.out) HO0.out)); (have c1 := blk_cell HO1.out 2); (simp only [List.getElem?_toArray, List.getElem?_cons_zero, List.getElem?_cons_succ] at c1); (clear hb)) | (go_at_call 79; (refine (H1.out _ HB1.out).mono ?_); (rintro e V2 ⟨rfl, hb⟩); (have HB2 := Lib.hid (HB1.out.trans (hb.mono HB1.out.size))); (have HO2 := Lib.hid (blk_below hb (blk_lt HO1.out) HO1.out)); (have c2 := blk_cell HO2.out 3); (simp only [List.getElem?_toArray, List.getElem?_cons_zero, List.getElem?_cons_succ] at c2); (clear hb)))
      go_ret
      exact ⟨rfl, HB2.out⟩
    ·
      rcases q2 with _ | _
      · go_enter Tryz.func47, Tryz.ntmps47
        go_wp2_with (first | (go_at_call 77; (refine (H0.out _ HB0.out).mono ?_); (rintro e V1 ⟨rfl, hb⟩); (have HB1 := Lib.hid (HB0.out.trans (hb.mono HB0.out.size))); (have HO1 := Lib.hid (blk_below hb (blk_lt HO0.out) HO0.out)); (have c1 := blk_cell HO1.out 2); (simp only [List.getElem?_toArray, List.getElem?_cons_zero, List.getElem?_cons_succ] at c1); (clear hb)) | (go_at_call 79; (refine (H1.out _ HB1.out).mono ?_); (rintro e V2 ⟨rfl, hb⟩); (have HB2 := Lib.hid (HB1.out.trans (hb.mono HB1.out.size))); (have HO2 := Lib.hid (blk_below hb (blk_lt HO1.out) HO1.out)); (have c2 := blk_cell HO2.out 3); (simp only [List.getElem?_toArray, List.getElem?_cons_zero, List.getElem?_cons_succ] at c2); (clear hb)) | (go_at_call 81; (refine (H2.out _ HB2.out).mono ?_); (rintro e V3 ⟨rfl, hb⟩); (have HB3 := Lib.hid (HB2.out.trans (hb.mono HB2.out.size))); (have HO3 := Lib.hid (blk_below hb (blk_lt HO2.out) HO2.out)); (have c3 := blk_cell HO3.out 4); (simp only [List.getElem?_toArray, List.getElem?_cons_zero, List.getElem?_cons_succ] at c3); (clear hb)))
        go_ret
        exact ⟨rfl, HB3.out⟩
      ·
        rcases q3 with _ | _
        · go_enter Tryz.func47, Tryz.ntmps47
          go_wp2_with (first | (go_at_call 77; (refine (H0.out _ HB0.out).mono ?_); (rintro e V1 ⟨rfl, hb⟩); (have HB1 := Lib.hid (HB0.out.trans (hb.mono HB0.out.size))); (have HO1 := Lib.hid (blk_below hb (blk_lt HO0.out) HO0.out)); (have c1 := blk_cell HO1.out 2); (simp only [List.getElem?_toArray, List.getElem?_cons_zero, List.getElem?_cons_succ] at c1); (clear hb)) | (go_at_call 79; (refine (H1.out _ HB1.out).mono ?_); (rintro e V2 ⟨rfl, hb⟩); (have HB2 := Lib.hid (HB1.out.trans (hb.mono HB1.out.size))); (have HO2 := Lib.hid (blk_below hb (blk_lt HO1.out) HO1.out)); (have c2 := blk_cell HO2.out 3); (simp only [List.getElem?_toArray, List.getElem?_cons_zero, List.getElem?_cons_succ] at c2); (clear hb)) | (go_at_call 81; (refine (H2.out _ HB2.out).mono ?_); (rintro e V3 ⟨rfl, hb⟩); (have HB3 := Lib.hid (HB2.out.trans (hb.mono HB2.out.size))); (have HO3 := Lib.hid (blk_below hb (blk_lt HO2.out) HO2.out)); (have c3 := blk_cell HO3.out 4); (simp only [List.getElem?_toArray, List.getElem?_cons_zero, List.getElem?_cons_succ] at c3); (clear hb)) | (go_at_call 83; (refine (H3.out _ HB3.out).mono ?_); (rintro e V4 ⟨rfl, hb⟩); (have HB4 := Lib.hid (HB3.out.trans (hb.mono HB3.out.size))); (have HO4 := Lib.hid (blk_below hb (blk_lt HO3.out) HO3.out)); (have c4 := blk_cell HO4.out 5); (simp only [List.getElem?_toArray, List.getElem?_cons_zero, List.getElem?_cons_succ] at c4); (clear hb)))
          go_ret
          exact ⟨rfl, HB4.out⟩
        ·
          rcases q4 with _ | _
          · go_enter Tryz.func47, Tryz.ntmps47
            go_wp2_with (first | (go_at_call 77; (refine (H0.out _ HB0.out).mono ?_); (rintro e V1 ⟨rfl, hb⟩); (have HB1 := Lib.hid (HB0.out.trans (hb.mono HB0.out.size))); (have HO1 := Lib.hid (blk_below hb (blk_lt HO0.out) HO0.out)); (have c1 := blk_cell HO1.out 2); (simp only [List.getElem?_toArray, List.getElem?_cons_zero, List.getElem?_cons_succ] at c1); (clear hb)) | (go_at_call 79; (refine (H1.out _ HB1.out).mono ?_); (rintro e V2 ⟨rfl, hb⟩); (have HB2 := Lib.hid (HB1.out.trans (hb.mono HB1.out.size))); (have HO2 := Lib.hid (blk_below hb (blk_lt HO1.out) HO1.out)); (have c2 := blk_cell HO2.out 3); (simp only [List.getElem?_toArray, List.getElem?_cons_zero, List.getElem?_cons_succ] at c2); (clear hb)) | (go_at_call 81; (refine (H2.out _ HB2.out).mono ?_); (rintro e V3 ⟨rfl, hb⟩); (have HB3 := Lib.hid (HB2.out.trans (hb.mono HB2.out.size))); (have HO3 := Lib.hid (blk_below hb (blk_lt HO2.out) HO2.out)); (have c3 := blk_cell HO3.out 4); (simp only [List.getElem?_toArray, List.getElem?_cons_zero, List.getElem?_cons_succ] at c3); (clear hb)) | (go_at_call 83; (refine (H3.out _ HB3.out).mono ?_); (rintro e V4 ⟨rfl, hb⟩); (have HB4 := Lib.hid (HB3.out.trans (hb.mono HB3.out.size))); (have HO4 := Lib.hid (blk_below hb (blk_lt HO3.out) HO3.out)); (have c4 := blk_cell HO4.out 5); (simp only [List.getElem?_toArray, List.getElem?_cons_zero, List.getElem?_cons_succ] at c4); (clear hb)) | (go_at_call 85; (refine (H4.out _ HB4.out).mono ?_); (rintro e V5 ⟨rfl, hb⟩); (have HB5 := Lib.hid (HB4.out.trans (hb.mono HB4.out.size))); (clear hb)))
            go_ret
            exact ⟨rfl, HB5.out⟩
          ·
            go_enter Tryz.func47, Tryz.ntmps47
            go_wp2_with (first | (go_at_call 77; (refine (H0.out _ HB0.out).mono ?_); (rintro e V1 ⟨rfl, hb⟩); (have HB1 := Lib.hid (HB0.out.trans (hb.mono HB0.out.size))); (have HO1 := Lib.hid (blk_below hb (blk_lt HO0.out) HO0.out)); (have c1 := blk_cell HO1.out 2); (simp only [List.getElem?_toArray, List.getElem?_cons_zero, List.getElem?_cons_succ] at c1); (clear hb)) | (go_at_call 79; (refine (H1.out _ HB1.out).mono ?_); (rintro e V2 ⟨rfl, hb⟩); (have HB2 := Lib.hid (HB1.out.trans (hb.mono HB1.out.size))); (have HO2 := Lib.hid (blk_below hb (blk_lt HO1.out) HO1.out)); (have c2 := blk_cell HO2.out 3); (simp only [List.getElem?_toArray, List.getElem?_cons_zero, List.getElem?_cons_succ] at c2); (clear hb)) | (go_at_call 81; (refine (H2.out _ HB2.out).mono ?_); (rintro e V3 ⟨rfl, hb⟩); (have HB3 := Lib.hid (HB2.out.trans (hb.mono HB2.out.size))); (have HO3 := Lib.hid (blk_below hb (blk_lt HO2.out) HO2.out)); (have c3 := blk_cell HO3.out 4); (simp only [List.getElem?_toArray, List.getElem?_cons_zero, List.getElem?_cons_succ] at c3); (clear hb)) | (go_at_call 83; (refine (H3.out _ HB3.out).mono ?_); (rintro e V4 ⟨rfl, hb⟩); (have HB4 := Lib.hid (HB3.out.trans (hb.mono HB3.out.size))); (have HO4 := Lib.hid (blk_below hb (blk_lt HO3.out) HO3.out)); (have c4 := blk_cell HO4.out 5); (simp only [List.getElem?_toArray, List.getElem?_cons_zero, List.getElem?_cons_succ] at c4); (clear hb)) | (go_at_call 85; (refine (H4.out _ HB4.out).mono ?_); (rintro e V5 ⟨rfl, hb⟩); (have HB5 := Lib.hid (HB4.out.trans (hb.mono HB4.out.size))); (clear hb)))
            go_ret
            exact ⟨rfl, HB5.out⟩
set_option maxHeartbeats 1000000 in
theorem right_f (q0 q1 q2 q3 q4 : Bool)
    (h0 : ∀ V, Below w.heap.size w V → Calls Tryz.prog 77 #[.slice AM nM cM, .int .i64 744, .func (.func 78) #[] #[]] V fun e w' => e = .returned (.bool q0) ∧ Below V.heap.size V w')
    (h1 : ∀ V, Below w.heap.size w V → Calls Tryz.prog 79 #[.slice AT 0 cT, .int .i64 744, .func (.func 80) #[] #[]] V fun e w' => e = .returned (.bool q1) ∧ Below V.heap.size V w')
    (h2 : ∀ V, Below w.heap.size w V → Calls Tryz.prog 81 #[.slice AX nX cX, .int .i64 32, .func (.func 82) #[] #[]] V fun e w' => e = .returned (.bool q2) ∧ Below V.heap.size V w')
    (h3 : ∀ V, Below w.heap.size w V → Calls Tryz.prog 83 #[.slice AC nC cC, .int .i64 64, .func (.func 84) #[] #[]] V fun e w' => e = .returned (.bool q3) ∧ Below V.heap.size V w')
    (h4 : ∀ V, Below w.heap.size w V → Calls Tryz.prog 85 #[.slice AJ nJ cJ, .int .i64 64, .func (.func 86) #[] #[]] V fun e w' => e = .returned (.bool q4) ∧ Below V.heap.size V w')
    : Calls Tryz.prog 47 #[specV false AM nM cM AT 0 cT AX nX cX AC nC cC AJ nJ cJ] w fun e w' => e = .returned (.bool (q0 && q1 && q2 && q3 && q4)) ∧ Below w.heap.size w w' := by
  unfold specV
  have H0 := Lib.hid h0
  have H1 := Lib.hid h1
  have H2 := Lib.hid h2
  have H3 := Lib.hid h3
  have H4 := Lib.hid h4
  have HB0 := Lib.hid ((Below.refl w.heap.size w).alloc (Nat.le_refl _) (.cells #[.bool false, .slice AM nM cM, .slice AT 0 cT, .slice AX nX cX, .slice AC nC cC, .slice AJ nJ cJ] 48))
  have HO0 := Lib.hid (blk_new w (.cells #[.bool false, .slice AM nM cM, .slice AT 0 cT, .slice AX nX cX, .slice AC nC cC, .slice AJ nJ cJ] 48))
  clear h0 h1 h2 h3 h4
  rcases q0 with _ | _
  · go_enter Tryz.func47, Tryz.ntmps47
    go_wp2_with (go_at_call 77; (refine (H0.out _ HB0.out).mono ?_); (rintro e V1 ⟨rfl, hb⟩); (have HB1 := Lib.hid (HB0.out.trans (hb.mono HB0.out.size))); (have HO1 := Lib.hid (blk_below hb (blk_lt HO0.out) HO0.out)); (have c1 := blk_cell HO1.out 2); (simp only [List.getElem?_toArray, List.getElem?_cons_zero, List.getElem?_cons_succ] at c1); (clear hb))
    go_ret
    exact ⟨rfl, HB1.out⟩
  ·
    rcases q1 with _ | _
    · go_enter Tryz.func47, Tryz.ntmps47
      go_wp2_with (first | (go_at_call 77; (refine (H0.out _ HB0.out).mono ?_); (rintro e V1 ⟨rfl, hb⟩); (have HB1 := Lib.hid (HB0.out.trans (hb.mono HB0.out.size))); (have HO1 := Lib.hid (blk_below hb (blk_lt HO0.out) HO0.out)); (have c1 := blk_cell HO1.out 2); (simp only [List.getElem?_toArray, List.getElem?_cons_zero, List.getElem?_cons_succ] at c1); (clear hb)) | (go_at_call 79; (refine (H1.out _ HB1.out).mono ?_); (rintro e V2 ⟨rfl, hb⟩); (have HB2 := Lib.hid (HB1.out.trans (hb.mono HB1.out.size))); (have HO2 := Lib.hid (blk_below hb (blk_lt HO1.out) HO1.out)); (have c2 := blk_cell HO2.out 3); (simp only [List.getElem?_toArray, List.getElem?_cons_zero, List.getElem?_cons_succ] at c2); (clear hb)))
      go_ret
      exact ⟨rfl, HB2.out⟩
    ·
      rcases q2 with _ | _
      · go_enter Tryz.func47, Tryz.ntmps47
        go_wp2_with (first | (go_at_call 77; (refine (H0.out _ HB0.out).mono ?_); (rintro e V1 ⟨rfl, hb⟩); (have HB1 := Lib.hid (HB0.out.trans (hb.mono HB0.out.size))); (have HO1 := Lib.hid (blk_below hb (blk_lt HO0.out) HO0.out)); (have c1 := blk_cell HO1.out 2); (simp only [List.getElem?_toArray, List.getElem?_cons_zero, List.getElem?_cons_succ] at c1); (clear hb)) | (go_at_call 79; (refine (H1.out _ HB1.out).mono ?_); (rintro e V2 ⟨rfl, hb⟩); (have HB2 := Lib.hid (HB1.out.trans (hb.mono HB1.out.size))); (have HO2 := Lib.hid (blk_below hb (blk_lt HO1.out) HO1.out)); (have c2 := blk_cell HO2.out 3); (simp only [List.getElem?_toArray, List.getElem?_cons_zero, List.getElem?_cons_succ] at c2); (clear hb)) | (go_at_call 81; (refine (H2.out _ HB2.out).mono ?_); (rintro e V3 ⟨rfl, hb⟩); (have HB3 := Lib.hid (HB2.out.trans (hb.mono HB2.out.size))); (have HO3 := Lib.hid (blk_below hb (blk_lt HO2.out) HO2.out)); (have c3 := blk_cell HO3.out 4); (simp only [List.getElem?_toArray, List.getElem?_cons_zero, List.getElem?_cons_succ] at c3); (clear hb)))
        go_ret
        exact ⟨rfl, HB3.out⟩
      ·
        rcases q3 with _ | _
        · go_enter Tryz.func47, Tryz.ntmps47
          go_wp2_with (first | (go_at_call 77; (refine (H0.out _ HB0.out).mono ?_); (rintro e V1 ⟨rfl, hb⟩); (have HB1 := Lib.hid (HB0.out.trans (hb.mono HB0.out.size))); (have HO1 := Lib.hid (blk_below hb (blk_lt HO0.out) HO0.out)); (have c1 := blk_cell HO1.out 2); (simp only [List.getElem?_toArray, List.getElem?_cons_zero, List.getElem?_cons_succ] at c1); (clear hb)) | (go_at_call 79; (refine (H1.out _ HB1.out).mono ?_); (rintro e V2 ⟨rfl, hb⟩); (have HB2 := Lib.hid (HB1.out.trans (hb.mono HB1.out.size))); (have HO2 := Lib.hid (blk_below hb (blk_lt HO1.out) HO1.out)); (have c2 := blk_cell HO2.out 3); (simp only [List.getElem?_toArray, List.getElem?_cons_zero, List.getElem?_cons_succ] at c2); (clear hb)) | (go_at_call 81; (refine (H2.out _ HB2.out).mono ?_); (rintro e V3 ⟨rfl, hb⟩); (have HB3 := Lib.hid (HB2.out.trans (hb.mono HB2.out.size))); (have HO3 := Lib.hid (blk_below hb (blk_lt HO2.out) HO2.out)); (have c3 := blk_cell HO3.out 4); (simp only [List.getElem?_toArray, List.getElem?_cons_zero, List.getElem?_cons_succ] at c3); (clear hb)) | (go_at_call 83; (refine (H3.out _ HB3.out).mono ?_); (rintro e V4 ⟨rfl, hb⟩); (have HB4 := Lib.hid (HB3.out.trans (hb.mono HB3.out.size))); (have HO4 := Lib.hid (blk_below hb (blk_lt HO3.out) HO3.out)); (have c4 := blk_cell HO4.out 5); (simp only [List.getElem?_toArray, List.getElem?_cons_zero, List.getElem?_cons_succ] at c4); (clear hb)))
          go_ret
          exact ⟨rfl, HB4.out⟩
        ·
          rcases q4 with _ | _
          · go_enter Tryz.func47, Tryz.ntmps47
            go_wp2_with (first | (go_at_call 77; (refine (H0.out _ HB0.out).mono ?_); (rintro e V1 ⟨rfl, hb⟩); (have HB1 := Lib.hid (HB0.out.trans (hb.mono HB0.out.size))); (have HO1 := Lib.hid (blk_below hb (blk_lt HO0.out) HO0.out)); (have c1 := blk_cell HO1.out 2); (simp only [List.getElem?_toArray, List.getElem?_cons_zero, List.getElem?_cons_succ] at c1); (clear hb)) | (go_at_call 79; (refine (H1.out _ HB1.out).mono ?_); (rintro e V2 ⟨rfl, hb⟩); (have HB2 := Lib.hid (HB1.out.trans (hb.mono HB1.out.size))); (have HO2 := Lib.hid (blk_below hb (blk_lt HO1.out) HO1.out)); (have c2 := blk_cell HO2.out 3); (simp only [List.getElem?_toArray, List.getElem?_cons_zero, List.getElem?_cons_succ] at c2); (clear hb)) | (go_at_call 81; (refine (H2.out _ HB2.out).mono ?_); (rintro e V3 ⟨rfl, hb⟩); (have HB3 := Lib.hid (HB2.out.trans (hb.mono HB2.out.size))); (have HO3 := Lib.hid (blk_below hb (blk_lt HO2.out) HO2.out)); (have c3 := blk_cell HO3.out 4); (simp only [List.getElem?_toArray, List.getElem?_cons_zero, List.getElem?_cons_succ] at c3); (clear hb)) | (go_at_call 83; (refine (H3.out _ HB3.out).mono ?_); (rintro e V4 ⟨rfl, hb⟩); (have HB4 := Lib.hid (HB3.out.trans (hb.mono HB3.out.size))); (have HO4 := Lib.hid (blk_below hb (blk_lt HO3.out) HO3.out)); (have c4 := blk_cell HO4.out 5); (simp only [List.getElem?_toArray, List.getElem?_cons_zero, List.getElem?_cons_succ] at c4); (clear hb)) | (go_at_call 85; (refine (H4.out _ HB4.out).mono ?_); (rintro e V5 ⟨rfl, hb⟩); (have HB5 := Lib.hid (HB4.out.trans (hb.mono HB4.out.size))); (clear hb)))
            go_ret
            exact ⟨rfl, HB5.out⟩
          ·
            go_enter Tryz.func47, Tryz.ntmps47
            go_wp2_with (first | (go_at_call 77; (refine (H0.out _ HB0.out).mono ?_); (rintro e V1 ⟨rfl, hb⟩); (have HB1 := Lib.hid (HB0.out.trans (hb.mono HB0.out.size))); (have HO1 := Lib.hid (blk_below hb (blk_lt HO0.out) HO0.out)); (have c1 := blk_cell HO1.out 2); (simp only [List.getElem?_toArray, List.getElem?_cons_zero, List.getElem?_cons_succ] at c1); (clear hb)) | (go_at_call 79; (refine (H1.out _ HB1.out).mono ?_); (rintro e V2 ⟨rfl, hb⟩); (have HB2 := Lib.hid (HB1.out.trans (hb.mono HB1.out.size))); (have HO2 := Lib.hid (blk_below hb (blk_lt HO1.out) HO1.out)); (have c2 := blk_cell HO2.out 3); (simp only [List.getElem?_toArray, List.getElem?_cons_zero, List.getElem?_cons_succ] at c2); (clear hb)) | (go_at_call 81; (refine (H2.out _ HB2.out).mono ?_); (rintro e V3 ⟨rfl, hb⟩); (have HB3 := Lib.hid (HB2.out.trans (hb.mono HB2.out.size))); (have HO3 := Lib.hid (blk_below hb (blk_lt HO2.out) HO2.out)); (have c3 := blk_cell HO3.out 4); (simp only [List.getElem?_toArray, List.getElem?_cons_zero, List.getElem?_cons_succ] at c3); (clear hb)) | (go_at_call 83; (refine (H3.out _ HB3.out).mono ?_); (rintro e V4 ⟨rfl, hb⟩); (have HB4 := Lib.hid (HB3.out.trans (hb.mono HB3.out.size))); (have HO4 := Lib.hid (blk_below hb (blk_lt HO3.out) HO3.out)); (have c4 := blk_cell HO4.out 5); (simp only [List.getElem?_toArray, List.getElem?_cons_zero, List.getElem?_cons_succ] at c4); (clear hb)) | (go_at_call 85; (refine (H4.out _ HB4.out).mono ?_); (rintro e V5 ⟨rfl, hb⟩); (have HB5 := Lib.hid (HB4.out.trans (hb.mono HB4.out.size))); (clear hb)))
            go_ret
            exact ⟨rfl, HB5.out⟩
theorem sright_any (h : SpecAt w s AM AT AX AC AJ) : Calls Tryz.prog 47 #[specW s AM AT AX AC AJ cM cT cX cC cJ] w fun e w' => e = .returned (.bool (rightS s)) ∧ Below w.heap.size w w' := by
  obtain ⟨rk, ms, ts, xs, cs, js⟩ := s
  unfold specW rightS headR
  have k0 := fun V (hV : Below w.heap.size w V) => all_Mrg ms AM cM 744 V (h.ms.below hV (Nat.le_refl _)) h.len.1
  have k1 := fun V (hV : Below w.heap.size w V) => all_Txt ts AT cT 744 V (h.ts.below hV (Nat.le_refl _)) h.len.2.1
  have k2 := fun V (hV : Below w.heap.size w V) => all_Spl xs AX cX 32 V (h.xs.below hV (Nat.le_refl _)) h.len.2.2.1
  have k3 := fun V (hV : Below w.heap.size w V) => all_Cls cs AC cC 64 V (h.cs.below hV (Nat.le_refl _)) h.len.2.2.2.1
  have k4 := fun V (hV : Below w.heap.size w V) => all_Jns js AJ cJ 64 V (h.js.below hV (Nat.le_refl _)) h.len.2.2.2.2
  cases rk with
  | true =>
    by_cases hd : 0 < ms.length
    · have := right_bad_t (w := w) (AM := AM) (AT := AT) (AX := AX) (AC := AC) (AJ := AJ) (cM := cM) (cT := cT) (cX := cX) (cC := cC) (cJ := cJ) (nT := ts.length) (nX := xs.length) (nC := cs.length) (nJ := js.length) hd
      refine this.mono ?_
      rintro e w' ⟨rfl, hb⟩
      refine ⟨?_, hb⟩
      simp only [if_true]
      rw [decide_eq_false (show ¬ ms.length = 0 from by omega)]
      simp
    · obtain rfl : ms = [] := List.length_eq_zero_iff.1 (by omega)
      have := right_t _ _ _ _ _ k0 k1 k2 k3 k4
      refine this.mono ?_
      rintro e w' ⟨rfl, hb⟩
      refine ⟨?_, hb⟩
      simp only [if_true]
      simp only [List.length_nil, decide_true, Bool.true_and]
  | false =>
    by_cases hd : 0 < ts.length
    · have := right_bad_f (w := w) (AM := AM) (AT := AT) (AX := AX) (AC := AC) (AJ := AJ) (cM := cM) (cT := cT) (cX := cX) (cC := cC) (cJ := cJ) (nM := ms.length) (nX := xs.length) (nC := cs.length) (nJ := js.length) hd
      refine this.mono ?_
      rintro e w' ⟨rfl, hb⟩
      refine ⟨?_, hb⟩
      simp only [Bool.false_eq_true, if_false]
      rw [decide_eq_false (show ¬ ts.length = 0 from by omega)]
      simp
    · obtain rfl : ts = [] := List.length_eq_zero_iff.1 (by omega)
      have := right_f _ _ _ _ _ k0 k1 k2 k3 k4
      refine this.mono ?_
      rintro e w' ⟨rfl, hb⟩
      refine ⟨?_, hb⟩
      simp only [Bool.false_eq_true, if_false]
      simp only [List.length_nil, decide_true, Bool.true_and]
end
end Go.Proofs.YtbppaiejpgdbiaaGreat

/- Layer 10 (vocab): copies of slices. PRINTED by tools/spec_clone.py. -/
namespace Go.Proofs.YtbppaiejpgdbiaaGreat
open Go.RowKit Go.Maps Go.WideMaps
set_option maxRecDepth 100000
set_option linter.unusedVariables false
set_option linter.unusedSimpArgs false
theorem flat_at {α : Type} {enc : α → List Value} {sz : Nat} (hsz : ∀ x, (enc x).length = sz) : ∀ (l : List α) (j : Nat) (u : Value), (l.flatMap enc)[j]? = some u → ∃ i x k, l[i]? = some x ∧ (enc x)[k]? = some u ∧ j = i * sz + k
  | [], j, u, h => by simp at h
  | a :: l, j, u, h => by
    rw [List.flatMap_cons] at h
    by_cases hj : j < sz
    · rw [List.getElem?_append_left (by rw [hsz]; exact hj)] at h
      exact ⟨0, a, j, rfl, h, by omega⟩
    · rw [List.getElem?_append_right (by rw [hsz]; omega), hsz] at h
      obtain ⟨i, x, k, h1, h2, h3⟩ := flat_at hsz l _ _ h
      exact ⟨i + 1, x, k, by simpa using h1, h2, by rw [Nat.succ_mul]; omega⟩
theorem flat_len {α : Type} {enc : α → List Value} {sz : Nat} (hsz : ∀ x, (enc x).length = sz) : ∀ l : List α, (l.flatMap enc).length = l.length * sz
  | [] => by simp
  | a :: l => by rw [List.flatMap_cons, List.length_append, hsz, flat_len hsz l, List.length_cons, Nat.succ_mul]; omega
theorem flat_one {α : Type} {enc : α → List Value} (h1 : ∀ x, ∀ u ∈ enc x, u.oneCell' = true) (l : List α) : ∀ u ∈ l.flatMap enc, u.oneCell' = true := by
  intro u hu
  obtain ⟨x, _, hx⟩ := List.mem_flatMap.1 hu
  exact h1 x u hx
def encS1 (x : List UInt8) : List Value := [strV x]
theorem sl_of1 {w : World} {A : Option Addr} {l : List (List UInt8)} (h : Sl1 w A strV l) : Sl w A encS1 1 l := by
  intro i x hx
  obtain ⟨b, o, e, hc⟩ := h i x hx
  refine ⟨b, o, e, fun j v hv => ?_⟩
  cases j with
  | zero => cases hv; simpa using hc
  | succ j => simp [encS1] at hv
theorem sl_to1 {w : World} {A : Option Addr} {l : List (List UInt8)} (h : Sl w A encS1 1 l) : Sl1 w A strV l := by
  intro i x hx
  obtain ⟨b, o, e, hc⟩ := h i x hx
  exact ⟨b, o, e, by simpa using hc 0 _ rfl⟩
theorem info_cMrg : (Tryz.prog.info? 55).map (fun i => (i.zero, i.size, i.bytes)) = some (some (.agg #[.int .i64 0, .int .i64 0]), 2, 16) := by kernel_rfl
theorem eql_cMrg (A : Option Addr) (n c : Nat) (w : World) : (binOp .eql 32 (.slice A n c) (.slice none 0 0)).run Tryz.prog w = .ok (.bool A.isNone) w := by
  cases A <;> kernel_rfl
theorem len_cMrg (x : Int × Int) : (encM x).length = 2 := rfl
theorem one_cMrg (x : Int × Int) : ∀ u ∈ encM x, u.oneCell' = true := by
  intro u hu
  simp [encM] at hu
  (try (rcases hu with rfl | rfl | rfl)) <;> (try (rcases hu with rfl | rfl)) <;> (try subst hu) <;> rfl
theorem clone_Mrg (l : List (Int × Int)) (A : Option Addr) (c : Nat) (w : World) (h : Sl w A encM 2 l) (hlen : l.length ≤ 1000000) :
    Calls Tryz.prog 111 #[.slice A l.length c] w fun e w' => ∃ A' c', e = .returned (.slice A' l.length c') ∧ Sl w' A' encM 2 l ∧ (∀ a, A' = some a → w.heap.size ≤ a.block) ∧ Below w.heap.size w w' := by
  have HL := Lib.hid h
  clear h
  cases A with
  | none =>
    have hl0 : l = [] := by
      rcases l with _ | ⟨x, l⟩
      · rfl
      · obtain ⟨b, o, e, _⟩ := HL.out 0 x rfl
        cases e
    subst hl0
    have heq := eql_cMrg none 0 c w
    simp only [Option.isNone_none] at heq
    go_enter Tryz.func111, Tryz.ntmps111
    go_wp2_with fail
    go_ret
    exact ⟨none, 0, rfl, Sl.nil _ _ _ _, fun a ha => (by cases ha), Below.refl _ _⟩
  | some a =>
    have heq := eql_cMrg (some a) l.length c w
    simp only [Option.isNone_some] at heq
    have HE : Hid ((w.alloc (.cells #[] 55)).ownsRow w.heap.size 55 2 (.slice (some ⟨w.heap.size, 0, none⟩) 0 0) 0 []) := Lib.hid ⟨by simp, .inr ⟨w.heap.size, 0, #[], rfl, Nat.le_refl _, blk_new w _, Nat.le_refl _, Nat.zero_le _, by simp, by simp⟩⟩
    have HN : Hid (∀ j u, (l.flatMap encM)[j]? = some u → (w.alloc (.cells #[] 55)).cell? (a.add j) = some u) := Lib.hid (by
      intro j u hu
      obtain ⟨i, x, k, h1, h2, rfl⟩ := flat_at len_cMrg l j u hu
      obtain ⟨b, o, e, hc⟩ := HL.out i x h1
      cases e
      rw [add_plain, ← Nat.add_assoc]
      exact below_cell ((Below.refl w.heap.size w).alloc (Nat.le_refl _) _) (Nat.le_refl _) (hc k u h2))
    have H1 := Lib.hid (flat_one one_cMrg l)
    have HLEN := Lib.hid (flat_len len_cMrg l)
    obtain ⟨i, hif, hz0, hz1, hz2⟩ := info_parts info_cMrg
    have HI := Lib.hid hif
    have HZ := Lib.hid (And.intro hz0 (And.intro hz1 hz2))
    clear hif hz0 hz1 hz2
    go_enter Tryz.func111, Tryz.ntmps111
    go_wp2_with (at_builtin; refine wpList_append_own_at _ rfl _ _ 32 rfl w.heap.size 55 i (.agg #[.int .i64 0, .int .i64 0]) 2 16 Tryz.underlying32 HI.out HZ.out.1 HZ.out.2.1 HZ.out.2.2 rfl (by decide) _ 0 [] rfl HE.out a l.length c _ rfl HLEN.out HN.out H1.out (by unfold maxLen; omega) (by omega) (by simp) ?_)
    intro v' w' r1 r2 _ _
    have hb : Below w.heap.size w w' := by
      have h0 := (Below.refl w.heap.size w).alloc (Nat.le_refl _) (.cells #[] 55)
      have hk : Keep (fun k => k = w.heap.size) (w.alloc (.cells #[] 55)) w' := Keep.of_grown r2 (fun k hk => by simpa [Value.ownBlock] using hk.symm)
      exact h0.trans (hk.below (by simp) (fun x hx => by omega))
    obtain ⟨A, c', rfl⟩ := own_slice r1
    have HB := Lib.hid hb
    have HR := Lib.hid r1
    clear r1 r2 hb
    go_wp2_with fail
    go_ret
    refine ⟨_, _, rfl, own_sl len_cMrg HR.out (by decide), fun a ha => ?_, HB.out⟩
    subst ha
    rcases HR.out.2 with ⟨h1, _⟩ | ⟨g, cap, cur, h1, hb, hg, _⟩
    · cases h1
    · cases h1; exact hb
theorem info_cTxt : (Tryz.prog.info? 9).map (fun i => (i.zero, i.size, i.bytes)) = some (some (.string ⟨#[]⟩), 1, 16) := by kernel_rfl
theorem eql_cTxt (A : Option Addr) (n c : Nat) (w : World) : (binOp .eql 31 (.slice A n c) (.slice none 0 0)).run Tryz.prog w = .ok (.bool A.isNone) w := by
  cases A <;> kernel_rfl
theorem len_cTxt (x : List UInt8) : (encS1 x).length = 1 := rfl
theorem one_cTxt (x : List UInt8) : ∀ u ∈ encS1 x, u.oneCell' = true := by
  intro u hu
  simp [encS1, strV] at hu
  (try (rcases hu with rfl | rfl | rfl)) <;> (try (rcases hu with rfl | rfl)) <;> (try subst hu) <;> rfl
theorem clone_Txt (l : List (List UInt8)) (A : Option Addr) (c : Nat) (w : World) (h : Sl w A encS1 1 l) (hlen : l.length ≤ 1000000) :
    Calls Tryz.prog 112 #[.slice A l.length c] w fun e w' => ∃ A' c', e = .returned (.slice A' l.length c') ∧ Sl w' A' encS1 1 l ∧ (∀ a, A' = some a → w.heap.size ≤ a.block) ∧ Below w.heap.size w w' := by
  have HL := Lib.hid h
  clear h
  cases A with
  | none =>
    have hl0 : l = [] := by
      rcases l with _ | ⟨x, l⟩
      · rfl
      · obtain ⟨b, o, e, _⟩ := HL.out 0 x rfl
        cases e
    subst hl0
    have heq := eql_cTxt none 0 c w
    simp only [Option.isNone_none] at heq
    go_enter Tryz.func112, Tryz.ntmps112
    go_wp2_with fail
    go_ret
    exact ⟨none, 0, rfl, Sl.nil _ _ _ _, fun a ha => (by cases ha), Below.refl _ _⟩
  | some a =>
    have heq := eql_cTxt (some a) l.length c w
    simp only [Option.isNone_some] at heq
    have HE : Hid ((w.alloc (.cells #[] 9)).ownsRow w.heap.size 9 1 (.slice (some ⟨w.heap.size, 0, none⟩) 0 0) 0 []) := Lib.hid ⟨by simp, .inr ⟨w.heap.size, 0, #[], rfl, Nat.le_refl _, blk_new w _, Nat.le_refl _, Nat.zero_le _, by simp, by simp⟩⟩
    have HN : Hid (∀ j u, (l.flatMap encS1)[j]? = some u → (w.alloc (.cells #[] 9)).cell? (a.add j) = some u) := Lib.hid (by
      intro j u hu
      obtain ⟨i, x, k, h1, h2, rfl⟩ := flat_at len_cTxt l j u hu
      obtain ⟨b, o, e, hc⟩ := HL.out i x h1
      cases e
      rw [add_plain, ← Nat.add_assoc]
      exact below_cell ((Below.refl w.heap.size w).alloc (Nat.le_refl _) _) (Nat.le_refl _) (hc k u h2))
    have H1 := Lib.hid (flat_one one_cTxt l)
    have HLEN := Lib.hid (flat_len len_cTxt l)
    obtain ⟨i, hif, hz0, hz1, hz2⟩ := info_parts info_cTxt
    have HI := Lib.hid hif
    have HZ := Lib.hid (And.intro hz0 (And.intro hz1 hz2))
    clear hif hz0 hz1 hz2
    go_enter Tryz.func112, Tryz.ntmps112
    go_wp2_with (at_builtin; refine wpList_append_own_at _ rfl _ _ 31 rfl w.heap.size 9 i (.string ⟨#[]⟩) 1 16 Tryz.underlying31 HI.out HZ.out.1 HZ.out.2.1 HZ.out.2.2 rfl (by decide) _ 0 [] rfl HE.out a l.length c _ rfl HLEN.out HN.out H1.out (by unfold maxLen; omega) (by omega) (by simp) ?_)
    intro v' w' r1 r2 _ _
    have hb : Below w.heap.size w w' := by
      have h0 := (Below.refl w.heap.size w).alloc (Nat.le_refl _) (.cells #[] 9)
      have hk : Keep (fun k => k = w.heap.size) (w.alloc (.cells #[] 9)) w' := Keep.of_grown r2 (fun k hk => by simpa [Value.ownBlock] using hk.symm)
      exact h0.trans (hk.below (by simp) (fun x hx => by omega))
    obtain ⟨A, c', rfl⟩ := own_slice r1
    have HB := Lib.hid hb
    have HR := Lib.hid r1
    clear r1 r2 hb
    go_wp2_with fail
    go_ret
    refine ⟨_, _, rfl, own_sl len_cTxt HR.out (by decide), fun a ha => ?_, HB.out⟩
    subst ha
    rcases HR.out.2 with ⟨h1, _⟩ | ⟨g, cap, cur, h1, hb, hg, _⟩
    · cases h1
    · cases h1; exact hb
theorem info_cSpl : (Tryz.prog.info? 98).map (fun i => (i.zero, i.size, i.bytes)) = some (some (.agg #[.int .i64 0, .string ⟨#[]⟩]), 2, 24) := by kernel_rfl
theorem eql_cSpl (A : Option Addr) (n c : Nat) (w : World) : (binOp .eql 25 (.slice A n c) (.slice none 0 0)).run Tryz.prog w = .ok (.bool A.isNone) w := by
  cases A <;> kernel_rfl
theorem len_cSpl (x : Int × List UInt8) : (encIS x).length = 2 := rfl
theorem one_cSpl (x : Int × List UInt8) : ∀ u ∈ encIS x, u.oneCell' = true := by
  intro u hu
  simp [encIS, strV] at hu
  (try (rcases hu with rfl | rfl | rfl)) <;> (try (rcases hu with rfl | rfl)) <;> (try subst hu) <;> rfl
theorem clone_Spl (l : List (Int × List UInt8)) (A : Option Addr) (c : Nat) (w : World) (h : Sl w A encIS 2 l) (hlen : l.length ≤ 1000000) :
    Calls Tryz.prog 113 #[.slice A l.length c] w fun e w' => ∃ A' c', e = .returned (.slice A' l.length c') ∧ Sl w' A' encIS 2 l ∧ (∀ a, A' = some a → w.heap.size ≤ a.block) ∧ Below w.heap.size w w' := by
  have HL := Lib.hid h
  clear h
  cases A with
  | none =>
    have hl0 : l = [] := by
      rcases l with _ | ⟨x, l⟩
      · rfl
      · obtain ⟨b, o, e, _⟩ := HL.out 0 x rfl
        cases e
    subst hl0
    have heq := eql_cSpl none 0 c w
    simp only [Option.isNone_none] at heq
    go_enter Tryz.func113, Tryz.ntmps113
    go_wp2_with fail
    go_ret
    exact ⟨none, 0, rfl, Sl.nil _ _ _ _, fun a ha => (by cases ha), Below.refl _ _⟩
  | some a =>
    have heq := eql_cSpl (some a) l.length c w
    simp only [Option.isNone_some] at heq
    have HE : Hid ((w.alloc (.cells #[] 98)).ownsRow w.heap.size 98 2 (.slice (some ⟨w.heap.size, 0, none⟩) 0 0) 0 []) := Lib.hid ⟨by simp, .inr ⟨w.heap.size, 0, #[], rfl, Nat.le_refl _, blk_new w _, Nat.le_refl _, Nat.zero_le _, by simp, by simp⟩⟩
    have HN : Hid (∀ j u, (l.flatMap encIS)[j]? = some u → (w.alloc (.cells #[] 98)).cell? (a.add j) = some u) := Lib.hid (by
      intro j u hu
      obtain ⟨i, x, k, h1, h2, rfl⟩ := flat_at len_cSpl l j u hu
      obtain ⟨b, o, e, hc⟩ := HL.out i x h1
      cases e
      rw [add_plain, ← Nat.add_assoc]
      exact below_cell ((Below.refl w.heap.size w).alloc (Nat.le_refl _) _) (Nat.le_refl _) (hc k u h2))
    have H1 := Lib.hid (flat_one one_cSpl l)
    have HLEN := Lib.hid (flat_len len_cSpl l)
    obtain ⟨i, hif, hz0, hz1, hz2⟩ := info_parts info_cSpl
    have HI := Lib.hid hif
    have HZ := Lib.hid (And.intro hz0 (And.intro hz1 hz2))
    clear hif hz0 hz1 hz2
    go_enter Tryz.func113, Tryz.ntmps113
    go_wp2_with (at_builtin; refine wpList_append_own_at _ rfl _ _ 25 rfl w.heap.size 98 i (.agg #[.int .i64 0, .string ⟨#[]⟩]) 2 24 Tryz.underlying25 HI.out HZ.out.1 HZ.out.2.1 HZ.out.2.2 rfl (by decide) _ 0 [] rfl HE.out a l.length c _ rfl HLEN.out HN.out H1.out (by unfold maxLen; omega) (by omega) (by simp) ?_)
    intro v' w' r1 r2 _ _
    have hb : Below w.heap.size w w' := by
      have h0 := (Below.refl w.heap.size w).alloc (Nat.le_refl _) (.cells #[] 98)
      have hk : Keep (fun k => k = w.heap.size) (w.alloc (.cells #[] 98)) w' := Keep.of_grown r2 (fun k hk => by simpa [Value.ownBlock] using hk.symm)
      exact h0.trans (hk.below (by simp) (fun x hx => by omega))
    obtain ⟨A, c', rfl⟩ := own_slice r1
    have HB := Lib.hid hb
    have HR := Lib.hid r1
    clear r1 r2 hb
    go_wp2_with fail
    go_ret
    refine ⟨_, _, rfl, own_sl len_cSpl HR.out (by decide), fun a ha => ?_, HB.out⟩
    subst ha
    rcases HR.out.2 with ⟨h1, _⟩ | ⟨g, cap, cur, h1, hb, hg, _⟩
    · cases h1
    · cases h1; exact hb
theorem info_cCls : (Tryz.prog.info? 132).map (fun i => (i.zero, i.size, i.bytes)) = some (some (.agg #[.int .i64 0, .int .i64 0, .int .i64 0]), 3, 24) := by kernel_rfl
theorem eql_cCls (A : Option Addr) (n c : Nat) (w : World) : (binOp .eql 23 (.slice A n c) (.slice none 0 0)).run Tryz.prog w = .ok (.bool A.isNone) w := by
  cases A <;> kernel_rfl
theorem len_cCls (x : Cls) : (encCls x).length = 3 := rfl
theorem one_cCls (x : Cls) : ∀ u ∈ encCls x, u.oneCell' = true := by
  intro u hu
  simp [encCls] at hu
  (try (rcases hu with rfl | rfl | rfl)) <;> (try (rcases hu with rfl | rfl)) <;> (try subst hu) <;> rfl
theorem clone_Cls (l : List (Cls)) (A : Option Addr) (c : Nat) (w : World) (h : Sl w A encCls 3 l) (hlen : l.length ≤ 1000000) :
    Calls Tryz.prog 114 #[.slice A l.length c] w fun e w' => ∃ A' c', e = .returned (.slice A' l.length c') ∧ Sl w' A' encCls 3 l ∧ (∀ a, A' = some a → w.heap.size ≤ a.block) ∧ Below w.heap.size w w' := by
  have HL := Lib.hid h
  clear h
  cases A with
  | none =>
    have hl0 : l = [] := by
      rcases l with _ | ⟨x, l⟩
      · rfl
      · obtain ⟨b, o, e, _⟩ := HL.out 0 x rfl
        cases e
    subst hl0
    have heq := eql_cCls none 0 c w
    simp only [Option.isNone_none] at heq
    go_enter Tryz.func114, Tryz.ntmps114
    go_wp2_with fail
    go_ret
    exact ⟨none, 0, rfl, Sl.nil _ _ _ _, fun a ha => (by cases ha), Below.refl _ _⟩
  | some a =>
    have heq := eql_cCls (some a) l.length c w
    simp only [Option.isNone_some] at heq
    have HE : Hid ((w.alloc (.cells #[] 132)).ownsRow w.heap.size 132 3 (.slice (some ⟨w.heap.size, 0, none⟩) 0 0) 0 []) := Lib.hid ⟨by simp, .inr ⟨w.heap.size, 0, #[], rfl, Nat.le_refl _, blk_new w _, Nat.le_refl _, Nat.zero_le _, by simp, by simp⟩⟩
    have HN : Hid (∀ j u, (l.flatMap encCls)[j]? = some u → (w.alloc (.cells #[] 132)).cell? (a.add j) = some u) := Lib.hid (by
      intro j u hu
      obtain ⟨i, x, k, h1, h2, rfl⟩ := flat_at len_cCls l j u hu
      obtain ⟨b, o, e, hc⟩ := HL.out i x h1
      cases e
      rw [add_plain, ← Nat.add_assoc]
      exact below_cell ((Below.refl w.heap.size w).alloc (Nat.le_refl _) _) (Nat.le_refl _) (hc k u h2))
    have H1 := Lib.hid (flat_one one_cCls l)
    have HLEN := Lib.hid (flat_len len_cCls l)
    obtain ⟨i, hif, hz0, hz1, hz2⟩ := info_parts info_cCls
    have HI := Lib.hid hif
    have HZ := Lib.hid (And.intro hz0 (And.intro hz1 hz2))
    clear hif hz0 hz1 hz2
    go_enter Tryz.func114, Tryz.ntmps114
    go_wp2_with (at_builtin; refine wpList_append_own_at _ rfl _ _ 23 rfl w.heap.size 132 i (.agg #[.int .i64 0, .int .i64 0, .int .i64 0]) 3 24 Tryz.underlying23 HI.out HZ.out.1 HZ.out.2.1 HZ.out.2.2 rfl (by decide) _ 0 [] rfl HE.out a l.length c _ rfl HLEN.out HN.out H1.out (by unfold maxLen; omega) (by omega) (by simp) ?_)
    intro v' w' r1 r2 _ _
    have hb : Below w.heap.size w w' := by
      have h0 := (Below.refl w.heap.size w).alloc (Nat.le_refl _) (.cells #[] 132)
      have hk : Keep (fun k => k = w.heap.size) (w.alloc (.cells #[] 132)) w' := Keep.of_grown r2 (fun k hk => by simpa [Value.ownBlock] using hk.symm)
      exact h0.trans (hk.below (by simp) (fun x hx => by omega))
    obtain ⟨A, c', rfl⟩ := own_slice r1
    have HB := Lib.hid hb
    have HR := Lib.hid r1
    clear r1 r2 hb
    go_wp2_with fail
    go_ret
    refine ⟨_, _, rfl, own_sl len_cCls HR.out (by decide), fun a ha => ?_, HB.out⟩
    subst ha
    rcases HR.out.2 with ⟨h1, _⟩ | ⟨g, cap, cur, h1, hb, hg, _⟩
    · cases h1
    · cases h1; exact hb
theorem info_cJns : (Tryz.prog.info? 133).map (fun i => (i.zero, i.size, i.bytes)) = some (some (.agg #[.int .i64 0, .int .i64 0]), 2, 16) := by kernel_rfl
theorem eql_cJns (A : Option Addr) (n c : Nat) (w : World) : (binOp .eql 24 (.slice A n c) (.slice none 0 0)).run Tryz.prog w = .ok (.bool A.isNone) w := by
  cases A <;> kernel_rfl
theorem len_cJns (x : Jn) : (encJn x).length = 2 := rfl
theorem one_cJns (x : Jn) : ∀ u ∈ encJn x, u.oneCell' = true := by
  intro u hu
  simp [encJn] at hu
  (try (rcases hu with rfl | rfl | rfl)) <;> (try (rcases hu with rfl | rfl)) <;> (try subst hu) <;> rfl
theorem clone_Jns (l : List (Jn)) (A : Option Addr) (c : Nat) (w : World) (h : Sl w A encJn 2 l) (hlen : l.length ≤ 1000000) :
    Calls Tryz.prog 115 #[.slice A l.length c] w fun e w' => ∃ A' c', e = .returned (.slice A' l.length c') ∧ Sl w' A' encJn 2 l ∧ (∀ a, A' = some a → w.heap.size ≤ a.block) ∧ Below w.heap.size w w' := by
  have HL := Lib.hid h
  clear h
  cases A with
  | none =>
    have hl0 : l = [] := by
      rcases l with _ | ⟨x, l⟩
      · rfl
      · obtain ⟨b, o, e, _⟩ := HL.out 0 x rfl
        cases e
    subst hl0
    have heq := eql_cJns none 0 c w
    simp only [Option.isNone_none] at heq
    go_enter Tryz.func115, Tryz.ntmps115
    go_wp2_with fail
    go_ret
    exact ⟨none, 0, rfl, Sl.nil _ _ _ _, fun a ha => (by cases ha), Below.refl _ _⟩
  | some a =>
    have heq := eql_cJns (some a) l.length c w
    simp only [Option.isNone_some] at heq
    have HE : Hid ((w.alloc (.cells #[] 133)).ownsRow w.heap.size 133 2 (.slice (some ⟨w.heap.size, 0, none⟩) 0 0) 0 []) := Lib.hid ⟨by simp, .inr ⟨w.heap.size, 0, #[], rfl, Nat.le_refl _, blk_new w _, Nat.le_refl _, Nat.zero_le _, by simp, by simp⟩⟩
    have HN : Hid (∀ j u, (l.flatMap encJn)[j]? = some u → (w.alloc (.cells #[] 133)).cell? (a.add j) = some u) := Lib.hid (by
      intro j u hu
      obtain ⟨i, x, k, h1, h2, rfl⟩ := flat_at len_cJns l j u hu
      obtain ⟨b, o, e, hc⟩ := HL.out i x h1
      cases e
      rw [add_plain, ← Nat.add_assoc]
      exact below_cell ((Below.refl w.heap.size w).alloc (Nat.le_refl _) _) (Nat.le_refl _) (hc k u h2))
    have H1 := Lib.hid (flat_one one_cJns l)
    have HLEN := Lib.hid (flat_len len_cJns l)
    obtain ⟨i, hif, hz0, hz1, hz2⟩ := info_parts info_cJns
    have HI := Lib.hid hif
    have HZ := Lib.hid (And.intro hz0 (And.intro hz1 hz2))
    clear hif hz0 hz1 hz2
    go_enter Tryz.func115, Tryz.ntmps115
    go_wp2_with (at_builtin; refine wpList_append_own_at _ rfl _ _ 24 rfl w.heap.size 133 i (.agg #[.int .i64 0, .int .i64 0]) 2 16 Tryz.underlying24 HI.out HZ.out.1 HZ.out.2.1 HZ.out.2.2 rfl (by decide) _ 0 [] rfl HE.out a l.length c _ rfl HLEN.out HN.out H1.out (by unfold maxLen; omega) (by omega) (by simp) ?_)
    intro v' w' r1 r2 _ _
    have hb : Below w.heap.size w w' := by
      have h0 := (Below.refl w.heap.size w).alloc (Nat.le_refl _) (.cells #[] 133)
      have hk : Keep (fun k => k = w.heap.size) (w.alloc (.cells #[] 133)) w' := Keep.of_grown r2 (fun k hk => by simpa [Value.ownBlock] using hk.symm)
      exact h0.trans (hk.below (by simp) (fun x hx => by omega))
    obtain ⟨A, c', rfl⟩ := own_slice r1
    have HB := Lib.hid hb
    have HR := Lib.hid r1
    clear r1 r2 hb
    go_wp2_with fail
    go_ret
    refine ⟨_, _, rfl, own_sl len_cJns HR.out (by decide), fun a ha => ?_, HB.out⟩
    subst ha
    rcases HR.out.2 with ⟨h1, _⟩ | ⟨g, cap, cur, h1, hb, hg, _⟩
    · cases h1
    · cases h1; exact hb
end Go.Proofs.YtbppaiejpgdbiaaGreat

/- Layer 10 (vocab): a spec in memory of its own. PRINTED by tools/spec_copied.py. -/
namespace Go.Proofs.YtbppaiejpgdbiaaGreat
open Go.RowKit Go.Maps Go.WideMaps
set_option maxRecDepth 100000
set_option linter.unusedVariables false
set_option linter.unusedSimpArgs false
/-- a copy: it does not lie in a block -/
def Fr {α : Type} (W : World) (sb : Nat) (A : Option Addr) (enc : α → List Value) (sz : Nat) (l : List α) : Prop := Sl W A enc sz l ∧ ∀ a, A = some a → sb + 1 < a.block
theorem Fr.below {α : Type} {W V : World} {sb : Nat} {A : Option Addr} {enc : α → List Value} {sz : Nat} {l : List α} (h : Fr W sb A enc sz l) (hb : Below W.heap.size W V) : Fr V sb A enc sz l := ⟨h.1.below hb (Nat.le_refl _), h.2⟩
theorem Fr.keep {α : Type} {W V : World} {sb : Nat} {A : Option Addr} {enc : α → List Value} {sz : Nat} {l : List α} (h : Fr W sb A enc sz l) (hk : Keep (fun g => g = sb) W V) : Fr V sb A enc sz l := ⟨sl_keep h.1 hk (fun a ha e => by have := h.2 a ha; omega), h.2⟩
theorem Fr.keep1 {α : Type} {W V : World} {sb : Nat} {A : Option Addr} {enc : α → List Value} {sz : Nat} {l : List α} (h : Fr W sb A enc sz l) (hk : Keep (fun g => g = sb + 1) W V) : Sl V A enc sz l := sl_keep h.1 hk (fun a ha e => by have := h.2 a ha; omega)
structure CpIs (w W : World) (sb : Nat) (C : List Value) : Prop where
  bl : Below w.heap.size w W
  blk : W.heap[sb]? = some (.cells C.toArray 48)
  res : W.heap[sb + 1]? = some (.cells #[.bool false, .slice none 0 0, .slice none 0 0, .slice none 0 0, .slice none 0 0, .slice none 0 0] 48)
  lt : w.heap.size ≤ sb
theorem CpIs.below {w W V : World} {sb : Nat} {C : List Value} (h : CpIs w W sb C) (hb : Below W.heap.size W V) : CpIs w V sb C :=
  ⟨h.bl.trans (hb.mono h.bl.size), blk_below hb (blk_lt h.blk) h.blk, blk_below hb (blk_lt h.res) h.res, h.lt⟩
theorem CpIs.put {w W V : World} {sb : Nat} {C C' : List Value} (h : CpIs w W sb C) (hk : Keep (fun g => g = sb) W V) (hc : V.heap[sb]? = some (.cells C'.toArray 48)) : CpIs w V sb C' :=
  ⟨h.bl.trans (hk.below h.bl.size (fun x hx => by have := h.lt; omega)), hc, hk.blk h.res (by omega), h.lt⟩
theorem Fr.drew {α : Type} {W : World} {sb : Nat} {A : Option Addr} {enc : α → List Value} {sz : Nat} {l : List α} (h : Fr W sb A enc sz l) : Fr W.drew sb A enc sz l := h
theorem CpIs.drew {w W : World} {sb : Nat} {C : List Value} (h : CpIs w W sb C) : CpIs w W.drew sb C := ⟨h.bl.drew, h.blk, h.res, h.lt⟩
theorem CpIs.fresh {α : Type} {w W V : World} {sb : Nat} {C : List Value} {A : Option Addr} {enc : α → List Value} {sz : Nat} {l : List α} (h : CpIs w W sb C) (hs : Sl V A enc sz l) (hf : ∀ a, A = some a → W.heap.size ≤ a.block) : Fr V sb A enc sz l :=
  ⟨hs, fun a ha => by have := hf a ha; have := blk_lt h.res; omega⟩
theorem load_spec {w : World} {r : Nat} {rk : Bool} {AM AT AX AC AJ : Option Addr} {nM nT nX nC nJ cM cT cX cC cJ : Nat} (h : w.heap[r]? = some (.cells #[.bool rk, .slice AM nM cM, .slice AT nT cT, .slice AX nX cX, .slice AC nC cC, .slice AJ nJ cJ] 48)) :
    (loadVar 48 ⟨r, 0, none⟩).run Tryz.prog w = .ok (specV rk AM nM cM AT nT cT AX nX cX AC nC cC AJ nJ cJ) w := by
  have n0 := blk_cell h 0
  have n1 := blk_cell h 1
  have n2 := blk_cell h 2
  have n3 := blk_cell h 3
  have n4 := blk_cell h 4
  have n5 := blk_cell h 5
  simp only [List.getElem?_toArray, List.getElem?_cons_zero, List.getElem?_cons_succ] at n0 n1 n2 n3 n4 n5
  simp [go_sem, specV, n0, n1, n2, n3, n4, n5]
section
variable {w : World} {s : SpecP} {AM AT AX AC AJ : Option Addr} {cM cT cX cC cJ : Nat}
set_option maxHeartbeats 8000000 in
theorem copied_any (hs : SpecAt w s AM AT AX AC AJ) (hln : s.ms.length ≤ 1000000 ∧ s.ts.length ≤ 1000000 ∧ s.xs.length ≤ 1000000 ∧ s.cs.length ≤ 1000000 ∧ s.js.length ≤ 1000000) :
    Calls Tryz.prog 76 #[specW s AM AT AX AC AJ cM cT cX cC cJ] w fun e w' => (∃ A1 A2 A3 A4 A5 c1 c2 c3 c4 c5, e = .returned (specW s A1 A2 A3 A4 A5 c1 c2 c3 c4 c5) ∧ SpecAt w' s A1 A2 A3 A4 A5) ∧ Below w.heap.size w w' := by
  unfold specW specV
  have HS0 := Lib.hid hs
  have HLN := Lib.hid hln
  have hb1 := (Below.refl w.heap.size w).alloc (Nat.le_refl _) (.cells #[.bool s.rk, .slice AM s.ms.length cM, .slice AT s.ts.length cT, .slice AX s.xs.length cX, .slice AC s.cs.length cC, .slice AJ s.js.length cJ] 48)
  have hb2 := hb1.alloc (by simp) (.cells #[.bool false, .slice none 0 0, .slice none 0 0, .slice none 0 0, .slice none 0 0, .slice none 0 0] 48)
  have HC0 : Hid (CpIs w ((w.alloc (.cells #[.bool s.rk, .slice AM s.ms.length cM, .slice AT s.ts.length cT, .slice AX s.xs.length cX, .slice AC s.cs.length cC, .slice AJ s.js.length cJ] 48)).alloc (.cells #[.bool false, .slice none 0 0, .slice none 0 0, .slice none 0 0, .slice none 0 0, .slice none 0 0] 48)) w.heap.size [.bool s.rk, .slice AM s.ms.length cM, .slice AT s.ts.length cT, .slice AX s.xs.length cX, .slice AC s.cs.length cC, .slice AJ s.js.length cJ]) := Lib.hid ⟨hb2, blk_alloc (blk_new w _) _, by have := blk_new (w.alloc (.cells #[.bool s.rk, .slice AM s.ms.length cM, .slice AT s.ts.length cT, .slice AX s.xs.length cX, .slice AC s.cs.length cC, .slice AJ s.js.length cJ] 48)) (.cells #[.bool false, .slice none 0 0, .slice none 0 0, .slice none 0 0, .slice none 0 0, .slice none 0 0] 48); simpa using this, Nat.le_refl _⟩
  clear hs hln hb1 hb2
  go_enter Tryz.func76, Tryz.ntmps76
  go_upto_region 1 with fail
  obtain ⟨W0, hW0⟩ : ∃ W0, ((w.alloc (.cells #[.bool s.rk, .slice AM s.ms.length cM, .slice AT s.ts.length cT, .slice AX s.xs.length cX, .slice AC s.cs.length cC, .slice AJ s.js.length cJ] 48)).alloc (.cells #[.bool false, .slice none 0 0, .slice none 0 0, .slice none 0 0, .slice none 0 0, .slice none 0 0] 48)) = W0 := ⟨_, rfl⟩
  rw [hW0] at HC0 ⊢
  obtain ⟨sb, hsb⟩ : ∃ sb, w.heap.size = sb := ⟨_, rfl⟩
  have HC : Hid (CpIs w W0 sb [.bool s.rk, .slice AM s.ms.length cM, .slice AT s.ts.length cT, .slice AX s.xs.length cX, .slice AC s.cs.length cC, .slice AJ s.js.length cJ]) := Lib.hid (by rw [← hsb]; exact HC0.out)
  clear HC0 hW0
  refine wp_region_D (Ds := [10, 12, 14]) (S := fun V => V.cell? ⟨sb, 1, none⟩ = some (.slice AM s.ms.length cM) ∧ V.cell? ⟨sb, 2, none⟩ = some (.slice AT s.ts.length cT) ∧ V.cell? ⟨sb, 3, none⟩ = some (.slice AX s.xs.length cX)) (by kernel_rfl) (by (have q1 := blk_cell HC.out.blk 1); (have q2 := blk_cell HC.out.blk 2); (have q3 := blk_cell HC.out.blk 3); (simp only [List.getElem?_toArray, List.getElem?_cons_zero, List.getElem?_cons_succ] at q1 q2 q3); exact And.intro q1 (And.intro q2 q3)) (fun hHeld => ?_)
  (replace HC := Lib.hid HC.out.drew); generalize W0.drew = W1 at *
  refine wpAnyD_takeP (i := 0) (oi := { dst := some 3, op := Op.fieldAddr 48 (Operand.tmp 1) 1, type := 0, pos := "vocab.go:41", after := #[], guard := none }) (d := 3) (v := ?_) rfl rfl (by kernel_rfl) (by kernel_rfl) (by kernel_rfl) (fun _ _ _ h => h) (Or.inl ⟨by rfl, ?_⟩) ?_
  rotate_left
  · (intro w' _; go_simp; (try with_reducible rfl))
  simp only [List.setIfInBounds_toArray, List.set_cons_zero, List.set_cons_succ]
  refine wpAnyD_takeP (i := 3) (oi := { dst := some 6, op := Op.fieldAddr 48 (Operand.tmp 1) 2, type := 0, pos := "vocab.go:41", after := #[], guard := none }) (d := 6) (v := ?_) rfl rfl (by kernel_rfl) (by kernel_rfl) (by kernel_rfl) (fun _ _ _ h => h) (Or.inl ⟨by rfl, ?_⟩) ?_
  rotate_left
  · (intro w' _; go_simp; (try with_reducible rfl))
  simp only [List.setIfInBounds_toArray, List.set_cons_zero, List.set_cons_succ]
  refine wpAnyD_takeP (i := 6) (oi := { dst := some 9, op := Op.fieldAddr 48 (Operand.tmp 1) 3, type := 0, pos := "vocab.go:41", after := #[], guard := none }) (d := 9) (v := ?_) rfl rfl (by kernel_rfl) (by kernel_rfl) (by kernel_rfl) (fun _ _ _ h => h) (Or.inl ⟨by rfl, ?_⟩) ?_
  rotate_left
  · (intro w' _; go_simp; (try with_reducible rfl))
  simp only [List.setIfInBounds_toArray, List.set_cons_zero, List.set_cons_succ]
  refine wpAnyD_takeD (i := 1) (oi := { dst := some 4, op := Op.load 32 (Operand.tmp 3), type := 32, pos := "vocab.go:41", after := #[{ on := 0, ground := Ground.data }], guard := none }) (d := 4) (v := ?_) rfl rfl (by kernel_rfl) (by kernel_rfl) (by kernel_rfl) (by kernel_rfl) (fun _ _ _ h => h) (Or.inl ⟨by rfl, ?_⟩) hHeld ?_
  rotate_left
  · (intro w' hSw; (try dsimp only at hSw); go_simp; (try with_reducible rfl))
  simp only [List.setIfInBounds_toArray, List.set_cons_zero, List.set_cons_succ]
  refine wpAnyD_takeD (i := 4) (oi := { dst := some 7, op := Op.load 31 (Operand.tmp 6), type := 31, pos := "vocab.go:41", after := #[{ on := 3, ground := Ground.data }], guard := none }) (d := 7) (v := ?_) rfl rfl (by kernel_rfl) (by kernel_rfl) (by kernel_rfl) (by kernel_rfl) (fun _ _ _ h => h) (Or.inl ⟨by rfl, ?_⟩) hHeld ?_
  rotate_left
  · (intro w' hSw; (try dsimp only at hSw); go_simp; (try with_reducible rfl))
  simp only [List.setIfInBounds_toArray, List.set_cons_zero, List.set_cons_succ]
  refine wpAnyD_takeD (i := 7) (oi := { dst := some 10, op := Op.load 25 (Operand.tmp 9), type := 25, pos := "vocab.go:41", after := #[{ on := 6, ground := Ground.data }], guard := none }) (d := 10) (v := ?_) rfl rfl (by kernel_rfl) (by kernel_rfl) (by kernel_rfl) (by kernel_rfl) (fun _ _ _ h => h) (Or.inl ⟨by rfl, ?_⟩) hHeld ?_
  rotate_left
  · (intro w' hSw; (try dsimp only at hSw); go_simp; (try with_reducible rfl))
  simp only [List.setIfInBounds_toArray, List.set_cons_zero, List.set_cons_succ]
  refine wpAnyD_one (i := 2) (o := { dst := some 5, op := Op.call { callee := Callee.value (Operand.func 111), args := #[Operand.tmp 4], argTypes := #[32] }, type := 32, pos := "vocab.go:41", after := #[{ on := 1, ground := Ground.data }], guard := none }) (by kernel_rfl) rfl (by rfl) (fun K hK => ?_)
  go_simp; refine (clone_Mrg s.ms AM cM _ ((HS0.out.below HC.out.bl (Nat.le_refl _)).ms) (by have := HLN.out; omega)).mono ?_; rintro e V1 ⟨A1, c1, rfl, hsl, hfr, hb⟩; have HM0 := Lib.hid (HC.out.fresh hsl hfr); replace HC := Lib.hid (HC.out.below hb); clear hsl hfr hb; have q1 := blk_cell HC.out.blk 1; have q2 := blk_cell HC.out.blk 2; have q3 := blk_cell HC.out.blk 3; simp only [List.getElem?_toArray, List.getElem?_cons_zero, List.getElem?_cons_succ] at q1 q2 q3; have h := And.intro q1 (And.intro q2 (q3)); clear q1 q2 q3; go_simp
  refine hK.out _ _ h (fun hHeld => ?_)
  clear hK K
  try simp only [Act.put, List.setIfInBounds_toArray, List.set_cons_zero, List.set_cons_succ]
  refine wpAnyD_takeP (i := 9) (oi := { dst := some 12, op := Op.fieldAddr 48 (Operand.tmp 1) 1, type := 0, pos := "vocab.go:41", after := #[{ on := 0, ground := Ground.phase }, { on := 1, ground := Ground.phase }, { on := 2, ground := Ground.phase }, { on := 3, ground := Ground.phase }, { on := 4, ground := Ground.phase }, { on := 5, ground := Ground.textOnly Departure.lateStoresUnsure }, { on := 6, ground := Ground.phase }, { on := 7, ground := Ground.phase }, { on := 8, ground := Ground.textOnly Departure.lateStoresUnsure }], guard := none }) (d := 12) (v := ?_) rfl rfl (by kernel_rfl) (by kernel_rfl) (by kernel_rfl) (fun _ _ _ h => h) (Or.inl ⟨by rfl, ?_⟩) ?_
  rotate_left
  · (intro w' _; go_simp; (try with_reducible rfl))
  simp only [List.setIfInBounds_toArray, List.set_cons_zero, List.set_cons_succ]
  refine wpAnyD_one (i := 5) (o := { dst := some 8, op := Op.call { callee := Callee.value (Operand.func 112), args := #[Operand.tmp 7], argTypes := #[31] }, type := 31, pos := "vocab.go:41", after := #[{ on := 4, ground := Ground.data }, { on := 2, ground := Ground.chain }], guard := none }) (by kernel_rfl) rfl (by rfl) (fun K hK => ?_)
  go_simp; refine (clone_Txt s.ts AT cT _ (sl_of1 (HS0.out.below HC.out.bl (Nat.le_refl _)).ts) (by have := HLN.out; omega)).mono ?_; rintro e V1 ⟨A2, c2, rfl, hsl, hfr, hb⟩; have HM1 := Lib.hid (HC.out.fresh hsl hfr); replace HC := Lib.hid (HC.out.below hb); replace HM0 := Lib.hid (HM0.out.below hb); clear hsl hfr hb; have q1 := blk_cell HC.out.blk 1; have q2 := blk_cell HC.out.blk 2; have q3 := blk_cell HC.out.blk 3; simp only [List.getElem?_toArray, List.getElem?_cons_zero, List.getElem?_cons_succ] at q1 q2 q3; have h := And.intro q1 (And.intro q2 (q3)); clear q1 q2 q3; go_simp
  refine hK.out _ _ h (fun hHeld => ?_)
  clear hK K
  try simp only [Act.put, List.setIfInBounds_toArray, List.set_cons_zero, List.set_cons_succ]
  refine wpAnyD_one (i := 8) (o := { dst := some 11, op := Op.call { callee := Callee.value (Operand.func 113), args := #[Operand.tmp 10], argTypes := #[25] }, type := 25, pos := "vocab.go:41", after := #[{ on := 7, ground := Ground.data }, { on := 5, ground := Ground.chain }], guard := none }) (by kernel_rfl) rfl (by rfl) (fun K hK => ?_)
  go_simp; refine (clone_Spl s.xs AX cX _ ((HS0.out.below HC.out.bl (Nat.le_refl _)).xs) (by have := HLN.out; omega)).mono ?_; rintro e V1 ⟨A3, c3, rfl, hsl, hfr, hb⟩; have HM2 := Lib.hid (HC.out.fresh hsl hfr); replace HC := Lib.hid (HC.out.below hb); replace HM0 := Lib.hid (HM0.out.below hb); replace HM1 := Lib.hid (HM1.out.below hb); clear hsl hfr hb; have q1 := blk_cell HC.out.blk 1; have q2 := blk_cell HC.out.blk 2; have q3 := blk_cell HC.out.blk 3; simp only [List.getElem?_toArray, List.getElem?_cons_zero, List.getElem?_cons_succ] at q1 q2 q3; have h := And.intro q1 (And.intro q2 (q3)); clear q1 q2 q3; go_simp
  refine hK.out _ _ h (fun hHeld => ?_)
  clear hK K
  try simp only [Act.put, List.setIfInBounds_toArray, List.set_cons_zero, List.set_cons_succ]
  refine wpAnyD_last (D := 10) (by decide) (o := { dst := none, op := Op.store 32 (Operand.tmp 12) (Operand.tmp 5), type := 0, pos := "vocab.go:41", after := #[{ on := 9, ground := Ground.data }, { on := 2, ground := Ground.data }, { on := 8, ground := Ground.chain }, { on := 0, ground := Ground.phase }, { on := 1, ground := Ground.phase }, { on := 2, ground := Ground.phase }, { on := 3, ground := Ground.phase }, { on := 4, ground := Ground.phase }, { on := 5, ground := Ground.textOnly Departure.lateStoresUnsure }, { on := 6, ground := Ground.phase }, { on := 7, ground := Ground.phase }, { on := 8, ground := Ground.textOnly Departure.lateStoresUnsure }], guard := none }) (by kernel_rfl) rfl (by rfl) (fun K hK => ?_)
  have z0 := blk_froz HC.out.blk 1; have d0 := blk_cell HC.out.blk 1; simp only [List.getElem?_toArray, List.getElem?_cons_zero, List.getElem?_cons_succ] at d0; go_simp; have hk : Keep (fun g => g = sb) V1 (V1.setCell ⟨sb, 1, none⟩ (.slice A1 s.ms.length c1)) := (Keep.refl (fun g => g = sb) V1).setCell (p := ⟨sb, 1, none⟩) (.inl rfl) (.slice A1 s.ms.length c1); have hc := blk_set HC.out.blk 1 (.slice A1 s.ms.length c1); simp only [List.setIfInBounds_toArray, List.set_cons_zero, List.set_cons_succ] at hc; replace HC := Lib.hid (HC.out.put hk hc); replace HM0 := Lib.hid (HM0.out.keep hk); replace HM1 := Lib.hid (HM1.out.keep hk); replace HM2 := Lib.hid (HM2.out.keep hk); clear z0 d0 hk hc; generalize V1.setCell ⟨sb, 1, none⟩ (.slice A1 s.ms.length c1) = X1 at *
  refine hK.out _ _ ?_
  clear hK K
  try simp only [Act.put, List.setIfInBounds_toArray, List.set_cons_zero, List.set_cons_succ]
  refine wpAnyD_takeP (i := 11) (oi := { dst := some 13, op := Op.fieldAddr 48 (Operand.tmp 1) 2, type := 0, pos := "vocab.go:41", after := #[{ on := 0, ground := Ground.phase }, { on := 1, ground := Ground.phase }, { on := 2, ground := Ground.phase }, { on := 3, ground := Ground.phase }, { on := 4, ground := Ground.phase }, { on := 5, ground := Ground.phase }, { on := 6, ground := Ground.phase }, { on := 7, ground := Ground.phase }, { on := 8, ground := Ground.textOnly Departure.lateStoresUnsure }, { on := 9, ground := Ground.phase }, { on := 10, ground := Ground.phase }], guard := none }) (d := 13) (v := ?_) rfl rfl (by kernel_rfl) (by kernel_rfl) (by kernel_rfl) (fun _ _ _ h => h) (Or.inl ⟨by rfl, ?_⟩) ?_
  rotate_left
  · (intro w' _; go_simp; (try with_reducible rfl))
  simp only [List.setIfInBounds_toArray, List.set_cons_zero, List.set_cons_succ]
  refine wpAnyD_last (D := 12) (by decide) (o := { dst := none, op := Op.store 31 (Operand.tmp 13) (Operand.tmp 8), type := 0, pos := "vocab.go:41", after := #[{ on := 11, ground := Ground.data }, { on := 5, ground := Ground.data }, { on := 10, ground := Ground.chain }, { on := 0, ground := Ground.phase }, { on := 1, ground := Ground.phase }, { on := 2, ground := Ground.phase }, { on := 3, ground := Ground.phase }, { on := 4, ground := Ground.phase }, { on := 5, ground := Ground.phase }, { on := 6, ground := Ground.phase }, { on := 7, ground := Ground.phase }, { on := 8, ground := Ground.textOnly Departure.lateStoresUnsure }, { on := 9, ground := Ground.phase }, { on := 10, ground := Ground.phase }], guard := none }) (by kernel_rfl) rfl (by rfl) (fun K hK => ?_)
  have z0 := blk_froz HC.out.blk 2; have d0 := blk_cell HC.out.blk 2; simp only [List.getElem?_toArray, List.getElem?_cons_zero, List.getElem?_cons_succ] at d0; go_simp; have hk : Keep (fun g => g = sb) X1 (X1.setCell ⟨sb, 2, none⟩ (.slice A2 s.ts.length c2)) := (Keep.refl (fun g => g = sb) X1).setCell (p := ⟨sb, 2, none⟩) (.inl rfl) (.slice A2 s.ts.length c2); have hc := blk_set HC.out.blk 2 (.slice A2 s.ts.length c2); simp only [List.setIfInBounds_toArray, List.set_cons_zero, List.set_cons_succ] at hc; replace HC := Lib.hid (HC.out.put hk hc); replace HM0 := Lib.hid (HM0.out.keep hk); replace HM1 := Lib.hid (HM1.out.keep hk); replace HM2 := Lib.hid (HM2.out.keep hk); clear z0 d0 hk hc; generalize X1.setCell ⟨sb, 2, none⟩ (.slice A2 s.ts.length c2) = X2 at *
  refine hK.out _ _ ?_
  clear hK K
  try simp only [Act.put, List.setIfInBounds_toArray, List.set_cons_zero, List.set_cons_succ]
  refine wpAnyD_takeP (i := 13) (oi := { dst := some 14, op := Op.fieldAddr 48 (Operand.tmp 1) 3, type := 0, pos := "vocab.go:41", after := #[{ on := 0, ground := Ground.phase }, { on := 1, ground := Ground.phase }, { on := 2, ground := Ground.phase }, { on := 3, ground := Ground.phase }, { on := 4, ground := Ground.phase }, { on := 5, ground := Ground.phase }, { on := 6, ground := Ground.phase }, { on := 7, ground := Ground.phase }, { on := 8, ground := Ground.phase }, { on := 9, ground := Ground.phase }, { on := 10, ground := Ground.phase }, { on := 11, ground := Ground.phase }, { on := 12, ground := Ground.phase }], guard := none }) (d := 14) (v := ?_) rfl rfl (by kernel_rfl) (by kernel_rfl) (by kernel_rfl) (fun _ _ _ h => h) (Or.inl ⟨by rfl, ?_⟩) ?_
  rotate_left
  · (intro w' _; go_simp; (try with_reducible rfl))
  simp only [List.setIfInBounds_toArray, List.set_cons_zero, List.set_cons_succ]
  refine wpAnyD_last (D := 14) (by decide) (o := { dst := none, op := Op.store 25 (Operand.tmp 14) (Operand.tmp 11), type := 0, pos := "vocab.go:41", after := #[{ on := 13, ground := Ground.data }, { on := 8, ground := Ground.data }, { on := 12, ground := Ground.chain }, { on := 0, ground := Ground.phase }, { on := 1, ground := Ground.phase }, { on := 2, ground := Ground.phase }, { on := 3, ground := Ground.phase }, { on := 4, ground := Ground.phase }, { on := 5, ground := Ground.phase }, { on := 6, ground := Ground.phase }, { on := 7, ground := Ground.phase }, { on := 8, ground := Ground.phase }, { on := 9, ground := Ground.phase }, { on := 10, ground := Ground.phase }, { on := 11, ground := Ground.phase }, { on := 12, ground := Ground.phase }], guard := none }) (by kernel_rfl) rfl (by rfl) (fun K hK => ?_)
  have z0 := blk_froz HC.out.blk 3; have d0 := blk_cell HC.out.blk 3; simp only [List.getElem?_toArray, List.getElem?_cons_zero, List.getElem?_cons_succ] at d0; go_simp; have hk : Keep (fun g => g = sb) X2 (X2.setCell ⟨sb, 3, none⟩ (.slice A3 s.xs.length c3)) := (Keep.refl (fun g => g = sb) X2).setCell (p := ⟨sb, 3, none⟩) (.inl rfl) (.slice A3 s.xs.length c3); have hc := blk_set HC.out.blk 3 (.slice A3 s.xs.length c3); simp only [List.setIfInBounds_toArray, List.set_cons_zero, List.set_cons_succ] at hc; replace HC := Lib.hid (HC.out.put hk hc); replace HM0 := Lib.hid (HM0.out.keep hk); replace HM1 := Lib.hid (HM1.out.keep hk); replace HM2 := Lib.hid (HM2.out.keep hk); clear z0 d0 hk hc; generalize X2.setCell ⟨sb, 3, none⟩ (.slice A3 s.xs.length c3) = X3 at *
  refine hK.out _ _ ?_
  clear hK K
  try simp only [Act.put, List.setIfInBounds_toArray, List.set_cons_zero, List.set_cons_succ]
  refine wpAnyD_done (by kernel_rfl) ?_ _
  clear hHeld h
  go_upto_region 2 with fail
  refine wp_region_D (Ds := [7, 9]) (S := fun V => V.cell? ⟨sb, 4, none⟩ = some (.slice AC s.cs.length cC) ∧ V.cell? ⟨sb, 5, none⟩ = some (.slice AJ s.js.length cJ)) (by kernel_rfl) (by (have q4 := blk_cell HC.out.blk 4); (have q5 := blk_cell HC.out.blk 5); (simp only [List.getElem?_toArray, List.getElem?_cons_zero, List.getElem?_cons_succ] at q4 q5); exact And.intro q4 q5) (fun hHeld => ?_)
  (replace HC := Lib.hid HC.out.drew); (replace HM0 := Lib.hid HM0.out.drew); (replace HM1 := Lib.hid HM1.out.drew); (replace HM2 := Lib.hid HM2.out.drew); generalize X3.drew = Y0 at *
  refine wpAnyD_takeP (i := 0) (oi := { dst := some 15, op := Op.fieldAddr 48 (Operand.tmp 1) 4, type := 0, pos := "vocab.go:42", after := #[], guard := none }) (d := 15) (v := ?_) rfl rfl (by kernel_rfl) (by kernel_rfl) (by kernel_rfl) (fun _ _ _ h => h) (Or.inl ⟨by rfl, ?_⟩) ?_
  rotate_left
  · (intro w' _; go_simp; (try with_reducible rfl))
  simp only [List.setIfInBounds_toArray, List.set_cons_zero, List.set_cons_succ]
  refine wpAnyD_takeP (i := 3) (oi := { dst := some 18, op := Op.fieldAddr 48 (Operand.tmp 1) 5, type := 0, pos := "vocab.go:42", after := #[], guard := none }) (d := 18) (v := ?_) rfl rfl (by kernel_rfl) (by kernel_rfl) (by kernel_rfl) (fun _ _ _ h => h) (Or.inl ⟨by rfl, ?_⟩) ?_
  rotate_left
  · (intro w' _; go_simp; (try with_reducible rfl))
  simp only [List.setIfInBounds_toArray, List.set_cons_zero, List.set_cons_succ]
  refine wpAnyD_takeD (i := 1) (oi := { dst := some 16, op := Op.load 23 (Operand.tmp 15), type := 23, pos := "vocab.go:42", after := #[{ on := 0, ground := Ground.data }], guard := none }) (d := 16) (v := ?_) rfl rfl (by kernel_rfl) (by kernel_rfl) (by kernel_rfl) (by kernel_rfl) (fun _ _ _ h => h) (Or.inl ⟨by rfl, ?_⟩) hHeld ?_
  rotate_left
  · (intro w' hSw; (try dsimp only at hSw); go_simp; (try with_reducible rfl))
  simp only [List.setIfInBounds_toArray, List.set_cons_zero, List.set_cons_succ]
  refine wpAnyD_takeD (i := 4) (oi := { dst := some 19, op := Op.load 24 (Operand.tmp 18), type := 24, pos := "vocab.go:42", after := #[{ on := 3, ground := Ground.data }], guard := none }) (d := 19) (v := ?_) rfl rfl (by kernel_rfl) (by kernel_rfl) (by kernel_rfl) (by kernel_rfl) (fun _ _ _ h => h) (Or.inl ⟨by rfl, ?_⟩) hHeld ?_
  rotate_left
  · (intro w' hSw; (try dsimp only at hSw); go_simp; (try with_reducible rfl))
  simp only [List.setIfInBounds_toArray, List.set_cons_zero, List.set_cons_succ]
  refine wpAnyD_one (i := 2) (o := { dst := some 17, op := Op.call { callee := Callee.value (Operand.func 114), args := #[Operand.tmp 16], argTypes := #[23] }, type := 23, pos := "vocab.go:42", after := #[{ on := 1, ground := Ground.data }], guard := none }) (by kernel_rfl) rfl (by rfl) (fun K hK => ?_)
  go_simp; refine (clone_Cls s.cs AC cC _ ((HS0.out.below HC.out.bl (Nat.le_refl _)).cs) (by have := HLN.out; omega)).mono ?_; rintro e V1 ⟨A4, c4, rfl, hsl, hfr, hb⟩; have HM3 := Lib.hid (HC.out.fresh hsl hfr); replace HC := Lib.hid (HC.out.below hb); replace HM0 := Lib.hid (HM0.out.below hb); replace HM1 := Lib.hid (HM1.out.below hb); replace HM2 := Lib.hid (HM2.out.below hb); clear hsl hfr hb; have q4 := blk_cell HC.out.blk 4; have q5 := blk_cell HC.out.blk 5; simp only [List.getElem?_toArray, List.getElem?_cons_zero, List.getElem?_cons_succ] at q4 q5; have h := And.intro q4 (q5); clear q4 q5; go_simp
  refine hK.out _ _ h (fun hHeld => ?_)
  clear hK K
  try simp only [Act.put, List.setIfInBounds_toArray, List.set_cons_zero, List.set_cons_succ]
  refine wpAnyD_takeP (i := 6) (oi := { dst := some 21, op := Op.fieldAddr 48 (Operand.tmp 1) 4, type := 0, pos := "vocab.go:42", after := #[{ on := 0, ground := Ground.phase }, { on := 1, ground := Ground.phase }, { on := 2, ground := Ground.phase }, { on := 3, ground := Ground.phase }, { on := 4, ground := Ground.phase }, { on := 5, ground := Ground.textOnly Departure.lateStoresUnsure }], guard := none }) (d := 21) (v := ?_) rfl rfl (by kernel_rfl) (by kernel_rfl) (by kernel_rfl) (fun _ _ _ h => h) (Or.inl ⟨by rfl, ?_⟩) ?_
  rotate_left
  · (intro w' _; go_simp; (try with_reducible rfl))
  simp only [List.setIfInBounds_toArray, List.set_cons_zero, List.set_cons_succ]
  refine wpAnyD_one (i := 5) (o := { dst := some 20, op := Op.call { callee := Callee.value (Operand.func 115), args := #[Operand.tmp 19], argTypes := #[24] }, type := 24, pos := "vocab.go:42", after := #[{ on := 4, ground := Ground.data }, { on := 2, ground := Ground.chain }], guard := none }) (by kernel_rfl) rfl (by rfl) (fun K hK => ?_)
  go_simp; refine (clone_Jns s.js AJ cJ _ ((HS0.out.below HC.out.bl (Nat.le_refl _)).js) (by have := HLN.out; omega)).mono ?_; rintro e V1 ⟨A5, c5, rfl, hsl, hfr, hb⟩; have HM4 := Lib.hid (HC.out.fresh hsl hfr); replace HC := Lib.hid (HC.out.below hb); replace HM0 := Lib.hid (HM0.out.below hb); replace HM1 := Lib.hid (HM1.out.below hb); replace HM2 := Lib.hid (HM2.out.below hb); replace HM3 := Lib.hid (HM3.out.below hb); clear hsl hfr hb; have q4 := blk_cell HC.out.blk 4; have q5 := blk_cell HC.out.blk 5; simp only [List.getElem?_toArray, List.getElem?_cons_zero, List.getElem?_cons_succ] at q4 q5; have h := And.intro q4 (q5); clear q4 q5; go_simp
  refine hK.out _ _ h (fun hHeld => ?_)
  clear hK K
  try simp only [Act.put, List.setIfInBounds_toArray, List.set_cons_zero, List.set_cons_succ]
  refine wpAnyD_last (D := 7) (by decide) (o := { dst := none, op := Op.store 23 (Operand.tmp 21) (Operand.tmp 17), type := 0, pos := "vocab.go:42", after := #[{ on := 6, ground := Ground.data }, { on := 2, ground := Ground.data }, { on := 5, ground := Ground.chain }, { on := 0, ground := Ground.phase }, { on := 1, ground := Ground.phase }, { on := 2, ground := Ground.phase }, { on := 3, ground := Ground.phase }, { on := 4, ground := Ground.phase }, { on := 5, ground := Ground.textOnly Departure.lateStoresUnsure }], guard := none }) (by kernel_rfl) rfl (by rfl) (fun K hK => ?_)
  have z0 := blk_froz HC.out.blk 4; have d0 := blk_cell HC.out.blk 4; simp only [List.getElem?_toArray, List.getElem?_cons_zero, List.getElem?_cons_succ] at d0; go_simp; have hk : Keep (fun g => g = sb) V1 (V1.setCell ⟨sb, 4, none⟩ (.slice A4 s.cs.length c4)) := (Keep.refl (fun g => g = sb) V1).setCell (p := ⟨sb, 4, none⟩) (.inl rfl) (.slice A4 s.cs.length c4); have hc := blk_set HC.out.blk 4 (.slice A4 s.cs.length c4); simp only [List.setIfInBounds_toArray, List.set_cons_zero, List.set_cons_succ] at hc; replace HC := Lib.hid (HC.out.put hk hc); replace HM0 := Lib.hid (HM0.out.keep hk); replace HM1 := Lib.hid (HM1.out.keep hk); replace HM2 := Lib.hid (HM2.out.keep hk); replace HM3 := Lib.hid (HM3.out.keep hk); replace HM4 := Lib.hid (HM4.out.keep hk); clear z0 d0 hk hc; generalize V1.setCell ⟨sb, 4, none⟩ (.slice A4 s.cs.length c4) = Z1 at *
  refine hK.out _ _ ?_
  clear hK K
  try simp only [Act.put, List.setIfInBounds_toArray, List.set_cons_zero, List.set_cons_succ]
  refine wpAnyD_takeP (i := 8) (oi := { dst := some 22, op := Op.fieldAddr 48 (Operand.tmp 1) 5, type := 0, pos := "vocab.go:42", after := #[{ on := 0, ground := Ground.phase }, { on := 1, ground := Ground.phase }, { on := 2, ground := Ground.phase }, { on := 3, ground := Ground.phase }, { on := 4, ground := Ground.phase }, { on := 5, ground := Ground.phase }, { on := 6, ground := Ground.phase }, { on := 7, ground := Ground.phase }], guard := none }) (d := 22) (v := ?_) rfl rfl (by kernel_rfl) (by kernel_rfl) (by kernel_rfl) (fun _ _ _ h => h) (Or.inl ⟨by rfl, ?_⟩) ?_
  rotate_left
  · (intro w' _; go_simp; (try with_reducible rfl))
  simp only [List.setIfInBounds_toArray, List.set_cons_zero, List.set_cons_succ]
  refine wpAnyD_last (D := 9) (by decide) (o := { dst := none, op := Op.store 24 (Operand.tmp 22) (Operand.tmp 20), type := 0, pos := "vocab.go:42", after := #[{ on := 8, ground := Ground.data }, { on := 5, ground := Ground.data }, { on := 7, ground := Ground.chain }, { on := 0, ground := Ground.phase }, { on := 1, ground := Ground.phase }, { on := 2, ground := Ground.phase }, { on := 3, ground := Ground.phase }, { on := 4, ground := Ground.phase }, { on := 5, ground := Ground.phase }, { on := 6, ground := Ground.phase }, { on := 7, ground := Ground.phase }], guard := none }) (by kernel_rfl) rfl (by rfl) (fun K hK => ?_)
  have z0 := blk_froz HC.out.blk 5; have d0 := blk_cell HC.out.blk 5; simp only [List.getElem?_toArray, List.getElem?_cons_zero, List.getElem?_cons_succ] at d0; go_simp; have hk : Keep (fun g => g = sb) Z1 (Z1.setCell ⟨sb, 5, none⟩ (.slice A5 s.js.length c5)) := (Keep.refl (fun g => g = sb) Z1).setCell (p := ⟨sb, 5, none⟩) (.inl rfl) (.slice A5 s.js.length c5); have hc := blk_set HC.out.blk 5 (.slice A5 s.js.length c5); simp only [List.setIfInBounds_toArray, List.set_cons_zero, List.set_cons_succ] at hc; replace HC := Lib.hid (HC.out.put hk hc); replace HM0 := Lib.hid (HM0.out.keep hk); replace HM1 := Lib.hid (HM1.out.keep hk); replace HM2 := Lib.hid (HM2.out.keep hk); replace HM3 := Lib.hid (HM3.out.keep hk); replace HM4 := Lib.hid (HM4.out.keep hk); clear z0 d0 hk hc; generalize Z1.setCell ⟨sb, 5, none⟩ (.slice A5 s.js.length c5) = Z2 at *
  refine hK.out _ _ ?_
  clear hK K
  try simp only [Act.put, List.setIfInBounds_toArray, List.set_cons_zero, List.set_cons_succ]
  refine wpAnyD_done (by kernel_rfl) ?_ _
  clear hHeld h
  have g0 := blk_cell HC.out.blk 0
  have g1 := blk_cell HC.out.blk 1
  have g2 := blk_cell HC.out.blk 2
  have g3 := blk_cell HC.out.blk 3
  have g4 := blk_cell HC.out.blk 4
  have g5 := blk_cell HC.out.blk 5
  simp only [List.getElem?_toArray, List.getElem?_cons_zero, List.getElem?_cons_succ] at g0 g1 g2 g3 g4 g5
  have d0 := blk_cell HC.out.res 0
  have d1 := blk_cell HC.out.res 1
  have d2 := blk_cell HC.out.res 2
  have d3 := blk_cell HC.out.res 3
  have d4 := blk_cell HC.out.res 4
  have d5 := blk_cell HC.out.res 5
  simp only [List.getElem?_toArray, List.getElem?_cons_zero, List.getElem?_cons_succ] at d0 d1 d2 d3 d4 d5
  have z0 := blk_froz HC.out.res 0
  have z1 := blk_froz HC.out.res 1
  have z2 := blk_froz HC.out.res 2
  have z3 := blk_froz HC.out.res 3
  have z4 := blk_froz HC.out.res 4
  have z5 := blk_froz HC.out.res 5
  go_wp2_with fail
  clear d0 d1 d2 d3 d4 d5 z0 z1 z2 z3 z4 z5 g0 g1 g2 g3 g4 g5
  have hc := (blk_set (blk_set (blk_set (blk_set (blk_set (blk_set HC.out.res 0 (.bool s.rk)) 1 (.slice A1 s.ms.length c1)) 2 (.slice A2 s.ts.length c2)) 3 (.slice A3 s.xs.length c3)) 4 (.slice A4 s.cs.length c4)) 5 (.slice A5 s.js.length c5))
  simp only [List.setIfInBounds_toArray, List.set_cons_zero, List.set_cons_succ] at hc
  have hk := (((((((Keep.refl (fun g => g = sb + 1) Z2).setCell (p := ⟨sb + 1, 0, none⟩) (.inl rfl) (.bool s.rk)).setCell (p := ⟨sb + 1, 1, none⟩) (.inl rfl) (.slice A1 s.ms.length c1)).setCell (p := ⟨sb + 1, 2, none⟩) (.inl rfl) (.slice A2 s.ts.length c2)).setCell (p := ⟨sb + 1, 3, none⟩) (.inl rfl) (.slice A3 s.xs.length c3)).setCell (p := ⟨sb + 1, 4, none⟩) (.inl rfl) (.slice A4 s.cs.length c4)).setCell (p := ⟨sb + 1, 5, none⟩) (.inl rfl) (.slice A5 s.js.length c5))
  refine ret_cell1 (r := sb + 1) rfl rfl (load_spec hc) ?_
  have hbf := hk.below HC.out.bl.size (fun x hx => by have := HC.out.lt; omega)
  exact ⟨⟨A1, A2, A3, A4, A5, c1, c2, c3, c4, c5, rfl, ⟨HM0.out.keep1 hk, sl_to1 (HM1.out.keep1 hk), HM2.out.keep1 hk, HM3.out.keep1 hk, HM4.out.keep1 hk, HS0.out.len⟩⟩, HC.out.bl.trans hbf⟩
end
end Go.Proofs.YtbppaiejpgdbiaaGreat

/- Layer 9 (mark): special tokens in memory; Mark. -/
namespace Go.Proofs.YtbppaiejpgdbiaaGreat
open Go.RowKit Go.Maps Go.WideMaps
set_option maxRecDepth 100000
set_option linter.unusedVariables false
set_option linter.unusedSimpArgs false
def markC (sv : Value) (mi mt : Nat) (fs : Nat → Bool) (mo : Nat) (i : Nat) : Value := if i = 0 then sv else if i = 1 then .map (some mi) else if i = 2 then .map (some mt) else if i < 259 then .bool (fs (i - 3)) else .int .i64 (mo : Nat)
def markA (sv : Value) (mi mt : Nat) (fs : Nat → Bool) (mo : Nat) : Array Value := Array.ofFn (n := 260) fun i => markC sv mi mt fs mo i
theorem mark_get (sv : Value) (mi mt : Nat) (fs : Nat → Bool) (mo : Nat) (i : Nat) (h : i < 260) : (markA sv mi mt fs mo)[i]? = some (markC sv mi mt fs mo i) := by simp [markA, h]
def fndI (M : List (Int × List UInt8)) (id : Int) : Option Nat := M.findIdx? (fun x => x.1 == id)
def fndX (M : List (Int × List UInt8)) (s : List UInt8) : Option Nat := M.findIdx? (fun x => x.2 == s)
def firstB (M : List (Int × List UInt8)) (b : Nat) : Bool := M.any (fun x => match x.2 with | [] => false | c :: _ => c.toNat == b)
def mostM (M : List (Int × List UInt8)) : Nat := M.foldl (fun n x => max n x.2.length) 0
/-- special tokens in memory -/
structure MarkIs (w : World) (base mb : Nat) (M : List (Int × List UInt8)) (sv : Value) (mi mt : Nat) : Prop where
  blk : w.heap[mb]? = some (.cells (markA sv mi mt (firstB M) (mostM M)) 214)
  row : w.ownsRow base 98 2 sv M.length (M.flatMap encIS)
  ids : MapOf Tryz.prog 3 3 (Value.int .i64) w mi M.length (fun i => (fndI M i).map Int.ofNat)
  txs : MapOf Tryz.prog 9 3 strV w mt M.length (fun s => (fndX M s).map Int.ofNat)
  ne : mi ≠ mt
  lt : base ≤ mb ∧ base ≤ mi ∧ base ≤ mt
theorem MarkIs.below {B : Nat} {w w' : World} {base mb : Nat} {M : List (Int × List UInt8)} {sv : Value} {mi mt : Nat} (h : MarkIs w base mb M sv mi mt) (hb : Below B w w') (hB : w.heap.size ≤ B) : MarkIs w' base mb M sv mi mt :=
  ⟨blk_below hb (Nat.lt_of_lt_of_le (blk_lt h.blk) hB) h.blk, own_below h.row hb hB, h.ids.below hb (Nat.lt_of_lt_of_le h.ids.lt hB), h.txs.below hb (Nat.lt_of_lt_of_le h.txs.lt hB), h.ne, h.lt⟩
theorem keyed_int : Keyed Tryz.prog 3 := int_keyed Tryz.underlying3
theorem key_int {n : Int} (h : (Lit.int .i64 n).wf = true) : ∃ l, keyOf Tryz.prog 3 (.int .i64 n) = some l := ⟨_, keyOf_int_mk Tryz.underlying3 h⟩
theorem mitem_any (n : Int) (h0 : 0 ≤ n) (h1 : n < 1000000) (w : World) : Calls Tryz.prog 132 #[.int .i64 n] w fun e w' => e = .returned (.int .i64 (-1 - n)) ∧ w' = w := by
  have e1 : IntKind.i64.wrap (-1 - n) = -1 - n := IntWalk.i64_in _ (by omega)
  go_enter Tryz.func132, Tryz.ntmps132
  go_wp2_with fail
  go_ret
  exact ⟨rfl, rfl⟩
set_option maxHeartbeats 1000000 in
/-- Mark -/
theorem mark_any {w : World} {base mb : Nat} {M : List (Int × List UInt8)} {sv : Value} {mi mt : Nat} (h : MarkIs w base mb M sv mi mt) (id : Int) (hw : (Lit.int .i64 id).wf = true) (hM : M.length ≤ 1000) :
    Calls Tryz.prog 93 #[.pointer (some ⟨mb, 0, none⟩), .int .i64 id] w fun e w' => e = .returned (.tuple #[.int .i64 (match fndI M id with | some i => -1 - (i : Int) | none => 0), .bool (fndI M id).isSome]) ∧ w' = w := by
  have c1 := blk_cell h.blk 1
  rw [mark_get _ _ _ _ _ _ (by decide)] at c1
  change w.cell? ⟨mb, 1, none⟩ = some (.map (some mi)) at c1
  obtain ⟨f, hfd⟩ : ∃ f : Int → Option Int, (fun i => (fndI M i).map Int.ofNat) = f := ⟨_, rfl⟩
  have hids := h.ids
  rw [hfd] at hids
  have HB := Lib.hid hids
  clear hids
  have HK := Lib.hid (key_int hw)
  cases hf : fndI M id with
  | none =>
    have HF : Hid (f id = none) := Lib.hid (by rw [← hfd]; simp only [hf]; rfl)
    clear h hw hf hfd
    go_enter Tryz.func93, Tryz.ntmps93
    go_wp2_with (refine map_look 49 _ _ rfl rfl keyed_int Tryz.underlying49 Tryz.underlying3 (zero_int _) rfl HB.out id rfl HK.out ?_; (simp only [HF.out, Option.getD_none, Option.isSome_none]))
    go_ret2
    exact ⟨rfl, rfl⟩
  | some i =>
    have hi : i < M.length := by
      unfold fndI at hf
      rw [List.findIdx?_eq_some_iff_getElem] at hf
      exact hf.1
    have HF : Hid (f id = some (i : Int)) := Lib.hid (by rw [← hfd]; simp only [hf]; rfl)
    have HI := Lib.hid (fun V => mitem_any (i : Int) (by omega) (by omega) V)
    clear h hw hf hi hM hfd
    go_enter Tryz.func93, Tryz.ntmps93
    go_wp2_with (first | (refine map_look 49 _ _ rfl rfl keyed_int Tryz.underlying49 Tryz.underlying3 (zero_int _) rfl HB.out id rfl HK.out ?_; (simp only [HF.out, Option.getD_some, Option.isSome_some])) | (go_at_call 132; (refine (HI.out w).mono ?_); (rintro e V1 ⟨rfl, rfl⟩)))
    go_ret2
    exact ⟨rfl, rfl⟩
end Go.Proofs.YtbppaiejpgdbiaaGreat

/- Layer 9 (mark): New of no special tokens. -/
namespace Go.Proofs.YtbppaiejpgdbiaaGreat
open Go.RowKit Go.Maps Go.WideMaps
set_option maxRecDepth 100000
set_option linter.unusedVariables false
set_option linter.unusedSimpArgs false
def zeroC (i : Nat) : Value := if i = 0 then .slice none 0 0 else if i = 1 then .map none else if i = 2 then .map none else if i < 259 then .bool false else .int .i64 0
theorem zero_mark0 : Tryz.zeroCells214 = Array.ofFn (n := 260) fun i => zeroC i := by
  have : Tryz.zeroCells214.toList = (Array.ofFn (n := 260) fun i => zeroC i).toList := by
    rw [Array.toList_ofFn]
    kernel_rfl
  exact Array.toList_inj.1 this
theorem zero_mark (a b : Nat) : ((Tryz.zeroCells214.setIfInBounds 1 (.map (some a))).setIfInBounds 2 (.map (some b))) = markA (.slice none 0 0) a b (firstB []) (mostM []) := by
  rw [zero_mark0]
  apply Array.ext_getElem?
  intro j
  by_cases hj : j < 260
  · rw [mark_get _ _ _ _ _ _ hj]
    simp only [Array.getElem?_setIfInBounds, Array.size_setIfInBounds, Array.size_ofFn]
    by_cases h2 : 2 = j
    · subst h2; simp [markC]
    · rw [if_neg h2]
      by_cases h1 : 1 = j
      · subst h1; simp [markC]
      · rw [if_neg h1]
        simp only [Array.getElem?_ofFn, hj, dite_true, zeroC, markC]
        have n1 : ¬ j = 1 := fun e => h1 e.symm
        have n2 : ¬ j = 2 := fun e => h2 e.symm
        simp only [n1, n2, if_false, firstB, List.any_nil, mostM, List.foldl_nil]
        rfl
  · simp [markA, hj]
set_option maxHeartbeats 1000000 in
theorem mnew_nil (w : World) (c : Nat) : Calls Tryz.prog 88 #[.slice none 0 c] w fun e w' => (∃ mb sv mi mt, e = .returned (.tuple #[.pointer (some ⟨mb, 0, none⟩), .int .i64 0, .int .i64 0]) ∧ MarkIs w' w.heap.size mb [] sv mi mt) ∧ Below w.heap.size w w' := by
  have hmm := @run_makeMap Tryz.prog
  have HM : Hid (MarkIs (((w.alloc (.map #[] 0)).alloc (.map #[] 0)).alloc (.cells (markA (.slice none 0 0) w.heap.size (w.heap.size + 1) (firstB []) (mostM [])) 214)) w.heap.size (w.heap.size + 1 + 1) [] (.slice none 0 0) w.heap.size (w.heap.size + 1)) := Lib.hid (by
    refine ⟨?_, own_nil _ _ _ _, ?_, ?_, by omega, by omega, by omega, by omega⟩
    · have := blk_new ((w.alloc (.map #[] 0)).alloc (.map #[] 0)) (.cells (markA (.slice none 0 0) w.heap.size (w.heap.size + 1) (firstB []) (mostM [])) 214)
      simpa [size_alloc] using this
    · refine ((MapOf.made w Tryz.prog 3 3 (Value.int .i64)).keep (F := fun _ => False) ((Keep.refl _ _).alloc _ |>.alloc _) (fun h => h)).congr (fun a => rfl)
    · have := MapOf.made (w.alloc (.map #[] 0)) Tryz.prog 9 3 strV
      rw [size_alloc] at this
      exact (this.keep (F := fun _ => False) ((Keep.refl _ _).alloc _) (fun h => h)).congr (fun a => rfl))
  have HB := Lib.hid ((((Below.refl w.heap.size w).alloc (Nat.le_refl _) (.map #[] 0)).alloc (by simp) (.map #[] 0)).alloc (by simp; omega) (.cells (markA (.slice none 0 0) w.heap.size (w.heap.size + 1) (firstB []) (mostM [])) 214))
  go_enter Tryz.func88, Tryz.ntmps88
  go_upto_region 2 with fail
  rw [zero_mark]
  clear hmm
  obtain ⟨mb, hmb⟩ : ∃ mb, w.heap.size + 1 + 1 = mb := ⟨_, rfl⟩
  rw [hmb] at HM ⊢
  clear hmb
  go_wp2_with fail
  go_loopg [15] 0 (fun n i W => i = .int .i64 0 ∧ MarkIs W w.heap.size mb [] (.slice none 0 0) w.heap.size (w.heap.size + 1) ∧ Below w.heap.size w W)
  case atStart => exact ⟨rfl, HM.out, HB.out⟩
  case round =>
    obtain ⟨rfl, hm, hb⟩ := hrel
    clear HM HB
    have HM := Lib.hid hm
    have HB := Lib.hid hb
    clear hm hb
    go_wp2_with fail
    go_ret3
    exact ⟨⟨_, _, _, _, rfl, HM.out⟩, HB.out⟩
end Go.Proofs.YtbppaiejpgdbiaaGreat

/- Layer 10 (vocab): build's look at the special tokens' numbers. PRINTED by tools/vocab_idx.py. -/
namespace Go.Proofs.YtbppaiejpgdbiaaGreat
open Go.RowKit Go.Maps Go.WideMaps
set_option maxRecDepth 100000
set_option linter.unusedVariables false
set_option linter.unusedSimpArgs false
/-- a special token's number is none of the table's -/
def idB (T : List Ent) (x : Int × List UInt8) : Bool := !decide (x.1 < (T.length : Int))
section
variable {tbase tb : Nat} {T : List Ent} {sv : Value} {mb mp : Nat}
theorem bclo_any (x : Int × List UInt8) (w : World) (pb : Nat) (hp : w.cell? ⟨pb, 0, none⟩ = some (.pointer (some ⟨tb, 0, none⟩))) (hT : TabIs w tbase tb T sv mb mp) :
    Calls Tryz.prog 90 #[.agg #[.int .i64 x.1, .string (bs x.2)], .pointer (some ⟨pb, 0, none⟩)] w fun e w' => e = .returned (.bool (!idB T x)) ∧ Below w.heap.size w w' := by
  obtain ⟨x1, x2⟩ := x
  have hr : (!idB T (x1, x2)) = decide (x1 < (T.length : Int)) := by simp [idB]
  rw [hr]
  have HB := Lib.hid ((Below.refl w.heap.size w).alloc (Nat.le_refl _) (.cells #[.int .i64 x1, .string (bs x2)] 98))
  have hp2 := below_cell HB.out (Nat.le_refl _) hp
  have n0 := blk_cell (blk_new w (.cells #[.int .i64 x1, .string (bs x2)] 98)) 0
  simp only [List.getElem?_toArray, List.getElem?_cons_zero, List.getElem?_cons_succ] at n0
  have HT := Lib.hid (hT.below HB.out (Nat.le_refl _)).drew
  clear hp hT hr
  go_enter Tryz.func90, Tryz.ntmps90
  go_upto_region 1 with fail
  generalize (w.alloc (.cells #[.int .i64 x1, .string (bs x2)] 98)) = W at *
  obtain ⟨nb, hnb⟩ : ∃ nb, w.heap.size = nb := ⟨_, rfl⟩
  have HB9 := Lib.hid HB.out
  rw [hnb] at n0 ⊢
  clear hnb
  refine wp_region_held_drew (S := fun V => V.cell? ⟨nb, 0, none⟩ = some (.int .i64 x1) ∧ V.cell? ⟨pb, 0, none⟩ = some (.pointer (some ⟨tb, 0, none⟩))) (by kernel_rfl) (by exact ⟨n0, hp2⟩) (fun hHeld => ?_)
  refine wpAnyH_takeD (i := 0) (d := 4) (v := ?_) rfl rfl (by kernel_rfl) (by kernel_rfl) (by kernel_rfl) (fun _ _ _ h => h) (Or.inl ⟨by rfl, ?_⟩) hHeld ?_
  rotate_left
  · (intro w' hSw; (try dsimp only at hSw); go_simp; (try with_reducible rfl))
  simp only [List.setIfInBounds_toArray, List.set_cons_zero, List.set_cons_succ]
  refine wpAnyH_takeD (i := 1) (d := 5) (v := ?_) rfl rfl (by kernel_rfl) (by kernel_rfl) (by kernel_rfl) (fun _ _ _ h => h) (Or.inl ⟨by rfl, ?_⟩) hHeld ?_
  rotate_left
  · (intro w' hSw; (try dsimp only at hSw); go_simp; (try with_reducible rfl))
  simp only [List.setIfInBounds_toArray, List.set_cons_zero, List.set_cons_succ]
  refine wpAnyH_takeD (i := 2) (d := 6) (v := ?_) rfl rfl (by kernel_rfl) (by kernel_rfl) (by kernel_rfl) (fun _ _ _ h => h) (Or.inl ⟨by rfl, ?_⟩) hHeld ?_
  rotate_left
  · (intro w' hSw; (try dsimp only at hSw); go_simp; (try with_reducible rfl))
  simp only [List.setIfInBounds_toArray, List.set_cons_zero, List.set_cons_succ]
  refine wpAnyH_ready (rs := [3]) (by kernel_rfl) (by simp) ?_
  refine AllReadyH.cons rfl (fun K hK => ?_) AllReadyH.nil
  (try go_simp)
  refine (len_tab HT.out).mono ?_; rintro e V1 ⟨rfl, rfl⟩; have h := hHeld; go_simp
  go_wp2_with fail
  refine hK.out _ _ h (fun hHeld => ?_)
  clear hK K
  try simp only [Act.put, List.setIfInBounds_toArray, List.set_cons_zero, List.set_cons_succ]
  refine wpAnyH_takeD (i := 4) (d := 8) (v := ?_) rfl rfl (by kernel_rfl) (by kernel_rfl) (by kernel_rfl) (fun _ _ _ h => h) (Or.inl ⟨by rfl, ?_⟩) hHeld ?_
  rotate_left
  · (intro w' hSw; (try dsimp only at hSw); go_simp; (try with_reducible rfl))
  simp only [List.setIfInBounds_toArray, List.set_cons_zero, List.set_cons_succ]
  refine wpAnyH_takeD (i := 5) (d := 3) (v := ?_) rfl rfl (by kernel_rfl) (by kernel_rfl) (by kernel_rfl) (fun _ _ _ h => h) (Or.inl ⟨by rfl, ?_⟩) hHeld ?_
  rotate_left
  · (intro w' hSw; (try dsimp only at hSw); go_simp; (try with_reducible rfl))
  simp only [List.setIfInBounds_toArray, List.set_cons_zero, List.set_cons_succ]
  refine wpAnyH_done (by kernel_rfl) ?_ _
  go_wp2_with fail
  go_ret
  exact ⟨rfl, HB.out.drew⟩
set_option maxHeartbeats 1000000 in
theorem bidx_any (xs : List (Int × List UInt8)) (A : Option Addr) (c pb : Nat) (w : World) (hA : Sl w A encIS 2 xs) (hp : w.cell? ⟨pb, 0, none⟩ = some (.pointer (some ⟨tb, 0, none⟩))) (hT : TabIs w tbase tb T sv mb mp) (hl : xs.length < 9000000000000000000) :
    Calls Tryz.prog 89 #[.slice A xs.length c, .func (.func 90) #[] #[.pointer (some ⟨pb, 0, none⟩)]] w fun e w' => (∃ r, e = .returned (.int .i64 r) ∧ decide (0 ≤ r) = !(xs.all (idB T))) ∧ Below w.heap.size w w' := by
  have HA := Lib.hid hA
  have HP := Lib.hid hp
  have HL := Lib.hid hl
  have HTT := Lib.hid hT
  clear hA hp hT
  go_enter Tryz.func89, Tryz.ntmps89
  go_wp2_with fail
  go_loopg [8] xs.length (fun n i W => ∃ k : Nat, k + n = xs.length ∧ i = .int .i64 (k : Int) ∧ Below w.heap.size w W ∧ (xs.take k).all (idB T) = true)
  case atStart => exact ⟨0, Nat.zero_add _, rfl, Below.refl _ _, rfl⟩
  case round =>
    obtain ⟨k, hk, rfl, hbl, hall⟩ := hrel
    rename World => W
    by_cases hlt : k < xs.length
    · have HT := Lib.hid (take_snoc hlt)
      have HG := Lib.hid (show xs[k]? = some xs[k] from by simp)
      have HC := Lib.hid (bclo_any xs[k] W pb (below_cell hbl (Nat.le_refl _) HP.out) (HTT.out.below hbl (Nat.le_refl _)))
      obtain ⟨b, o, rfl, hc⟩ := HA.out.at k hlt
      have g0 : W.cell? ⟨b, o + k * 2, none⟩ = some (.int .i64 xs[k].1) := below_cell hbl (Nat.le_refl _) (hc 0 _ rfl)
      have g1 : W.cell? ⟨b, o + k * 2 + 1, none⟩ = some (.string (bs xs[k].2)) := below_cell hbl (Nat.le_refl _) (hc 1 _ rfl)
      generalize xs[k] = x at *
      have HK := Lib.hid hk
      have HBL := Lib.hid hbl
      have HALL := Lib.hid hall
      have w1 : IntKind.i64.wrap ((k : Int) + 1) = ((k + 1 : Nat) : Int) := IntWalk.i64_in _ (by omega)
      have k0 : (0 : Int) ≤ (k : Int) := by omega
      have k1 : (k : Int) < (xs.length : Int) := by omega
      obtain ⟨b2, hb2⟩ : ∃ b, (idB T) x = b := ⟨_, rfl⟩
      rw [hb2] at HC
      have HB2 := Lib.hid hb2
      clear hk hbl hall hc hb2
      rcases b2 with _ | _
      · go_wp2_with (go_at_call 90; (refine HC.out.mono ?_); (rintro e V1 ⟨rfl, hb⟩); (have HB3 := Lib.hid (HBL.out.trans (hb.mono HBL.out.size))); (clear hb))
        go_ret
        refine ⟨⟨_, rfl, ?_⟩, HB3.out⟩
        rw [all_false HG.out HB2.out, decide_eq_true k0]
        rfl
      · go_wp2_with (go_at_call 90; (refine HC.out.mono ?_); (rintro e V1 ⟨rfl, hb⟩); (have HB3 := Lib.hid (HBL.out.trans (hb.mono HBL.out.size))); (clear hb))
        have hk := HK.out
        go_roundg (xs.length - (k + 1))
        · refine ⟨k + 1, by omega, rfl, HB3.out, ?_⟩
          rw [HT.out, all_snoc, HALL.out, HB2.out]
          rfl
        · omega
    · have hke : k = xs.length := by omega
      have HBL := Lib.hid hbl
      have HALL : Hid (xs.all (idB T) = true) := Lib.hid (by rw [hke, List.take_length] at hall; exact hall)
      have k1 : ¬ (k : Int) < (xs.length : Int) := by omega
      clear hk hke hbl hall
      go_wp2_with fail
      go_ret
      exact ⟨⟨_, rfl, by rw [HALL.out]; rfl⟩, HBL.out⟩
end
end Go.Proofs.YtbppaiejpgdbiaaGreat

/- Layer 10 (vocab): build, where nothing is wrong. PRINTED by tools/vocab_build.py. -/
namespace Go.Proofs.YtbppaiejpgdbiaaGreat
open Go.RowKit Go.Maps Go.WideMaps
set_option maxRecDepth 100000
set_option linter.unusedVariables false
set_option linter.unusedSimpArgs false
theorem results_tm4 {fn : Func} {a b c d : Tmp} (h : fn.results = #[.tmp a, .tmp b, .tmp c, .tmp d]) (tmps : Array Value) (P : Program) (w : World) :
    (results fn tmps).run P w = .ok (.tuple #[tmps.getD a undef, tmps.getD b undef, tmps.getD c undef, tmps.getD d undef]) w := by
  simp only [results, h]
  simp [Sem.run_bind, Result.andThen]

/-- a vocabulary in memory -/
structure VocIs (w : World) (base vb : Nat) (s : SpecP) (T : List Ent) (A1 A2 A3 A4 A5 : Option Addr) (c1 c2 c3 c4 c5 tbase tb bk kbase mk : Nat) (sv : Value) (mb mp : Nat) (sv2 : Value) (mi mt : Nat) (l : Value) (dn st se us : Int) : Prop where
  blk : w.heap[vb]? = some (.cells #[.bool s.rk, .slice A1 s.ms.length c1, .slice A2 s.ts.length c2, .slice A3 s.xs.length c3, .slice A4 s.cs.length c4, .slice A5 s.js.length c5, .pointer (some ⟨tb, 0, none⟩), .pointer (some ⟨bk, 0, none⟩), .pointer (some ⟨mk, 0, none⟩), .int .u32 dn, .int .i32 st, .int .u32 se, l, .int .i64 us] 161)
  org : ∃ V0 : World, V0.heap.size ≤ vb ∧ SpecAt V0 s A1 A2 A3 A4 A5 ∧ TabIs V0 tbase tb T sv mb mp ∧ BTab V0 bk (Cof s.cs) (Jof s.js) ∧ MarkIs V0 kbase mk s.xs sv2 mi mt ∧ Below V0.heap.size V0 w
  lt : base ≤ vb ∧ base ≤ tbase ∧ base ≤ kbase
section
variable {w : World} {base vb : Nat} {s : SpecP} {T : List Ent} {A1 A2 A3 A4 A5 : Option Addr} {c1 c2 c3 c4 c5 tbase tb bk kbase mk : Nat} {sv : Value} {mb mp : Nat} {sv2 : Value} {mi mt : Nat} {l : Value} {dn st se us : Int}
theorem VocIs.tab (h : VocIs w base vb s T A1 A2 A3 A4 A5 c1 c2 c3 c4 c5 tbase tb bk kbase mk sv mb mp sv2 mi mt l dn st se us) : TabIs w tbase tb T sv mb mp := by obtain ⟨V0, _, a, b, c, d, e⟩ := h.org; exact b.below e (Nat.le_refl _)
theorem VocIs.bnd (h : VocIs w base vb s T A1 A2 A3 A4 A5 c1 c2 c3 c4 c5 tbase tb bk kbase mk sv mb mp sv2 mi mt l dn st se us) : BTab w bk (Cof s.cs) (Jof s.js) := by obtain ⟨V0, _, a, b, c, d, e⟩ := h.org; exact c.below e (blk_lt c.1)
theorem VocIs.mrk (h : VocIs w base vb s T A1 A2 A3 A4 A5 c1 c2 c3 c4 c5 tbase tb bk kbase mk sv mb mp sv2 mi mt l dn st se us) : MarkIs w kbase mk s.xs sv2 mi mt := by obtain ⟨V0, _, a, b, c, d, e⟩ := h.org; exact d.below e (Nat.le_refl _)
end
theorem BTab.lt {w : World} {bk : Nat} {C : Nat → Int} {J : Nat → Nat → Bool} (h : BTab w bk C J) : bk < w.heap.size := blk_lt h.1
section
variable {w : World} {s : SpecP} {T : List Ent} {AM AT AX AC AJ : Option Addr} {cM cT cX cC cJ : Nat}
set_option maxHeartbeats 2000000 in
theorem build_any (hs : SpecAt w s AM AT AX AC AJ)
    (hL : ∀ V, Below w.heap.size w V → Calls Tryz.prog 87 #[specW s AM AT AX AC AJ cM cT cX cC cJ] V fun e w' => (∃ tb sv mb mp n, e = .returned (.tuple #[.pointer (some ⟨tb, 0, none⟩), .int .i64 n, .int .i64 0]) ∧ TabIs w' V.heap.size tb T sv mb mp) ∧ Below V.heap.size V w')
    (hM : ∀ V, Below w.heap.size w V → Calls Tryz.prog 88 #[.slice AX s.xs.length cX] V fun e w' => (∃ mb sv mi mt n, e = .returned (.tuple #[.pointer (some ⟨mb, 0, none⟩), .int .i64 n, .int .i64 0]) ∧ MarkIs w' V.heap.size mb s.xs sv mi mt) ∧ Below V.heap.size V w')
    (hid : s.xs.all (idB T) = true) (hln : s.ms.length ≤ 1000000 ∧ s.ts.length ≤ 1000000 ∧ s.xs.length ≤ 1000000 ∧ s.cs.length ≤ 1000000 ∧ s.js.length ≤ 1000000) (hcs : s.cs.all spanB = true) (hjs : s.js.all jnB = true) :
    Calls Tryz.prog 48 #[specW s AM AT AX AC AJ cM cT cX cC cJ] w fun e w' => (∃ vb A1 A2 A3 A4 A5 c1 c2 c3 c4 c5 tbase tb bk kbase mk sv mb mp sv2 mi mt, e = .returned (.tuple #[.pointer (some ⟨vb, 0, none⟩), .int .i64 0, .int .i64 0, .int .i64 0]) ∧ VocIs w' w.heap.size vb s T A1 A2 A3 A4 A5 c1 c2 c3 c4 c5 tbase tb bk kbase mk sv mb mp sv2 mi mt (.slice none 0 0) 0 0 0 0) ∧ Below w.heap.size w w' := by
  unfold specW specV at hL ⊢
  have HS := Lib.hid hs
  have HL := Lib.hid hL
  have HM := Lib.hid hM
  have HI := Lib.hid hid
  have HLN := Lib.hid hln
  have HC := Lib.hid hcs
  have HJ := Lib.hid hjs
  have HB0 := Lib.hid ((Below.refl w.heap.size w).alloc (Nat.le_refl _) (.cells #[.bool s.rk, .slice AM s.ms.length cM, .slice AT s.ts.length cT, .slice AX s.xs.length cX, .slice AC s.cs.length cC, .slice AJ s.js.length cJ] 48))
  have HO0 := Lib.hid (blk_new w (.cells #[.bool s.rk, .slice AM s.ms.length cM, .slice AT s.ts.length cT, .slice AX s.xs.length cX, .slice AC s.cs.length cC, .slice AJ s.js.length cJ] 48))
  obtain ⟨sb, hsb⟩ : ∃ sb, w.heap.size = sb := ⟨_, rfl⟩
  have HO0 : Hid ((w.alloc (.cells #[.bool s.rk, .slice AM s.ms.length cM, .slice AT s.ts.length cT, .slice AX s.xs.length cX, .slice AC s.cs.length cC, .slice AJ s.js.length cJ] 48)).heap[sb]? = some (.cells #[.bool s.rk, .slice AM s.ms.length cM, .slice AT s.ts.length cT, .slice AX s.xs.length cX, .slice AC s.cs.length cC, .slice AJ s.js.length cJ] 48)) := Lib.hid (by rw [← hsb]; exact HO0.out)
  clear hs hL hM hid hln hcs hjs
  go_enter Tryz.func48, Tryz.ntmps48
  go_upto_region 13 with (first
    | (go_at_call 87; (refine (HL.out _ HB0.out).mono ?_); (rintro e V1 ⟨⟨tb, sv, mb, mp, n1, rfl, ht⟩, hb⟩); (have HB1 := Lib.hid ((HB0.out.trans (hb.mono HB0.out.size)).trans (((Below.refl V1.heap.size V1).alloc (Nat.le_refl _) (.cells #[.pointer (some ⟨tb, 0, none⟩)] 63)).mono (HB0.out.trans (hb.mono HB0.out.size)).size))); (have HO1 := Lib.hid (blk_alloc (blk_below hb (blk_lt HO0.out) HO0.out) (.cells #[.pointer (some ⟨tb, 0, none⟩)] 63))); (have HP1 := Lib.hid (blk_new V1 (.cells #[.pointer (some ⟨tb, 0, none⟩)] 63))); (have HT1 := Lib.hid (ht.below ((Below.refl V1.heap.size V1).alloc (Nat.le_refl _) (.cells #[.pointer (some ⟨tb, 0, none⟩)] 63)) (Nat.le_refl _))); (have a1 := blk_cell HO1.out 3); (simp only [List.getElem?_toArray, List.getElem?_cons_zero, List.getElem?_cons_succ] at a1); (clear ht hb))
    | (go_at_call 88; (obtain ⟨pb, hpb⟩ : ∃ pb, V1.heap.size = pb := ⟨_, rfl⟩); (have HP1 := Lib.hid HP1.out); (rw [hpb] at HP1 ⊢); (generalize hX : V1.alloc (.cells #[.pointer (some ⟨tb, 0, none⟩)] 63) = X at *); (clear hX hpb); (refine (HM.out X HB1.out).mono ?_); (rintro e V2 ⟨⟨mk, sv2, mi, mt, n2, rfl, hm⟩, hb⟩); (have HB2 := Lib.hid (HB1.out.trans (hb.mono HB1.out.size))); (have HO2 := Lib.hid (blk_below hb (blk_lt HO1.out) HO1.out)); (have HP2 := Lib.hid (blk_below hb (blk_lt HP1.out) HP1.out)); (have HT2 := Lib.hid (HT1.out.below hb (Nat.le_refl _))); (have HK2 := Lib.hid hm); (have a2 := blk_cell HO2.out 3); (simp only [List.getElem?_toArray, List.getElem?_cons_zero, List.getElem?_cons_succ] at a2); (clear hm hb))
    | (go_at_call 89; (refine (bidx_any s.xs AX cX pb V2 (HS.out.xs.below HB2.out (Nat.le_refl _)) (blk_cell HP2.out 0) HT2.out HS.out.len.2.2.1).mono ?_); (rintro e V3 ⟨⟨r, rfl, hr⟩, hb⟩); (rw [HI.out] at hr); (have r0 : ¬ (0 : Int) ≤ r := of_decide_eq_false hr); (have HB3 := Lib.hid (HB2.out.trans (hb.mono HB2.out.size))); (have HO3 := Lib.hid (blk_below hb (blk_lt HO2.out) HO2.out)); (have HP3 := Lib.hid (blk_below hb (blk_lt HP2.out) HP2.out)); (have HT3 := Lib.hid (HT2.out.below hb (Nat.le_refl _))); (have HK3 := Lib.hid (HK2.out.below hb (Nat.le_refl _))); (have a3 := blk_cell HO3.out 4); (have a4 := blk_cell HO3.out 5); (simp only [List.getElem?_toArray, List.getElem?_cons_zero, List.getElem?_cons_succ] at a3 a4); (clear hr hb))
    | (go_at_call 91; (refine (bnew_any s.cs s.js AC AJ cC cJ V3 (HS.out.cs.below HB3.out (Nat.le_refl _)) (HS.out.js.below HB3.out (Nat.le_refl _)) HS.out.len.2.2.2.1 HS.out.len.2.2.2.2).mono ?_); (rintro e V4 ⟨hb, hn⟩); (rw [if_pos (by rw [HC.out, HJ.out]; rfl)] at hn); (obtain ⟨bk, hbk, rfl, hbt, hbs⟩ := hn); (have HB4 := Lib.hid (HB3.out.trans (hb.mono HB3.out.size))); (have HO4 := Lib.hid (blk_below hb (blk_lt HO3.out) HO3.out)); (have HP4 := Lib.hid (blk_below hb (blk_lt HP3.out) HP3.out)); (have HT4 := Lib.hid (HT3.out.below hb (Nat.le_refl _))); (have HK4 := Lib.hid (HK3.out.below hb (Nat.le_refl _))); (have HN4 : Hid (BTab V4 bk (Cof s.cs) (Jof s.js)) := Lib.hid ⟨hbt, hbs⟩); (clear hb hbk hbt hbs)))
  clear a1 a2 a3 a4 r0
  refine wp_region_D (Ds := []) (S := fun V => V.cell? ⟨sb, 0, none⟩ = some (.bool s.rk) ∧ V.cell? ⟨sb, 1, none⟩ = some (.slice AM s.ms.length cM) ∧ V.cell? ⟨sb, 2, none⟩ = some (.slice AT s.ts.length cT) ∧ V.cell? ⟨sb, 3, none⟩ = some (.slice AX s.xs.length cX) ∧ V.cell? ⟨sb, 4, none⟩ = some (.slice AC s.cs.length cC) ∧ V.cell? ⟨sb, 5, none⟩ = some (.slice AJ s.js.length cJ) ∧ V.cell? ⟨pb, 0, none⟩ = some (.pointer (some ⟨tb, 0, none⟩))) (by kernel_rfl) (by (have q0 := blk_cell HO4.out 0); (have q1 := blk_cell HO4.out 1); (have q2 := blk_cell HO4.out 2); (have q3 := blk_cell HO4.out 3); (have q4 := blk_cell HO4.out 4); (have q5 := blk_cell HO4.out 5); (have q6 := blk_cell HP4.out 0); (simp only [List.getElem?_toArray, List.getElem?_cons_zero, List.getElem?_cons_succ] at q0 q1 q2 q3 q4 q5 q6); exact And.intro q0 (And.intro q1 (And.intro q2 (And.intro q3 (And.intro q4 (And.intro q5 (q6))))))) (fun hHeld => ?_)
  (have hd : Below V4.heap.size V4 V4.drew := ⟨rfl, rfl, rfl, Nat.le_refl _, fun _ _ => rfl⟩); (replace HB4 := Lib.hid HB4.out.drew); (replace HO4 := Lib.hid (blk_below hd (blk_lt HO4.out) HO4.out)); (replace HP4 := Lib.hid (blk_below hd (blk_lt HP4.out) HP4.out)); (replace HT4 := Lib.hid (HT4.out.below hd (Nat.le_refl _))); (replace HK4 := Lib.hid (HK4.out.below hd (Nat.le_refl _))); (replace HN4 := Lib.hid (HN4.out.below hd (blk_lt HN4.out.1))); clear hd; generalize V4.drew = X4 at *
  refine wpAnyD_takeP (i := 3) (oi := { dst := some 54, op := Op.move (Operand.tmp 11), type := 139, pos := "vocab.go:73", after := #[], guard := none }) (d := 54) (v := ?_) rfl rfl (by kernel_rfl) (by kernel_rfl) (by kernel_rfl) (fun _ _ _ h => h) (Or.inl ⟨by rfl, ?_⟩) ?_
  rotate_left
  · (intro w' _; go_simp; (try with_reducible rfl))
  simp only [List.setIfInBounds_toArray, List.set_cons_zero, List.set_cons_succ]
  refine wpAnyD_takeP (i := 4) (oi := { dst := some 55, op := Op.move (Operand.tmp 9), type := 124, pos := "vocab.go:73", after := #[], guard := none }) (d := 55) (v := ?_) rfl rfl (by kernel_rfl) (by kernel_rfl) (by kernel_rfl) (fun _ _ _ h => h) (Or.inl ⟨by rfl, ?_⟩) ?_
  rotate_left
  · (intro w' _; go_simp; (try with_reducible rfl))
  simp only [List.setIfInBounds_toArray, List.set_cons_zero, List.set_cons_succ]
  refine wpAnyD_takeD (i := 0) (oi := { dst := some 51, op := Op.load 48 (Operand.tmp 1), type := 48, pos := "vocab.go:73", after := #[], guard := none }) (d := 51) (v := ?_) rfl rfl (by kernel_rfl) (by kernel_rfl) (by kernel_rfl) (by kernel_rfl) (fun _ _ _ h => h) (Or.inl ⟨by rfl, ?_⟩) hHeld ?_
  rotate_left
  · (intro w' hSw; (try dsimp only at hSw); go_simp; (try with_reducible rfl))
  simp only [List.setIfInBounds_toArray, List.set_cons_zero, List.set_cons_succ]
  refine wpAnyD_takeD (i := 2) (oi := { dst := some 53, op := Op.load 63 (Operand.tmp 6), type := 63, pos := "vocab.go:73", after := #[], guard := none }) (d := 53) (v := ?_) rfl rfl (by kernel_rfl) (by kernel_rfl) (by kernel_rfl) (by kernel_rfl) (fun _ _ _ h => h) (Or.inl ⟨by rfl, ?_⟩) hHeld ?_
  rotate_left
  · (intro w' hSw; (try dsimp only at hSw); go_simp; (try with_reducible rfl))
  simp only [List.setIfInBounds_toArray, List.set_cons_zero, List.set_cons_succ]
  refine wpAnyD_one (i := 1) (o := { dst := some 52, op := Op.call { callee := Callee.value (Operand.func 76), args := #[Operand.tmp 51], argTypes := #[48] }, type := 48, pos := "vocab.go:73", after := #[{ on := 0, ground := Ground.data }], guard := none }) (by kernel_rfl) rfl (by rfl) (fun K hK => ?_)
  go_simp; refine (copied_any (s := s) (HS.out.below HB4.out (Nat.le_refl _)) (by have := HLN.out; omega)).mono ?_; rintro e V5 ⟨⟨A1, A2, A3, A4, A5, c1, c2, c3, c4, c5, rfl, hsp⟩, hb⟩; have HB5 := Lib.hid (HB4.out.trans (hb.mono HB4.out.size)); have HO5 := Lib.hid (blk_below hb (blk_lt HO4.out) HO4.out); have HP5 := Lib.hid (blk_below hb (blk_lt HP4.out) HP4.out); have HT5 := Lib.hid (HT4.out.below hb (Nat.le_refl _)); have HK5 := Lib.hid (HK4.out.below hb (Nat.le_refl _)); have HN5 := Lib.hid (HN4.out.below hb (blk_lt HN4.out.1)); have HS5 := Lib.hid hsp; clear hsp hb; have q0 := blk_cell HO5.out 0; have q1 := blk_cell HO5.out 1; have q2 := blk_cell HO5.out 2; have q3 := blk_cell HO5.out 3; have q4 := blk_cell HO5.out 4; have q5 := blk_cell HO5.out 5; have q6 := blk_cell HP5.out 0; simp only [List.getElem?_toArray, List.getElem?_cons_zero, List.getElem?_cons_succ] at q0 q1 q2 q3 q4 q5 q6; have h := And.intro q0 (And.intro q1 (And.intro q2 (And.intro q3 (And.intro q4 (And.intro q5 (q6)))))); clear q0 q1 q2 q3 q4 q5 q6; unfold specW specV; go_simp
  refine hK.out _ _ h (fun hHeld => ?_)
  clear hK K
  try simp only [Act.put, List.setIfInBounds_toArray, List.set_cons_zero, List.set_cons_succ]
  refine wpAnyD_takeP (i := 5) (oi := { dst := some 56, op := Op.build 141 #[(0, Operand.tmp 52), (1, Operand.tmp 53), (2, Operand.tmp 54), (3, Operand.tmp 55)], type := 141, pos := "vocab.go:73", after := #[{ on := 1, ground := Ground.data }, { on := 2, ground := Ground.data }, { on := 3, ground := Ground.data }, { on := 4, ground := Ground.data }], guard := none }) (d := 56) (v := ?_) rfl rfl (by kernel_rfl) (by kernel_rfl) (by kernel_rfl) (fun _ _ _ h => h) (Or.inl ⟨by rfl, ?_⟩) ?_
  rotate_left
  · (intro w' _; go_simp; (try with_reducible rfl))
  simp only [List.setIfInBounds_toArray, List.set_cons_zero, List.set_cons_succ]
  refine wpAnyD_takeP (i := 6) (oi := { dst := some 57, op := Op.build 161 #[(0, Operand.tmp 56)], type := 161, pos := "vocab.go:73", after := #[{ on := 5, ground := Ground.data }], guard := none }) (d := 57) (v := ?_) rfl rfl (by kernel_rfl) (by kernel_rfl) (by kernel_rfl) (fun _ _ _ h => h) (Or.inl ⟨by rfl, ?_⟩) ?_
  rotate_left
  · (intro w' _; go_simp; (try with_reducible rfl))
  simp only [List.setIfInBounds_toArray, List.set_cons_zero, List.set_cons_succ]
  refine wpAnyD_one (i := 7) (o := { dst := some 58, op := Op.box 161 (Operand.tmp 57), type := 30, pos := "vocab.go:73", after := #[{ on := 6, ground := Ground.data }], guard := none }) (by kernel_rfl) rfl (by rfl) (fun K hK => ?_)
  go_simp; have hal := ((Below.refl V5.heap.size V5).alloc (Nat.le_refl _) (.cells #[.bool s.rk, .slice A1 s.ms.length c1, .slice A2 s.ts.length c2, .slice A3 s.xs.length c3, .slice A4 s.cs.length c4, .slice A5 s.js.length c5, .pointer (some ⟨tb, 0, none⟩), .pointer (some ⟨bk, 0, none⟩), .pointer (some ⟨mk, 0, none⟩), .int .u32 0, .int .i32 0, .int .u32 0, .slice none 0 0, .int .i64 0] 161)); have HV := Lib.hid (blk_new V5 (.cells #[.bool s.rk, .slice A1 s.ms.length c1, .slice A2 s.ts.length c2, .slice A3 s.xs.length c3, .slice A4 s.cs.length c4, .slice A5 s.js.length c5, .pointer (some ⟨tb, 0, none⟩), .pointer (some ⟨bk, 0, none⟩), .pointer (some ⟨mk, 0, none⟩), .int .u32 0, .int .i32 0, .int .u32 0, .slice none 0 0, .int .i64 0] 161)); have HB6 := Lib.hid (HB5.out.trans (hal.mono HB5.out.size)); have HO6 := Lib.hid (blk_below hal (blk_lt HO5.out) HO5.out); have HP6 := Lib.hid (blk_below hal (blk_lt HP5.out) HP5.out); have HT6 := Lib.hid (HT5.out.below hal (Nat.le_refl _)); have HK6 := Lib.hid (HK5.out.below hal (Nat.le_refl _)); have HN6 := Lib.hid (HN5.out.below hal (blk_lt HN5.out.1)); have HS6 := Lib.hid (HS5.out.below hal (Nat.le_refl _)); have HVL := Lib.hid HB5.out.size; have HAL := Lib.hid hal; clear hal; obtain ⟨vb, hvb⟩ : ∃ vb, V5.heap.size = vb := ⟨_, rfl⟩; have HVB : Hid (V5.heap.size ≤ vb) := Lib.hid (Nat.le_of_eq hvb); rw [hvb] at HV HVL ⊢; clear hvb; generalize V5.alloc (.cells #[.bool s.rk, .slice A1 s.ms.length c1, .slice A2 s.ts.length c2, .slice A3 s.xs.length c3, .slice A4 s.cs.length c4, .slice A5 s.js.length c5, .pointer (some ⟨tb, 0, none⟩), .pointer (some ⟨bk, 0, none⟩), .pointer (some ⟨mk, 0, none⟩), .int .u32 0, .int .i32 0, .int .u32 0, .slice none 0 0, .int .i64 0] 161) = V6 at *; have q0 := blk_cell HO6.out 0; have q1 := blk_cell HO6.out 1; have q2 := blk_cell HO6.out 2; have q3 := blk_cell HO6.out 3; have q4 := blk_cell HO6.out 4; have q5 := blk_cell HO6.out 5; have q6 := blk_cell HP6.out 0; simp only [List.getElem?_toArray, List.getElem?_cons_zero, List.getElem?_cons_succ] at q0 q1 q2 q3 q4 q5 q6; have h := And.intro q0 (And.intro q1 (And.intro q2 (And.intro q3 (And.intro q4 (And.intro q5 (q6)))))); clear q0 q1 q2 q3 q4 q5 q6
  refine hK.out _ _ h (fun hHeld => ?_)
  clear hK K
  try simp only [Act.put, List.setIfInBounds_toArray, List.set_cons_zero, List.set_cons_succ]
  refine wpAnyD_takeP (i := 8) (oi := { dst := some 2, op := Op.assign (Operand.tmp 58), type := 30, pos := "vocab.go:73", after := #[{ on := 7, ground := Ground.data }, { on := 1, ground := Ground.chain }, { on := 0, ground := Ground.phase }, { on := 1, ground := Ground.phase }, { on := 2, ground := Ground.phase }, { on := 3, ground := Ground.phase }, { on := 4, ground := Ground.phase }, { on := 5, ground := Ground.phase }, { on := 6, ground := Ground.phase }, { on := 7, ground := Ground.phase }], guard := none }) (d := 2) (v := ?_) rfl rfl (by kernel_rfl) (by kernel_rfl) (by kernel_rfl) (fun _ _ _ h => h) (Or.inl ⟨by rfl, ?_⟩) ?_
  rotate_left
  · (intro w' _; go_simp; (try with_reducible rfl))
  simp only [List.setIfInBounds_toArray, List.set_cons_zero, List.set_cons_succ]
  refine wpAnyD_takeP (i := 9) (oi := { dst := some 3, op := Op.assign (Operand.const (Value.int IntKind.i64 0)), type := 100, pos := "vocab.go:73", after := #[{ on := 8, ground := Ground.chain }, { on := 0, ground := Ground.phase }, { on := 1, ground := Ground.phase }, { on := 2, ground := Ground.phase }, { on := 3, ground := Ground.phase }, { on := 4, ground := Ground.phase }, { on := 5, ground := Ground.phase }, { on := 6, ground := Ground.phase }, { on := 7, ground := Ground.phase }, { on := 8, ground := Ground.phase }], guard := none }) (d := 3) (v := ?_) rfl rfl (by kernel_rfl) (by kernel_rfl) (by kernel_rfl) (fun _ _ _ h => h) (Or.inl ⟨by rfl, ?_⟩) ?_
  rotate_left
  · (intro w' _; go_simp; (try with_reducible rfl))
  simp only [List.setIfInBounds_toArray, List.set_cons_zero, List.set_cons_succ]
  refine wpAnyD_takeP (i := 10) (oi := { dst := some 4, op := Op.assign (Operand.const (Value.int IntKind.i64 0)), type := 3, pos := "vocab.go:73", after := #[{ on := 9, ground := Ground.chain }, { on := 0, ground := Ground.phase }, { on := 1, ground := Ground.phase }, { on := 2, ground := Ground.phase }, { on := 3, ground := Ground.phase }, { on := 4, ground := Ground.phase }, { on := 5, ground := Ground.phase }, { on := 6, ground := Ground.phase }, { on := 7, ground := Ground.phase }, { on := 8, ground := Ground.phase }, { on := 9, ground := Ground.phase }], guard := none }) (d := 4) (v := ?_) rfl rfl (by kernel_rfl) (by kernel_rfl) (by kernel_rfl) (fun _ _ _ h => h) (Or.inl ⟨by rfl, ?_⟩) ?_
  rotate_left
  · (intro w' _; go_simp; (try with_reducible rfl))
  simp only [List.setIfInBounds_toArray, List.set_cons_zero, List.set_cons_succ]
  refine wpAnyD_takeP (i := 11) (oi := { dst := some 5, op := Op.assign (Operand.const (Value.int IntKind.i64 0)), type := 42, pos := "vocab.go:73", after := #[{ on := 10, ground := Ground.chain }, { on := 0, ground := Ground.phase }, { on := 1, ground := Ground.phase }, { on := 2, ground := Ground.phase }, { on := 3, ground := Ground.phase }, { on := 4, ground := Ground.phase }, { on := 5, ground := Ground.phase }, { on := 6, ground := Ground.phase }, { on := 7, ground := Ground.phase }, { on := 8, ground := Ground.phase }, { on := 9, ground := Ground.phase }, { on := 10, ground := Ground.phase }], guard := none }) (d := 5) (v := ?_) rfl rfl (by kernel_rfl) (by kernel_rfl) (by kernel_rfl) (fun _ _ _ h => h) (Or.inl ⟨by rfl, ?_⟩) ?_
  rotate_left
  · (intro w' _; go_simp; (try with_reducible rfl))
  simp only [List.setIfInBounds_toArray, List.set_cons_zero, List.set_cons_succ]
  refine wpAnyD_done (by kernel_rfl) ?_ _
  go_wp2_with fail
  refine bodyPost_ret (results_tm4 rfl _ _ _) rfl ?_
  exact ⟨⟨vb, A1, A2, A3, A4, A5, c1, c2, c3, c4, c5, _, tb, bk, _, mk, _, _, _, _, _, _, rfl, HV.out, ⟨V5, HVB.out, HS5.out, HT5.out, HN5.out, HK5.out, HAL.out⟩, HVL.out, HB0.out.size, HB1.out.size⟩, HB6.out⟩
end
end Go.Proofs.YtbppaiejpgdbiaaGreat

