/- Layer 5 (chain): stale. -/
import Derived.Test.YtpkmcokkapfnmaaChain5
namespace Go.Proofs.Ytpkmcokkapfnmaa
open Go.RowKit Go.Maps Go.WideMaps
set_option maxRecDepth 100000
set_option linter.unusedVariables false
set_option linter.unusedSimpArgs false

/-- aren't two any more what they were? -/
def staleB (N : List Node) (x : Node) (a b : Int) : Bool :=
  if x.1 ≠ a then true else if x.2.2 = -1 then true else match N[x.2.2.toNat]? with
    | some y => y.1 != b
    | none => true
section
variable {w w' : World} {base tbase tb : Nat} {T : List Ent} {sv : Value} {mb mp cb qb : Nat} {N : List Node} {bel steps : Int} {A : Option Addr} {c : Nat} {Q : List (Th Wt)} {turn : Int} {Aq : Option Addr} {cq : Nat}
set_option maxHeartbeats 4000000 in
theorem stale_any (h : ChainIs w base tbase tb T sv mb mp cb qb N bel steps A c Q turn Aq cq) (i : Nat) (x : Node) (a b : Int) (hi : N[i]? = some x) (hnx : x.1 = a → x.2.2 ≠ -1 → ∃ j : Nat, x.2.2 = j ∧ ∃ y, N[j]? = some y) :
    Calls Try.prog 54 #[.pointer (some ⟨cb, 0, none⟩), hw.wtV ⟨(i : Int), a, b⟩] w fun e w' => e = .returned (.bool (staleB N x a b)) ∧ Below w.heap.size w w' := by
  obtain ⟨B, hB⟩ : ∃ B, staleB N x a b = B := ⟨_, rfl⟩
  rw [hB]
  have HBB := Lib.hid hB
  obtain ⟨x1, x2, x3⟩ := x
  have hlt := (List.getElem?_eq_some_iff.1 hi).1
  have hbx := (Below.refl w.heap.size w).alloc (Nat.le_refl _) (.cells #[.int .i64 (i : Int), .int .i64 a, .int .i64 b] 105)
  have hn := blk_new w (.cells #[.int .i64 (i : Int), .int .i64 a, .int .i64 b] 105)
  have HD := Lib.hid (h.below hbx (Nat.le_refl _))
  have HB0 := Lib.hid hbx
  have HN := Lib.hid hn
  have p0 : (0 : Int) ≤ (i : Int) := by omega
  have p1 : (i : Int) < (N.length : Int) := by omega
  have HI := Lib.hid hi
  have HX := Lib.hid hnx
  have HG : Hid (∃ g3, g3 = w.heap.size) := Lib.hid ⟨_, rfl⟩
  clear h hB hbx hn hi hnx
  unfold hw.wtV
  go_enter Try.func54, Try.ntmps54
  go_upto_region 1 with fail
  generalize w.alloc (.cells #[.int .i64 (i : Int), .int .i64 a, .int .i64 b] 105) = W1 at *
  obtain ⟨g, hA, a0, a1, a2⟩ := HD.out.lk.at i _ HI.out
  subst hA
  have h1 := blk_cell HD.out.lk.blk 1
  have n0 := blk_cell HN.out 0
  simp only [List.getElem?_toArray, List.getElem?_cons_zero, List.getElem?_cons_succ] at h1 a0 a1 a2 n0
  refine wp_region_D (Ds := [9]) (S := fun V => V.cell? ⟨cb, 1, none⟩ = some (.slice (some ⟨g, 0, none⟩) N.length c) ∧ V.cell? ⟨w.heap.size, 0, none⟩ = some (.int .i64 (i : Int)) ∧ V.cell? ⟨g, i * 3, none⟩ = some (.int .i64 x1) ∧ V.cell? ⟨g, i * 3 + 1, none⟩ = some (.int .i64 x2) ∧ V.cell? ⟨g, i * 3 + 2, none⟩ = some (.int .i64 x3)) (by kernel_rfl) (by exact ⟨h1, n0, a0, a1, a2⟩) (fun hHeld => ?_)
  (replace HD := Lib.hid HD.out.drew); (replace HB0 : Hid (Below w.heap.size w W1.drew) := Lib.hid HB0.out.drew); (replace HN : Hid (W1.drew.heap[w.heap.size]? = some (.cells #[.int .i64 (i : Int), .int .i64 a, .int .i64 b] 105)) := Lib.hid HN.out); generalize W1.drew = W0 at *
  refine wpAnyD_takeP (i := 0) (oi := { dst := some 6, op := Op.move (Operand.tmp 0), type := 72, pos := "chain.go:62", after := #[], guard := none }) (d := 6) (v := ?_) rfl rfl (by kernel_rfl) (by kernel_rfl) (by kernel_rfl) (fun _ _ _ h => h) (Or.inl ⟨by rfl, ?_⟩) ?_
  rotate_left
  · (intro w' _; go_simp; (try with_reducible rfl))
  simp only [List.setIfInBounds_toArray, List.set_cons_zero, List.set_cons_succ]
  refine wpAnyD_takeP (i := 1) (oi := { dst := some 7, op := Op.nilCheck (Operand.tmp 6), type := 0, pos := "chain.go:62", after := #[{ on := 0, ground := Ground.data }], guard := none }) (d := 7) (v := ?_) rfl rfl (by kernel_rfl) (by kernel_rfl) (by kernel_rfl) (fun _ _ _ h => h) (Or.inl ⟨by rfl, ?_⟩) ?_
  rotate_left
  · (intro w' _; go_simp; (try with_reducible rfl))
  simp only [List.setIfInBounds_toArray, List.set_cons_zero, List.set_cons_succ]
  refine wpAnyD_takeP (i := 2) (oi := { dst := some 8, op := Op.fieldAddr 78 (Operand.tmp 7) 1, type := 0, pos := "chain.go:62", after := #[{ on := 1, ground := Ground.data }], guard := none }) (d := 8) (v := ?_) rfl rfl (by kernel_rfl) (by kernel_rfl) (by kernel_rfl) (fun _ _ _ h => h) (Or.inl ⟨by rfl, ?_⟩) ?_
  rotate_left
  · (intro w' _; go_simp; (try with_reducible rfl))
  simp only [List.setIfInBounds_toArray, List.set_cons_zero, List.set_cons_succ]
  refine wpAnyD_takeP (i := 4) (oi := { dst := some 10, op := Op.fieldAddr 105 (Operand.tmp 3) 0, type := 0, pos := "chain.go:62", after := #[], guard := none }) (d := 10) (v := ?_) rfl rfl (by kernel_rfl) (by kernel_rfl) (by kernel_rfl) (fun _ _ _ h => h) (Or.inl ⟨by rfl, ?_⟩) ?_
  rotate_left
  · (intro w' _; go_simp; (try with_reducible rfl))
  simp only [List.setIfInBounds_toArray, List.set_cons_zero, List.set_cons_succ]
  refine wpAnyD_takeD (i := 3) (oi := { dst := some 9, op := Op.load 75 (Operand.tmp 8), type := 75, pos := "chain.go:62", after := #[{ on := 2, ground := Ground.data }], guard := none }) (d := 9) (v := ?_) rfl rfl (by kernel_rfl) (by kernel_rfl) (by kernel_rfl) (by kernel_rfl) (fun _ _ _ h => h) (Or.inl ⟨by rfl, ?_⟩) hHeld ?_
  rotate_left
  · (intro w' hSw; (try dsimp only at hSw); go_simp; (try with_reducible rfl))
  simp only [List.setIfInBounds_toArray, List.set_cons_zero, List.set_cons_succ]
  refine wpAnyD_takeD (i := 5) (oi := { dst := some 11, op := Op.load 3 (Operand.tmp 10), type := 3, pos := "chain.go:62", after := #[{ on := 4, ground := Ground.data }], guard := none }) (d := 11) (v := ?_) rfl rfl (by kernel_rfl) (by kernel_rfl) (by kernel_rfl) (by kernel_rfl) (fun _ _ _ h => h) (Or.inl ⟨by rfl, ?_⟩) hHeld ?_
  rotate_left
  · (intro w' hSw; (try dsimp only at hSw); go_simp; (try with_reducible rfl))
  simp only [List.setIfInBounds_toArray, List.set_cons_zero, List.set_cons_succ]
  refine wpAnyD_takeP (i := 6) (oi := { dst := some 12, op := Op.indexAddr 75 (Operand.tmp 9) (Operand.tmp 11), type := 0, pos := "chain.go:62", after := #[{ on := 3, ground := Ground.data }, { on := 5, ground := Ground.data }], guard := none }) (d := 12) (v := ?_) rfl rfl (by kernel_rfl) (by kernel_rfl) (by kernel_rfl) (fun _ _ _ h => h) (Or.inl ⟨by rfl, ?_⟩) ?_
  rotate_left
  · (intro w' _; go_simp; (try with_reducible rfl))
  simp only [List.setIfInBounds_toArray, List.set_cons_zero, List.set_cons_succ]
  refine wpAnyD_takeD (i := 7) (oi := { dst := some 13, op := Op.load 107 (Operand.tmp 12), type := 107, pos := "chain.go:62", after := #[{ on := 6, ground := Ground.data }], guard := none }) (d := 13) (v := ?_) rfl rfl (by kernel_rfl) (by kernel_rfl) (by kernel_rfl) (by kernel_rfl) (fun _ _ _ h => h) (Or.inl ⟨by rfl, ?_⟩) hHeld ?_
  rotate_left
  · (intro w' hSw; (try dsimp only at hSw); go_simp; (try with_reducible rfl))
  simp only [List.setIfInBounds_toArray, List.set_cons_zero, List.set_cons_succ]
  refine wpAnyD_one (i := 8) (o := { dst := some 5, op := Op.alloc 107, type := 0, pos := "chain.go:62", after := #[], guard := none }) (by kernel_rfl) rfl (by rfl) (fun K hK => ?_)
  go_simp; have hbl := (Below.refl W0.heap.size W0).alloc (Nat.le_refl _) (.cells #[.int .i64 0, .int .i64 0, .int .i64 0] 107); have h := And.intro (below_cell hbl (Nat.le_refl _) hHeld.1) (And.intro (below_cell hbl (Nat.le_refl _) hHeld.2.1) (And.intro (below_cell hbl (Nat.le_refl _) hHeld.2.2.1) (And.intro (below_cell hbl (Nat.le_refl _) hHeld.2.2.2.1) (below_cell hbl (Nat.le_refl _) hHeld.2.2.2.2)))); clear hbl
  refine hK.out _ _ h (fun hHeld => ?_)
  clear hK K
  try simp only [Act.put, List.setIfInBounds_toArray, List.set_cons_zero, List.set_cons_succ]
  refine wpAnyD_last (D := 9) (by decide) (o := { dst := none, op := Op.store 107 (Operand.tmp 5) (Operand.tmp 13), type := 0, pos := "chain.go:62", after := #[{ on := 8, ground := Ground.data }, { on := 7, ground := Ground.data }, { on := 0, ground := Ground.phase }, { on := 1, ground := Ground.phase }, { on := 2, ground := Ground.phase }, { on := 3, ground := Ground.phase }, { on := 4, ground := Ground.phase }, { on := 5, ground := Ground.phase }, { on := 6, ground := Ground.phase }, { on := 7, ground := Ground.phase }, { on := 8, ground := Ground.phase }], guard := none }) (by kernel_rfl) rfl (by rfl) (fun K hK => ?_)
  go_simp
  refine hK.out _ _ ?_
  clear hK K
  try simp only [Act.put, List.setIfInBounds_toArray, List.set_cons_zero, List.set_cons_succ]
  refine wpAnyD_done (by kernel_rfl) ?_ _
  go_upto_region 2 with fail
  clear h hHeld h1 n0 a0 a1 a2 p0 p1
  have HBW := Lib.hid ((Below.refl W0.heap.size W0).alloc (Nat.le_refl _) (.cells #[.int .i64 x1, .int .i64 x2, .int .i64 x3] 107))
  have HN5 := Lib.hid (blk_new W0 (.cells #[.int .i64 x1, .int .i64 x2, .int .i64 x3] 107))
  replace HN := Lib.hid (blk_alloc HN.out (.cells #[.int .i64 x1, .int .i64 x2, .int .i64 x3] 107))
  replace HD := Lib.hid (HD.out.below HBW.out (Nat.le_refl _))
  replace HB0 := Lib.hid (HB0.out.trans (HBW.out.mono HB0.out.size))
  clear HBW
  generalize W0.heap.size = g5 at *
  generalize W0.alloc (.cells #[.int .i64 x1, .int .i64 x2, .int .i64 x3] 107) = W2 at *
  have h1 := blk_cell HD.out.lk.blk 1
  have n1 := blk_cell HN.out 1
  have n2 := blk_cell HN.out 2
  have m0 := blk_cell HN5.out 0
  have m2 := blk_cell HN5.out 2
  simp only [List.getElem?_toArray, List.getElem?_cons_zero, List.getElem?_cons_succ] at h1 n1 n2 m0 m2
  by_cases e1 : x1 = a
  · subst e1
    by_cases e2 : x3 = -1
    · subst e2
      have HT : Hid (B = true) := Lib.hid (by rw [← HBB.out]; simp [staleB])
      refine wp_region_held_drew (S := fun V => V.cell? ⟨cb, 1, none⟩ = some (.slice (some ⟨g, 0, none⟩) N.length c) ∧ V.cell? ⟨w.heap.size, 1, none⟩ = some (.int .i64 x1) ∧ V.cell? ⟨g5, 0, none⟩ = some (.int .i64 x1) ∧ V.cell? ⟨g5, 2, none⟩ = some (.int .i64 (-1))) (by kernel_rfl) (by exact ⟨h1, n1, m0, m2⟩) (fun hHeld => ?_)
      refine wpAnyH_takeD (i := 0) (oi := { dst := some 14, op := Op.fieldAddr 107 (Operand.tmp 5) 0, type := 0, pos := "chain.go:63", after := #[], guard := none }) (d := 14) (v := ?_) rfl rfl (by kernel_rfl) (by kernel_rfl) (by kernel_rfl) (fun _ _ _ h => h) (Or.inl ⟨by rfl, ?_⟩) hHeld ?_
      rotate_left
      · (intro w' hSw; (try dsimp only at hSw); go_simp; (try with_reducible rfl))
      simp only [List.setIfInBounds_toArray, List.set_cons_zero, List.set_cons_succ]
      refine wpAnyH_takeD (i := 1) (oi := { dst := some 15, op := Op.load 3 (Operand.tmp 14), type := 3, pos := "chain.go:63", after := #[{ on := 0, ground := Ground.data }], guard := none }) (d := 15) (v := ?_) rfl rfl (by kernel_rfl) (by kernel_rfl) (by kernel_rfl) (fun _ _ _ h => h) (Or.inl ⟨by rfl, ?_⟩) hHeld ?_
      rotate_left
      · (intro w' hSw; (try dsimp only at hSw); go_simp; (try with_reducible rfl))
      simp only [List.setIfInBounds_toArray, List.set_cons_zero, List.set_cons_succ]
      refine wpAnyH_takeD (i := 2) (oi := { dst := some 16, op := Op.fieldAddr 105 (Operand.tmp 3) 1, type := 0, pos := "chain.go:63", after := #[], guard := none }) (d := 16) (v := ?_) rfl rfl (by kernel_rfl) (by kernel_rfl) (by kernel_rfl) (fun _ _ _ h => h) (Or.inl ⟨by rfl, ?_⟩) hHeld ?_
      rotate_left
      · (intro w' hSw; (try dsimp only at hSw); go_simp; (try with_reducible rfl))
      simp only [List.setIfInBounds_toArray, List.set_cons_zero, List.set_cons_succ]
      refine wpAnyH_takeD (i := 3) (oi := { dst := some 17, op := Op.fieldAddr 71 (Operand.tmp 16) 0, type := 0, pos := "chain.go:63", after := #[{ on := 2, ground := Ground.data }], guard := none }) (d := 17) (v := ?_) rfl rfl (by kernel_rfl) (by kernel_rfl) (by kernel_rfl) (fun _ _ _ h => h) (Or.inl ⟨by rfl, ?_⟩) hHeld ?_
      rotate_left
      · (intro w' hSw; (try dsimp only at hSw); go_simp; (try with_reducible rfl))
      simp only [List.setIfInBounds_toArray, List.set_cons_zero, List.set_cons_succ]
      refine wpAnyH_takeD (i := 4) (oi := { dst := some 18, op := Op.load 3 (Operand.tmp 17), type := 3, pos := "chain.go:63", after := #[{ on := 3, ground := Ground.data }], guard := none }) (d := 18) (v := ?_) rfl rfl (by kernel_rfl) (by kernel_rfl) (by kernel_rfl) (fun _ _ _ h => h) (Or.inl ⟨by rfl, ?_⟩) hHeld ?_
      rotate_left
      · (intro w' hSw; (try dsimp only at hSw); go_simp; (try with_reducible rfl))
      simp only [List.setIfInBounds_toArray, List.set_cons_zero, List.set_cons_succ]
      refine wpAnyH_takeD (i := 5) (oi := { dst := some 19, op := Op.binOp BinOp.neq 3 (Operand.tmp 15) (Operand.tmp 18) 3, type := 4, pos := "chain.go:63", after := #[{ on := 1, ground := Ground.data }, { on := 4, ground := Ground.data }], guard := none }) (d := 19) (v := ?_) rfl rfl (by kernel_rfl) (by kernel_rfl) (by kernel_rfl) (fun _ _ _ h => h) (Or.inl ⟨by rfl, ?_⟩) hHeld ?_
      rotate_left
      · (intro w' hSw; (try dsimp only at hSw); go_simp; (try with_reducible rfl))
      simp only [List.setIfInBounds_toArray, List.set_cons_zero, List.set_cons_succ]
      refine wpAnyH_takeD (i := 6) (oi := { dst := some 20, op := Op.move (Operand.tmp 19), type := 4, pos := "chain.go:63", after := #[{ on := 5, ground := Ground.data }], guard := none }) (d := 20) (v := ?_) rfl rfl (by kernel_rfl) (by kernel_rfl) (by kernel_rfl) (fun _ _ _ h => h) (Or.inl ⟨by rfl, ?_⟩) hHeld ?_
      rotate_left
      · (intro w' hSw; (try dsimp only at hSw); go_simp; (try with_reducible rfl))
      simp only [List.setIfInBounds_toArray, List.set_cons_zero, List.set_cons_succ]
      refine wpAnyH_takeD (i := 7) (oi := { dst := some 21, op := Op.fieldAddr 107 (Operand.tmp 5) 2, type := 0, pos := "chain.go:63", after := #[{ on := 6, ground := Ground.guard }], guard := some (6, false) }) (d := 21) (v := ?_) rfl rfl (by kernel_rfl) (by kernel_rfl) (by kernel_rfl) (fun _ _ _ h => h) (Or.inl ⟨by rfl, ?_⟩) hHeld ?_
      rotate_left
      · (intro w' hSw; (try dsimp only at hSw); go_simp; (try with_reducible rfl))
      simp only [List.setIfInBounds_toArray, List.set_cons_zero, List.set_cons_succ]
      refine wpAnyH_takeD (i := 8) (oi := { dst := some 22, op := Op.load 3 (Operand.tmp 21), type := 3, pos := "chain.go:63", after := #[{ on := 7, ground := Ground.data }, { on := 6, ground := Ground.guard }], guard := some (6, false) }) (d := 22) (v := ?_) rfl rfl (by kernel_rfl) (by kernel_rfl) (by kernel_rfl) (fun _ _ _ h => h) (Or.inl ⟨by rfl, ?_⟩) hHeld ?_
      rotate_left
      · (intro w' hSw; (try dsimp only at hSw); go_simp; (try with_reducible rfl))
      simp only [List.setIfInBounds_toArray, List.set_cons_zero, List.set_cons_succ]
      refine wpAnyH_takeD (i := 9) (oi := { dst := some 23, op := Op.binOp BinOp.eql 3 (Operand.tmp 22) (Operand.const (Value.int IntKind.i64 (-1))) 3, type := 4, pos := "chain.go:63", after := #[{ on := 8, ground := Ground.data }, { on := 6, ground := Ground.guard }], guard := some (6, false) }) (d := 23) (v := ?_) rfl rfl (by kernel_rfl) (by kernel_rfl) (by kernel_rfl) (fun _ _ _ h => h) (Or.inl ⟨by rfl, ?_⟩) hHeld ?_
      rotate_left
      · (intro w' hSw; (try dsimp only at hSw); go_simp; (try with_reducible rfl))
      simp only [List.setIfInBounds_toArray, List.set_cons_zero, List.set_cons_succ]
      refine wpAnyH_takeD (i := 10) (oi := { dst := some 24, op := Op.pick (Operand.tmp 20) (Operand.const (Value.bool true)) (Operand.tmp 23), type := 4, pos := "chain.go:63", after := #[{ on := 6, ground := Ground.data }, { on := 9, ground := Ground.data }], guard := none }) (d := 24) (v := ?_) rfl rfl (by kernel_rfl) (by kernel_rfl) (by kernel_rfl) (fun _ _ _ h => h) (Or.inl ⟨by rfl, ?_⟩) hHeld ?_
      rotate_left
      · (intro w' hSw; (try dsimp only at hSw); go_simp; (try with_reducible rfl))
      simp only [List.setIfInBounds_toArray, List.set_cons_zero, List.set_cons_succ]
      refine wpAnyH_takeD (i := 11) (oi := { dst := some 25, op := Op.move (Operand.tmp 24), type := 4, pos := "chain.go:63", after := #[{ on := 10, ground := Ground.data }, { on := 6, ground := Ground.chain }], guard := none }) (d := 25) (v := ?_) rfl rfl (by kernel_rfl) (by kernel_rfl) (by kernel_rfl) (fun _ _ _ h => h) (Or.inl ⟨by rfl, ?_⟩) hHeld ?_
      rotate_left
      · (intro w' hSw; (try dsimp only at hSw); go_simp; (try with_reducible rfl))
      simp only [List.setIfInBounds_toArray, List.set_cons_zero, List.set_cons_succ]
      refine wpAnyH_takeD (i := 12) (oi := { dst := some 26, op := Op.move (Operand.tmp 0), type := 72, pos := "chain.go:63", after := #[{ on := 11, ground := Ground.guard }], guard := some (11, false) }) (d := 26) (v := undef) rfl rfl (by kernel_rfl) (by kernel_rfl) (by kernel_rfl) (fun _ _ _ h => h) (Or.inr ⟨by rfl, rfl⟩) hHeld ?_
      simp only [List.setIfInBounds_toArray, List.set_cons_zero, List.set_cons_succ]
      refine wpAnyH_takeD (i := 13) (oi := { dst := some 27, op := Op.nilCheck (Operand.tmp 26), type := 0, pos := "chain.go:63", after := #[{ on := 12, ground := Ground.data }, { on := 11, ground := Ground.guard }], guard := some (11, false) }) (d := 27) (v := undef) rfl rfl (by kernel_rfl) (by kernel_rfl) (by kernel_rfl) (fun _ _ _ h => h) (Or.inr ⟨by rfl, rfl⟩) hHeld ?_
      simp only [List.setIfInBounds_toArray, List.set_cons_zero, List.set_cons_succ]
      refine wpAnyH_takeD (i := 14) (oi := { dst := some 28, op := Op.fieldAddr 78 (Operand.tmp 27) 1, type := 0, pos := "chain.go:63", after := #[{ on := 13, ground := Ground.data }, { on := 11, ground := Ground.guard }], guard := some (11, false) }) (d := 28) (v := undef) rfl rfl (by kernel_rfl) (by kernel_rfl) (by kernel_rfl) (fun _ _ _ h => h) (Or.inr ⟨by rfl, rfl⟩) hHeld ?_
      simp only [List.setIfInBounds_toArray, List.set_cons_zero, List.set_cons_succ]
      refine wpAnyH_takeD (i := 15) (oi := { dst := some 29, op := Op.load 75 (Operand.tmp 28), type := 75, pos := "chain.go:63", after := #[{ on := 14, ground := Ground.data }, { on := 11, ground := Ground.guard }], guard := some (11, false) }) (d := 29) (v := undef) rfl rfl (by kernel_rfl) (by kernel_rfl) (by kernel_rfl) (fun _ _ _ h => h) (Or.inr ⟨by rfl, rfl⟩) hHeld ?_
      simp only [List.setIfInBounds_toArray, List.set_cons_zero, List.set_cons_succ]
      refine wpAnyH_takeD (i := 16) (oi := { dst := some 30, op := Op.fieldAddr 107 (Operand.tmp 5) 2, type := 0, pos := "chain.go:63", after := #[{ on := 11, ground := Ground.guard }], guard := some (11, false) }) (d := 30) (v := undef) rfl rfl (by kernel_rfl) (by kernel_rfl) (by kernel_rfl) (fun _ _ _ h => h) (Or.inr ⟨by rfl, rfl⟩) hHeld ?_
      simp only [List.setIfInBounds_toArray, List.set_cons_zero, List.set_cons_succ]
      refine wpAnyH_takeD (i := 17) (oi := { dst := some 31, op := Op.load 3 (Operand.tmp 30), type := 3, pos := "chain.go:63", after := #[{ on := 16, ground := Ground.data }, { on := 11, ground := Ground.guard }], guard := some (11, false) }) (d := 31) (v := undef) rfl rfl (by kernel_rfl) (by kernel_rfl) (by kernel_rfl) (fun _ _ _ h => h) (Or.inr ⟨by rfl, rfl⟩) hHeld ?_
      simp only [List.setIfInBounds_toArray, List.set_cons_zero, List.set_cons_succ]
      refine wpAnyH_takeD (i := 18) (oi := { dst := some 32, op := Op.indexAddr 75 (Operand.tmp 29) (Operand.tmp 31), type := 0, pos := "chain.go:63", after := #[{ on := 15, ground := Ground.data }, { on := 17, ground := Ground.data }, { on := 11, ground := Ground.guard }], guard := some (11, false) }) (d := 32) (v := undef) rfl rfl (by kernel_rfl) (by kernel_rfl) (by kernel_rfl) (fun _ _ _ h => h) (Or.inr ⟨by rfl, rfl⟩) hHeld ?_
      simp only [List.setIfInBounds_toArray, List.set_cons_zero, List.set_cons_succ]
      refine wpAnyH_takeD (i := 19) (oi := { dst := some 33, op := Op.fieldAddr 107 (Operand.tmp 32) 0, type := 0, pos := "chain.go:63", after := #[{ on := 18, ground := Ground.data }, { on := 11, ground := Ground.guard }], guard := some (11, false) }) (d := 33) (v := undef) rfl rfl (by kernel_rfl) (by kernel_rfl) (by kernel_rfl) (fun _ _ _ h => h) (Or.inr ⟨by rfl, rfl⟩) hHeld ?_
      simp only [List.setIfInBounds_toArray, List.set_cons_zero, List.set_cons_succ]
      refine wpAnyH_takeD (i := 20) (oi := { dst := some 34, op := Op.load 3 (Operand.tmp 33), type := 3, pos := "chain.go:63", after := #[{ on := 19, ground := Ground.data }, { on := 11, ground := Ground.guard }], guard := some (11, false) }) (d := 34) (v := undef) rfl rfl (by kernel_rfl) (by kernel_rfl) (by kernel_rfl) (fun _ _ _ h => h) (Or.inr ⟨by rfl, rfl⟩) hHeld ?_
      simp only [List.setIfInBounds_toArray, List.set_cons_zero, List.set_cons_succ]
      refine wpAnyH_takeD (i := 21) (oi := { dst := some 35, op := Op.fieldAddr 105 (Operand.tmp 3) 1, type := 0, pos := "chain.go:63", after := #[{ on := 11, ground := Ground.guard }], guard := some (11, false) }) (d := 35) (v := undef) rfl rfl (by kernel_rfl) (by kernel_rfl) (by kernel_rfl) (fun _ _ _ h => h) (Or.inr ⟨by rfl, rfl⟩) hHeld ?_
      simp only [List.setIfInBounds_toArray, List.set_cons_zero, List.set_cons_succ]
      refine wpAnyH_takeD (i := 22) (oi := { dst := some 36, op := Op.fieldAddr 71 (Operand.tmp 35) 1, type := 0, pos := "chain.go:63", after := #[{ on := 21, ground := Ground.data }, { on := 11, ground := Ground.guard }], guard := some (11, false) }) (d := 36) (v := undef) rfl rfl (by kernel_rfl) (by kernel_rfl) (by kernel_rfl) (fun _ _ _ h => h) (Or.inr ⟨by rfl, rfl⟩) hHeld ?_
      simp only [List.setIfInBounds_toArray, List.set_cons_zero, List.set_cons_succ]
      refine wpAnyH_takeD (i := 23) (oi := { dst := some 37, op := Op.load 3 (Operand.tmp 36), type := 3, pos := "chain.go:63", after := #[{ on := 22, ground := Ground.data }, { on := 11, ground := Ground.guard }], guard := some (11, false) }) (d := 37) (v := undef) rfl rfl (by kernel_rfl) (by kernel_rfl) (by kernel_rfl) (fun _ _ _ h => h) (Or.inr ⟨by rfl, rfl⟩) hHeld ?_
      simp only [List.setIfInBounds_toArray, List.set_cons_zero, List.set_cons_succ]
      refine wpAnyH_takeD (i := 24) (oi := { dst := some 38, op := Op.binOp BinOp.neq 3 (Operand.tmp 34) (Operand.tmp 37) 3, type := 4, pos := "chain.go:63", after := #[{ on := 20, ground := Ground.data }, { on := 23, ground := Ground.data }, { on := 11, ground := Ground.guard }], guard := some (11, false) }) (d := 38) (v := undef) rfl rfl (by kernel_rfl) (by kernel_rfl) (by kernel_rfl) (fun _ _ _ h => h) (Or.inr ⟨by rfl, rfl⟩) hHeld ?_
      simp only [List.setIfInBounds_toArray, List.set_cons_zero, List.set_cons_succ]
      refine wpAnyH_takeD (i := 25) (oi := { dst := some 39, op := Op.pick (Operand.tmp 25) (Operand.const (Value.bool true)) (Operand.tmp 38), type := 4, pos := "chain.go:63", after := #[{ on := 11, ground := Ground.data }, { on := 24, ground := Ground.data }], guard := none }) (d := 39) (v := ?_) rfl rfl (by kernel_rfl) (by kernel_rfl) (by kernel_rfl) (fun _ _ _ h => h) (Or.inl ⟨by rfl, ?_⟩) hHeld ?_
      rotate_left
      · (intro w' hSw; (try dsimp only at hSw); go_simp; (try with_reducible rfl))
      simp only [List.setIfInBounds_toArray, List.set_cons_zero, List.set_cons_succ]
      refine wpAnyH_takeD (i := 26) (oi := { dst := some 4, op := Op.assign (Operand.tmp 39), type := 4, pos := "chain.go:63", after := #[{ on := 25, ground := Ground.data }, { on := 11, ground := Ground.chain }, { on := 0, ground := Ground.phase }, { on := 1, ground := Ground.phase }, { on := 2, ground := Ground.phase }, { on := 3, ground := Ground.phase }, { on := 4, ground := Ground.phase }, { on := 5, ground := Ground.phase }, { on := 6, ground := Ground.phase }, { on := 7, ground := Ground.phase }, { on := 8, ground := Ground.phase }, { on := 9, ground := Ground.phase }, { on := 10, ground := Ground.phase }, { on := 11, ground := Ground.phase }, { on := 12, ground := Ground.phase }, { on := 13, ground := Ground.phase }, { on := 14, ground := Ground.phase }, { on := 15, ground := Ground.phase }, { on := 16, ground := Ground.phase }, { on := 17, ground := Ground.phase }, { on := 18, ground := Ground.phase }, { on := 19, ground := Ground.phase }, { on := 20, ground := Ground.phase }, { on := 21, ground := Ground.phase }, { on := 22, ground := Ground.phase }, { on := 23, ground := Ground.phase }, { on := 24, ground := Ground.phase }, { on := 25, ground := Ground.phase }], guard := none }) (d := 4) (v := ?_) rfl rfl (by kernel_rfl) (by kernel_rfl) (by kernel_rfl) (fun _ _ _ h => h) (Or.inl ⟨by rfl, ?_⟩) hHeld ?_
      rotate_left
      · (intro w' hSw; (try dsimp only at hSw); go_simp; (try with_reducible rfl))
      simp only [List.setIfInBounds_toArray, List.set_cons_zero, List.set_cons_succ]
      refine wpAnyH_done (by kernel_rfl) ?_ _
      go_wp2_with fail
      go_ret
      exact ⟨ret_bool HT.out.symm, HB0.out.drew⟩
    · obtain ⟨j, hj, y, hy⟩ := HX.out rfl e2
      simp only at hj
      subst hj
      have q2 : ((j : Int) == -1) = false := by simp
      have HT : Hid (B = (y.1 != b)) := Lib.hid (by rw [← HBB.out]; simp [staleB, hy])
      have hlt2 := (List.getElem?_eq_some_iff.1 hy).1
      obtain ⟨g', e, b0, b1, b2⟩ := HD.out.lk.at j _ hy
      injection e with e
      injection e with e
      subst e
      have p2 : (0 : Int) ≤ (j : Int) := by omega
      have p3 : (j : Int) < (N.length : Int) := by omega
      clear e2 hy
      refine wp_region_held_drew (S := fun V => V.cell? ⟨cb, 1, none⟩ = some (.slice (some ⟨g, 0, none⟩) N.length c) ∧ V.cell? ⟨w.heap.size, 1, none⟩ = some (.int .i64 x1) ∧ V.cell? ⟨w.heap.size, 2, none⟩ = some (.int .i64 b) ∧ V.cell? ⟨g5, 0, none⟩ = some (.int .i64 x1) ∧ V.cell? ⟨g5, 2, none⟩ = some (.int .i64 (j : Int)) ∧ V.cell? ⟨g, j * 3, none⟩ = some (.int .i64 y.1)) (by kernel_rfl) (by exact ⟨h1, n1, n2, m0, m2, b0⟩) (fun hHeld => ?_)
      refine wpAnyH_takeD (i := 0) (oi := { dst := some 14, op := Op.fieldAddr 107 (Operand.tmp 5) 0, type := 0, pos := "chain.go:63", after := #[], guard := none }) (d := 14) (v := ?_) rfl rfl (by kernel_rfl) (by kernel_rfl) (by kernel_rfl) (fun _ _ _ h => h) (Or.inl ⟨by rfl, ?_⟩) hHeld ?_
      rotate_left
      · (intro w' hSw; (try dsimp only at hSw); go_simp; (try with_reducible rfl))
      simp only [List.setIfInBounds_toArray, List.set_cons_zero, List.set_cons_succ]
      refine wpAnyH_takeD (i := 1) (oi := { dst := some 15, op := Op.load 3 (Operand.tmp 14), type := 3, pos := "chain.go:63", after := #[{ on := 0, ground := Ground.data }], guard := none }) (d := 15) (v := ?_) rfl rfl (by kernel_rfl) (by kernel_rfl) (by kernel_rfl) (fun _ _ _ h => h) (Or.inl ⟨by rfl, ?_⟩) hHeld ?_
      rotate_left
      · (intro w' hSw; (try dsimp only at hSw); go_simp; (try with_reducible rfl))
      simp only [List.setIfInBounds_toArray, List.set_cons_zero, List.set_cons_succ]
      refine wpAnyH_takeD (i := 2) (oi := { dst := some 16, op := Op.fieldAddr 105 (Operand.tmp 3) 1, type := 0, pos := "chain.go:63", after := #[], guard := none }) (d := 16) (v := ?_) rfl rfl (by kernel_rfl) (by kernel_rfl) (by kernel_rfl) (fun _ _ _ h => h) (Or.inl ⟨by rfl, ?_⟩) hHeld ?_
      rotate_left
      · (intro w' hSw; (try dsimp only at hSw); go_simp; (try with_reducible rfl))
      simp only [List.setIfInBounds_toArray, List.set_cons_zero, List.set_cons_succ]
      refine wpAnyH_takeD (i := 3) (oi := { dst := some 17, op := Op.fieldAddr 71 (Operand.tmp 16) 0, type := 0, pos := "chain.go:63", after := #[{ on := 2, ground := Ground.data }], guard := none }) (d := 17) (v := ?_) rfl rfl (by kernel_rfl) (by kernel_rfl) (by kernel_rfl) (fun _ _ _ h => h) (Or.inl ⟨by rfl, ?_⟩) hHeld ?_
      rotate_left
      · (intro w' hSw; (try dsimp only at hSw); go_simp; (try with_reducible rfl))
      simp only [List.setIfInBounds_toArray, List.set_cons_zero, List.set_cons_succ]
      refine wpAnyH_takeD (i := 4) (oi := { dst := some 18, op := Op.load 3 (Operand.tmp 17), type := 3, pos := "chain.go:63", after := #[{ on := 3, ground := Ground.data }], guard := none }) (d := 18) (v := ?_) rfl rfl (by kernel_rfl) (by kernel_rfl) (by kernel_rfl) (fun _ _ _ h => h) (Or.inl ⟨by rfl, ?_⟩) hHeld ?_
      rotate_left
      · (intro w' hSw; (try dsimp only at hSw); go_simp; (try with_reducible rfl))
      simp only [List.setIfInBounds_toArray, List.set_cons_zero, List.set_cons_succ]
      refine wpAnyH_takeD (i := 5) (oi := { dst := some 19, op := Op.binOp BinOp.neq 3 (Operand.tmp 15) (Operand.tmp 18) 3, type := 4, pos := "chain.go:63", after := #[{ on := 1, ground := Ground.data }, { on := 4, ground := Ground.data }], guard := none }) (d := 19) (v := ?_) rfl rfl (by kernel_rfl) (by kernel_rfl) (by kernel_rfl) (fun _ _ _ h => h) (Or.inl ⟨by rfl, ?_⟩) hHeld ?_
      rotate_left
      · (intro w' hSw; (try dsimp only at hSw); go_simp; (try with_reducible rfl))
      simp only [List.setIfInBounds_toArray, List.set_cons_zero, List.set_cons_succ]
      refine wpAnyH_takeD (i := 6) (oi := { dst := some 20, op := Op.move (Operand.tmp 19), type := 4, pos := "chain.go:63", after := #[{ on := 5, ground := Ground.data }], guard := none }) (d := 20) (v := ?_) rfl rfl (by kernel_rfl) (by kernel_rfl) (by kernel_rfl) (fun _ _ _ h => h) (Or.inl ⟨by rfl, ?_⟩) hHeld ?_
      rotate_left
      · (intro w' hSw; (try dsimp only at hSw); go_simp; (try with_reducible rfl))
      simp only [List.setIfInBounds_toArray, List.set_cons_zero, List.set_cons_succ]
      refine wpAnyH_takeD (i := 7) (oi := { dst := some 21, op := Op.fieldAddr 107 (Operand.tmp 5) 2, type := 0, pos := "chain.go:63", after := #[{ on := 6, ground := Ground.guard }], guard := some (6, false) }) (d := 21) (v := ?_) rfl rfl (by kernel_rfl) (by kernel_rfl) (by kernel_rfl) (fun _ _ _ h => h) (Or.inl ⟨by rfl, ?_⟩) hHeld ?_
      rotate_left
      · (intro w' hSw; (try dsimp only at hSw); go_simp; (try with_reducible rfl))
      simp only [List.setIfInBounds_toArray, List.set_cons_zero, List.set_cons_succ]
      refine wpAnyH_takeD (i := 8) (oi := { dst := some 22, op := Op.load 3 (Operand.tmp 21), type := 3, pos := "chain.go:63", after := #[{ on := 7, ground := Ground.data }, { on := 6, ground := Ground.guard }], guard := some (6, false) }) (d := 22) (v := ?_) rfl rfl (by kernel_rfl) (by kernel_rfl) (by kernel_rfl) (fun _ _ _ h => h) (Or.inl ⟨by rfl, ?_⟩) hHeld ?_
      rotate_left
      · (intro w' hSw; (try dsimp only at hSw); go_simp; (try with_reducible rfl))
      simp only [List.setIfInBounds_toArray, List.set_cons_zero, List.set_cons_succ]
      refine wpAnyH_takeD (i := 9) (oi := { dst := some 23, op := Op.binOp BinOp.eql 3 (Operand.tmp 22) (Operand.const (Value.int IntKind.i64 (-1))) 3, type := 4, pos := "chain.go:63", after := #[{ on := 8, ground := Ground.data }, { on := 6, ground := Ground.guard }], guard := some (6, false) }) (d := 23) (v := ?_) rfl rfl (by kernel_rfl) (by kernel_rfl) (by kernel_rfl) (fun _ _ _ h => h) (Or.inl ⟨by rfl, ?_⟩) hHeld ?_
      rotate_left
      · (intro w' hSw; (try dsimp only at hSw); go_simp; (try with_reducible rfl))
      simp only [List.setIfInBounds_toArray, List.set_cons_zero, List.set_cons_succ]
      refine wpAnyH_takeD (i := 10) (oi := { dst := some 24, op := Op.pick (Operand.tmp 20) (Operand.const (Value.bool true)) (Operand.tmp 23), type := 4, pos := "chain.go:63", after := #[{ on := 6, ground := Ground.data }, { on := 9, ground := Ground.data }], guard := none }) (d := 24) (v := ?_) rfl rfl (by kernel_rfl) (by kernel_rfl) (by kernel_rfl) (fun _ _ _ h => h) (Or.inl ⟨by rfl, ?_⟩) hHeld ?_
      rotate_left
      · (intro w' hSw; (try dsimp only at hSw); go_simp; (try with_reducible rfl))
      simp only [List.setIfInBounds_toArray, List.set_cons_zero, List.set_cons_succ]
      refine wpAnyH_takeD (i := 11) (oi := { dst := some 25, op := Op.move (Operand.tmp 24), type := 4, pos := "chain.go:63", after := #[{ on := 10, ground := Ground.data }, { on := 6, ground := Ground.chain }], guard := none }) (d := 25) (v := ?_) rfl rfl (by kernel_rfl) (by kernel_rfl) (by kernel_rfl) (fun _ _ _ h => h) (Or.inl ⟨by rfl, ?_⟩) hHeld ?_
      rotate_left
      · (intro w' hSw; (try dsimp only at hSw); go_simp; (try with_reducible rfl))
      simp only [List.setIfInBounds_toArray, List.set_cons_zero, List.set_cons_succ]
      refine wpAnyH_takeD (i := 12) (oi := { dst := some 26, op := Op.move (Operand.tmp 0), type := 72, pos := "chain.go:63", after := #[{ on := 11, ground := Ground.guard }], guard := some (11, false) }) (d := 26) (v := ?_) rfl rfl (by kernel_rfl) (by kernel_rfl) (by kernel_rfl) (fun _ _ _ h => h) (Or.inl ⟨by rfl, ?_⟩) hHeld ?_
      rotate_left
      · (intro w' hSw; (try dsimp only at hSw); go_simp; (try with_reducible rfl))
      simp only [List.setIfInBounds_toArray, List.set_cons_zero, List.set_cons_succ]
      refine wpAnyH_takeD (i := 13) (oi := { dst := some 27, op := Op.nilCheck (Operand.tmp 26), type := 0, pos := "chain.go:63", after := #[{ on := 12, ground := Ground.data }, { on := 11, ground := Ground.guard }], guard := some (11, false) }) (d := 27) (v := ?_) rfl rfl (by kernel_rfl) (by kernel_rfl) (by kernel_rfl) (fun _ _ _ h => h) (Or.inl ⟨by rfl, ?_⟩) hHeld ?_
      rotate_left
      · (intro w' hSw; (try dsimp only at hSw); go_simp; (try with_reducible rfl))
      simp only [List.setIfInBounds_toArray, List.set_cons_zero, List.set_cons_succ]
      refine wpAnyH_takeD (i := 14) (oi := { dst := some 28, op := Op.fieldAddr 78 (Operand.tmp 27) 1, type := 0, pos := "chain.go:63", after := #[{ on := 13, ground := Ground.data }, { on := 11, ground := Ground.guard }], guard := some (11, false) }) (d := 28) (v := ?_) rfl rfl (by kernel_rfl) (by kernel_rfl) (by kernel_rfl) (fun _ _ _ h => h) (Or.inl ⟨by rfl, ?_⟩) hHeld ?_
      rotate_left
      · (intro w' hSw; (try dsimp only at hSw); go_simp; (try with_reducible rfl))
      simp only [List.setIfInBounds_toArray, List.set_cons_zero, List.set_cons_succ]
      refine wpAnyH_takeD (i := 15) (oi := { dst := some 29, op := Op.load 75 (Operand.tmp 28), type := 75, pos := "chain.go:63", after := #[{ on := 14, ground := Ground.data }, { on := 11, ground := Ground.guard }], guard := some (11, false) }) (d := 29) (v := ?_) rfl rfl (by kernel_rfl) (by kernel_rfl) (by kernel_rfl) (fun _ _ _ h => h) (Or.inl ⟨by rfl, ?_⟩) hHeld ?_
      rotate_left
      · (intro w' hSw; (try dsimp only at hSw); go_simp; (try with_reducible rfl))
      simp only [List.setIfInBounds_toArray, List.set_cons_zero, List.set_cons_succ]
      refine wpAnyH_takeD (i := 16) (oi := { dst := some 30, op := Op.fieldAddr 107 (Operand.tmp 5) 2, type := 0, pos := "chain.go:63", after := #[{ on := 11, ground := Ground.guard }], guard := some (11, false) }) (d := 30) (v := ?_) rfl rfl (by kernel_rfl) (by kernel_rfl) (by kernel_rfl) (fun _ _ _ h => h) (Or.inl ⟨by rfl, ?_⟩) hHeld ?_
      rotate_left
      · (intro w' hSw; (try dsimp only at hSw); go_simp; (try with_reducible rfl))
      simp only [List.setIfInBounds_toArray, List.set_cons_zero, List.set_cons_succ]
      refine wpAnyH_takeD (i := 17) (oi := { dst := some 31, op := Op.load 3 (Operand.tmp 30), type := 3, pos := "chain.go:63", after := #[{ on := 16, ground := Ground.data }, { on := 11, ground := Ground.guard }], guard := some (11, false) }) (d := 31) (v := ?_) rfl rfl (by kernel_rfl) (by kernel_rfl) (by kernel_rfl) (fun _ _ _ h => h) (Or.inl ⟨by rfl, ?_⟩) hHeld ?_
      rotate_left
      · (intro w' hSw; (try dsimp only at hSw); go_simp; (try with_reducible rfl))
      simp only [List.setIfInBounds_toArray, List.set_cons_zero, List.set_cons_succ]
      refine wpAnyH_takeD (i := 18) (oi := { dst := some 32, op := Op.indexAddr 75 (Operand.tmp 29) (Operand.tmp 31), type := 0, pos := "chain.go:63", after := #[{ on := 15, ground := Ground.data }, { on := 17, ground := Ground.data }, { on := 11, ground := Ground.guard }], guard := some (11, false) }) (d := 32) (v := ?_) rfl rfl (by kernel_rfl) (by kernel_rfl) (by kernel_rfl) (fun _ _ _ h => h) (Or.inl ⟨by rfl, ?_⟩) hHeld ?_
      rotate_left
      · (intro w' hSw; (try dsimp only at hSw); go_simp; (try with_reducible rfl))
      simp only [List.setIfInBounds_toArray, List.set_cons_zero, List.set_cons_succ]
      refine wpAnyH_takeD (i := 19) (oi := { dst := some 33, op := Op.fieldAddr 107 (Operand.tmp 32) 0, type := 0, pos := "chain.go:63", after := #[{ on := 18, ground := Ground.data }, { on := 11, ground := Ground.guard }], guard := some (11, false) }) (d := 33) (v := ?_) rfl rfl (by kernel_rfl) (by kernel_rfl) (by kernel_rfl) (fun _ _ _ h => h) (Or.inl ⟨by rfl, ?_⟩) hHeld ?_
      rotate_left
      · (intro w' hSw; (try dsimp only at hSw); go_simp; (try with_reducible rfl))
      simp only [List.setIfInBounds_toArray, List.set_cons_zero, List.set_cons_succ]
      refine wpAnyH_takeD (i := 20) (oi := { dst := some 34, op := Op.load 3 (Operand.tmp 33), type := 3, pos := "chain.go:63", after := #[{ on := 19, ground := Ground.data }, { on := 11, ground := Ground.guard }], guard := some (11, false) }) (d := 34) (v := ?_) rfl rfl (by kernel_rfl) (by kernel_rfl) (by kernel_rfl) (fun _ _ _ h => h) (Or.inl ⟨by rfl, ?_⟩) hHeld ?_
      rotate_left
      · (intro w' hSw; (try dsimp only at hSw); go_simp; (try with_reducible rfl))
      simp only [List.setIfInBounds_toArray, List.set_cons_zero, List.set_cons_succ]
      refine wpAnyH_takeD (i := 21) (oi := { dst := some 35, op := Op.fieldAddr 105 (Operand.tmp 3) 1, type := 0, pos := "chain.go:63", after := #[{ on := 11, ground := Ground.guard }], guard := some (11, false) }) (d := 35) (v := ?_) rfl rfl (by kernel_rfl) (by kernel_rfl) (by kernel_rfl) (fun _ _ _ h => h) (Or.inl ⟨by rfl, ?_⟩) hHeld ?_
      rotate_left
      · (intro w' hSw; (try dsimp only at hSw); go_simp; (try with_reducible rfl))
      simp only [List.setIfInBounds_toArray, List.set_cons_zero, List.set_cons_succ]
      refine wpAnyH_takeD (i := 22) (oi := { dst := some 36, op := Op.fieldAddr 71 (Operand.tmp 35) 1, type := 0, pos := "chain.go:63", after := #[{ on := 21, ground := Ground.data }, { on := 11, ground := Ground.guard }], guard := some (11, false) }) (d := 36) (v := ?_) rfl rfl (by kernel_rfl) (by kernel_rfl) (by kernel_rfl) (fun _ _ _ h => h) (Or.inl ⟨by rfl, ?_⟩) hHeld ?_
      rotate_left
      · (intro w' hSw; (try dsimp only at hSw); go_simp; (try with_reducible rfl))
      simp only [List.setIfInBounds_toArray, List.set_cons_zero, List.set_cons_succ]
      refine wpAnyH_takeD (i := 23) (oi := { dst := some 37, op := Op.load 3 (Operand.tmp 36), type := 3, pos := "chain.go:63", after := #[{ on := 22, ground := Ground.data }, { on := 11, ground := Ground.guard }], guard := some (11, false) }) (d := 37) (v := ?_) rfl rfl (by kernel_rfl) (by kernel_rfl) (by kernel_rfl) (fun _ _ _ h => h) (Or.inl ⟨by rfl, ?_⟩) hHeld ?_
      rotate_left
      · (intro w' hSw; (try dsimp only at hSw); go_simp; (try with_reducible rfl))
      simp only [List.setIfInBounds_toArray, List.set_cons_zero, List.set_cons_succ]
      refine wpAnyH_takeD (i := 24) (oi := { dst := some 38, op := Op.binOp BinOp.neq 3 (Operand.tmp 34) (Operand.tmp 37) 3, type := 4, pos := "chain.go:63", after := #[{ on := 20, ground := Ground.data }, { on := 23, ground := Ground.data }, { on := 11, ground := Ground.guard }], guard := some (11, false) }) (d := 38) (v := ?_) rfl rfl (by kernel_rfl) (by kernel_rfl) (by kernel_rfl) (fun _ _ _ h => h) (Or.inl ⟨by rfl, ?_⟩) hHeld ?_
      rotate_left
      · (intro w' hSw; (try dsimp only at hSw); go_simp; (try with_reducible rfl))
      simp only [List.setIfInBounds_toArray, List.set_cons_zero, List.set_cons_succ]
      refine wpAnyH_takeD (i := 25) (oi := { dst := some 39, op := Op.pick (Operand.tmp 25) (Operand.const (Value.bool true)) (Operand.tmp 38), type := 4, pos := "chain.go:63", after := #[{ on := 11, ground := Ground.data }, { on := 24, ground := Ground.data }], guard := none }) (d := 39) (v := ?_) rfl rfl (by kernel_rfl) (by kernel_rfl) (by kernel_rfl) (fun _ _ _ h => h) (Or.inl ⟨by rfl, ?_⟩) hHeld ?_
      rotate_left
      · (intro w' hSw; (try dsimp only at hSw); go_simp; (try with_reducible rfl))
      simp only [List.setIfInBounds_toArray, List.set_cons_zero, List.set_cons_succ]
      refine wpAnyH_takeD (i := 26) (oi := { dst := some 4, op := Op.assign (Operand.tmp 39), type := 4, pos := "chain.go:63", after := #[{ on := 25, ground := Ground.data }, { on := 11, ground := Ground.chain }, { on := 0, ground := Ground.phase }, { on := 1, ground := Ground.phase }, { on := 2, ground := Ground.phase }, { on := 3, ground := Ground.phase }, { on := 4, ground := Ground.phase }, { on := 5, ground := Ground.phase }, { on := 6, ground := Ground.phase }, { on := 7, ground := Ground.phase }, { on := 8, ground := Ground.phase }, { on := 9, ground := Ground.phase }, { on := 10, ground := Ground.phase }, { on := 11, ground := Ground.phase }, { on := 12, ground := Ground.phase }, { on := 13, ground := Ground.phase }, { on := 14, ground := Ground.phase }, { on := 15, ground := Ground.phase }, { on := 16, ground := Ground.phase }, { on := 17, ground := Ground.phase }, { on := 18, ground := Ground.phase }, { on := 19, ground := Ground.phase }, { on := 20, ground := Ground.phase }, { on := 21, ground := Ground.phase }, { on := 22, ground := Ground.phase }, { on := 23, ground := Ground.phase }, { on := 24, ground := Ground.phase }, { on := 25, ground := Ground.phase }], guard := none }) (d := 4) (v := ?_) rfl rfl (by kernel_rfl) (by kernel_rfl) (by kernel_rfl) (fun _ _ _ h => h) (Or.inl ⟨by rfl, ?_⟩) hHeld ?_
      rotate_left
      · (intro w' hSw; (try dsimp only at hSw); go_simp; (try with_reducible rfl))
      simp only [List.setIfInBounds_toArray, List.set_cons_zero, List.set_cons_succ]
      refine wpAnyH_done (by kernel_rfl) ?_ _
      go_wp2_with fail
      go_ret
      exact ⟨ret_bool HT.out.symm, HB0.out.drew⟩
  · have q1 : (x1 != a) = true := by simpa using e1
    have HT : Hid (B = true) := Lib.hid (by rw [← HBB.out]; simp [staleB, e1])
    clear e1
    refine wp_region_held_drew (S := fun V => V.cell? ⟨cb, 1, none⟩ = some (.slice (some ⟨g, 0, none⟩) N.length c) ∧ V.cell? ⟨w.heap.size, 1, none⟩ = some (.int .i64 a) ∧ V.cell? ⟨g5, 0, none⟩ = some (.int .i64 x1)) (by kernel_rfl) (by exact ⟨h1, n1, m0⟩) (fun hHeld => ?_)
    refine wpAnyH_takeD (i := 0) (oi := { dst := some 14, op := Op.fieldAddr 107 (Operand.tmp 5) 0, type := 0, pos := "chain.go:63", after := #[], guard := none }) (d := 14) (v := ?_) rfl rfl (by kernel_rfl) (by kernel_rfl) (by kernel_rfl) (fun _ _ _ h => h) (Or.inl ⟨by rfl, ?_⟩) hHeld ?_
    rotate_left
    · (intro w' hSw; (try dsimp only at hSw); go_simp; (try with_reducible rfl))
    simp only [List.setIfInBounds_toArray, List.set_cons_zero, List.set_cons_succ]
    refine wpAnyH_takeD (i := 1) (oi := { dst := some 15, op := Op.load 3 (Operand.tmp 14), type := 3, pos := "chain.go:63", after := #[{ on := 0, ground := Ground.data }], guard := none }) (d := 15) (v := ?_) rfl rfl (by kernel_rfl) (by kernel_rfl) (by kernel_rfl) (fun _ _ _ h => h) (Or.inl ⟨by rfl, ?_⟩) hHeld ?_
    rotate_left
    · (intro w' hSw; (try dsimp only at hSw); go_simp; (try with_reducible rfl))
    simp only [List.setIfInBounds_toArray, List.set_cons_zero, List.set_cons_succ]
    refine wpAnyH_takeD (i := 2) (oi := { dst := some 16, op := Op.fieldAddr 105 (Operand.tmp 3) 1, type := 0, pos := "chain.go:63", after := #[], guard := none }) (d := 16) (v := ?_) rfl rfl (by kernel_rfl) (by kernel_rfl) (by kernel_rfl) (fun _ _ _ h => h) (Or.inl ⟨by rfl, ?_⟩) hHeld ?_
    rotate_left
    · (intro w' hSw; (try dsimp only at hSw); go_simp; (try with_reducible rfl))
    simp only [List.setIfInBounds_toArray, List.set_cons_zero, List.set_cons_succ]
    refine wpAnyH_takeD (i := 3) (oi := { dst := some 17, op := Op.fieldAddr 71 (Operand.tmp 16) 0, type := 0, pos := "chain.go:63", after := #[{ on := 2, ground := Ground.data }], guard := none }) (d := 17) (v := ?_) rfl rfl (by kernel_rfl) (by kernel_rfl) (by kernel_rfl) (fun _ _ _ h => h) (Or.inl ⟨by rfl, ?_⟩) hHeld ?_
    rotate_left
    · (intro w' hSw; (try dsimp only at hSw); go_simp; (try with_reducible rfl))
    simp only [List.setIfInBounds_toArray, List.set_cons_zero, List.set_cons_succ]
    refine wpAnyH_takeD (i := 4) (oi := { dst := some 18, op := Op.load 3 (Operand.tmp 17), type := 3, pos := "chain.go:63", after := #[{ on := 3, ground := Ground.data }], guard := none }) (d := 18) (v := ?_) rfl rfl (by kernel_rfl) (by kernel_rfl) (by kernel_rfl) (fun _ _ _ h => h) (Or.inl ⟨by rfl, ?_⟩) hHeld ?_
    rotate_left
    · (intro w' hSw; (try dsimp only at hSw); go_simp; (try with_reducible rfl))
    simp only [List.setIfInBounds_toArray, List.set_cons_zero, List.set_cons_succ]
    refine wpAnyH_takeD (i := 5) (oi := { dst := some 19, op := Op.binOp BinOp.neq 3 (Operand.tmp 15) (Operand.tmp 18) 3, type := 4, pos := "chain.go:63", after := #[{ on := 1, ground := Ground.data }, { on := 4, ground := Ground.data }], guard := none }) (d := 19) (v := ?_) rfl rfl (by kernel_rfl) (by kernel_rfl) (by kernel_rfl) (fun _ _ _ h => h) (Or.inl ⟨by rfl, ?_⟩) hHeld ?_
    rotate_left
    · (intro w' hSw; (try dsimp only at hSw); go_simp; (try with_reducible rfl))
    simp only [List.setIfInBounds_toArray, List.set_cons_zero, List.set_cons_succ]
    refine wpAnyH_takeD (i := 6) (oi := { dst := some 20, op := Op.move (Operand.tmp 19), type := 4, pos := "chain.go:63", after := #[{ on := 5, ground := Ground.data }], guard := none }) (d := 20) (v := ?_) rfl rfl (by kernel_rfl) (by kernel_rfl) (by kernel_rfl) (fun _ _ _ h => h) (Or.inl ⟨by rfl, ?_⟩) hHeld ?_
    rotate_left
    · (intro w' hSw; (try dsimp only at hSw); go_simp; (try with_reducible rfl))
    simp only [List.setIfInBounds_toArray, List.set_cons_zero, List.set_cons_succ]
    refine wpAnyH_takeD (i := 7) (oi := { dst := some 21, op := Op.fieldAddr 107 (Operand.tmp 5) 2, type := 0, pos := "chain.go:63", after := #[{ on := 6, ground := Ground.guard }], guard := some (6, false) }) (d := 21) (v := undef) rfl rfl (by kernel_rfl) (by kernel_rfl) (by kernel_rfl) (fun _ _ _ h => h) (Or.inr ⟨by rfl, rfl⟩) hHeld ?_
    simp only [List.setIfInBounds_toArray, List.set_cons_zero, List.set_cons_succ]
    refine wpAnyH_takeD (i := 8) (oi := { dst := some 22, op := Op.load 3 (Operand.tmp 21), type := 3, pos := "chain.go:63", after := #[{ on := 7, ground := Ground.data }, { on := 6, ground := Ground.guard }], guard := some (6, false) }) (d := 22) (v := undef) rfl rfl (by kernel_rfl) (by kernel_rfl) (by kernel_rfl) (fun _ _ _ h => h) (Or.inr ⟨by rfl, rfl⟩) hHeld ?_
    simp only [List.setIfInBounds_toArray, List.set_cons_zero, List.set_cons_succ]
    refine wpAnyH_takeD (i := 9) (oi := { dst := some 23, op := Op.binOp BinOp.eql 3 (Operand.tmp 22) (Operand.const (Value.int IntKind.i64 (-1))) 3, type := 4, pos := "chain.go:63", after := #[{ on := 8, ground := Ground.data }, { on := 6, ground := Ground.guard }], guard := some (6, false) }) (d := 23) (v := undef) rfl rfl (by kernel_rfl) (by kernel_rfl) (by kernel_rfl) (fun _ _ _ h => h) (Or.inr ⟨by rfl, rfl⟩) hHeld ?_
    simp only [List.setIfInBounds_toArray, List.set_cons_zero, List.set_cons_succ]
    refine wpAnyH_takeD (i := 10) (oi := { dst := some 24, op := Op.pick (Operand.tmp 20) (Operand.const (Value.bool true)) (Operand.tmp 23), type := 4, pos := "chain.go:63", after := #[{ on := 6, ground := Ground.data }, { on := 9, ground := Ground.data }], guard := none }) (d := 24) (v := ?_) rfl rfl (by kernel_rfl) (by kernel_rfl) (by kernel_rfl) (fun _ _ _ h => h) (Or.inl ⟨by rfl, ?_⟩) hHeld ?_
    rotate_left
    · (intro w' hSw; (try dsimp only at hSw); go_simp; (try with_reducible rfl))
    simp only [List.setIfInBounds_toArray, List.set_cons_zero, List.set_cons_succ]
    refine wpAnyH_takeD (i := 11) (oi := { dst := some 25, op := Op.move (Operand.tmp 24), type := 4, pos := "chain.go:63", after := #[{ on := 10, ground := Ground.data }, { on := 6, ground := Ground.chain }], guard := none }) (d := 25) (v := ?_) rfl rfl (by kernel_rfl) (by kernel_rfl) (by kernel_rfl) (fun _ _ _ h => h) (Or.inl ⟨by rfl, ?_⟩) hHeld ?_
    rotate_left
    · (intro w' hSw; (try dsimp only at hSw); go_simp; (try with_reducible rfl))
    simp only [List.setIfInBounds_toArray, List.set_cons_zero, List.set_cons_succ]
    refine wpAnyH_takeD (i := 12) (oi := { dst := some 26, op := Op.move (Operand.tmp 0), type := 72, pos := "chain.go:63", after := #[{ on := 11, ground := Ground.guard }], guard := some (11, false) }) (d := 26) (v := undef) rfl rfl (by kernel_rfl) (by kernel_rfl) (by kernel_rfl) (fun _ _ _ h => h) (Or.inr ⟨by rfl, rfl⟩) hHeld ?_
    simp only [List.setIfInBounds_toArray, List.set_cons_zero, List.set_cons_succ]
    refine wpAnyH_takeD (i := 13) (oi := { dst := some 27, op := Op.nilCheck (Operand.tmp 26), type := 0, pos := "chain.go:63", after := #[{ on := 12, ground := Ground.data }, { on := 11, ground := Ground.guard }], guard := some (11, false) }) (d := 27) (v := undef) rfl rfl (by kernel_rfl) (by kernel_rfl) (by kernel_rfl) (fun _ _ _ h => h) (Or.inr ⟨by rfl, rfl⟩) hHeld ?_
    simp only [List.setIfInBounds_toArray, List.set_cons_zero, List.set_cons_succ]
    refine wpAnyH_takeD (i := 14) (oi := { dst := some 28, op := Op.fieldAddr 78 (Operand.tmp 27) 1, type := 0, pos := "chain.go:63", after := #[{ on := 13, ground := Ground.data }, { on := 11, ground := Ground.guard }], guard := some (11, false) }) (d := 28) (v := undef) rfl rfl (by kernel_rfl) (by kernel_rfl) (by kernel_rfl) (fun _ _ _ h => h) (Or.inr ⟨by rfl, rfl⟩) hHeld ?_
    simp only [List.setIfInBounds_toArray, List.set_cons_zero, List.set_cons_succ]
    refine wpAnyH_takeD (i := 15) (oi := { dst := some 29, op := Op.load 75 (Operand.tmp 28), type := 75, pos := "chain.go:63", after := #[{ on := 14, ground := Ground.data }, { on := 11, ground := Ground.guard }], guard := some (11, false) }) (d := 29) (v := undef) rfl rfl (by kernel_rfl) (by kernel_rfl) (by kernel_rfl) (fun _ _ _ h => h) (Or.inr ⟨by rfl, rfl⟩) hHeld ?_
    simp only [List.setIfInBounds_toArray, List.set_cons_zero, List.set_cons_succ]
    refine wpAnyH_takeD (i := 16) (oi := { dst := some 30, op := Op.fieldAddr 107 (Operand.tmp 5) 2, type := 0, pos := "chain.go:63", after := #[{ on := 11, ground := Ground.guard }], guard := some (11, false) }) (d := 30) (v := undef) rfl rfl (by kernel_rfl) (by kernel_rfl) (by kernel_rfl) (fun _ _ _ h => h) (Or.inr ⟨by rfl, rfl⟩) hHeld ?_
    simp only [List.setIfInBounds_toArray, List.set_cons_zero, List.set_cons_succ]
    refine wpAnyH_takeD (i := 17) (oi := { dst := some 31, op := Op.load 3 (Operand.tmp 30), type := 3, pos := "chain.go:63", after := #[{ on := 16, ground := Ground.data }, { on := 11, ground := Ground.guard }], guard := some (11, false) }) (d := 31) (v := undef) rfl rfl (by kernel_rfl) (by kernel_rfl) (by kernel_rfl) (fun _ _ _ h => h) (Or.inr ⟨by rfl, rfl⟩) hHeld ?_
    simp only [List.setIfInBounds_toArray, List.set_cons_zero, List.set_cons_succ]
    refine wpAnyH_takeD (i := 18) (oi := { dst := some 32, op := Op.indexAddr 75 (Operand.tmp 29) (Operand.tmp 31), type := 0, pos := "chain.go:63", after := #[{ on := 15, ground := Ground.data }, { on := 17, ground := Ground.data }, { on := 11, ground := Ground.guard }], guard := some (11, false) }) (d := 32) (v := undef) rfl rfl (by kernel_rfl) (by kernel_rfl) (by kernel_rfl) (fun _ _ _ h => h) (Or.inr ⟨by rfl, rfl⟩) hHeld ?_
    simp only [List.setIfInBounds_toArray, List.set_cons_zero, List.set_cons_succ]
    refine wpAnyH_takeD (i := 19) (oi := { dst := some 33, op := Op.fieldAddr 107 (Operand.tmp 32) 0, type := 0, pos := "chain.go:63", after := #[{ on := 18, ground := Ground.data }, { on := 11, ground := Ground.guard }], guard := some (11, false) }) (d := 33) (v := undef) rfl rfl (by kernel_rfl) (by kernel_rfl) (by kernel_rfl) (fun _ _ _ h => h) (Or.inr ⟨by rfl, rfl⟩) hHeld ?_
    simp only [List.setIfInBounds_toArray, List.set_cons_zero, List.set_cons_succ]
    refine wpAnyH_takeD (i := 20) (oi := { dst := some 34, op := Op.load 3 (Operand.tmp 33), type := 3, pos := "chain.go:63", after := #[{ on := 19, ground := Ground.data }, { on := 11, ground := Ground.guard }], guard := some (11, false) }) (d := 34) (v := undef) rfl rfl (by kernel_rfl) (by kernel_rfl) (by kernel_rfl) (fun _ _ _ h => h) (Or.inr ⟨by rfl, rfl⟩) hHeld ?_
    simp only [List.setIfInBounds_toArray, List.set_cons_zero, List.set_cons_succ]
    refine wpAnyH_takeD (i := 21) (oi := { dst := some 35, op := Op.fieldAddr 105 (Operand.tmp 3) 1, type := 0, pos := "chain.go:63", after := #[{ on := 11, ground := Ground.guard }], guard := some (11, false) }) (d := 35) (v := undef) rfl rfl (by kernel_rfl) (by kernel_rfl) (by kernel_rfl) (fun _ _ _ h => h) (Or.inr ⟨by rfl, rfl⟩) hHeld ?_
    simp only [List.setIfInBounds_toArray, List.set_cons_zero, List.set_cons_succ]
    refine wpAnyH_takeD (i := 22) (oi := { dst := some 36, op := Op.fieldAddr 71 (Operand.tmp 35) 1, type := 0, pos := "chain.go:63", after := #[{ on := 21, ground := Ground.data }, { on := 11, ground := Ground.guard }], guard := some (11, false) }) (d := 36) (v := undef) rfl rfl (by kernel_rfl) (by kernel_rfl) (by kernel_rfl) (fun _ _ _ h => h) (Or.inr ⟨by rfl, rfl⟩) hHeld ?_
    simp only [List.setIfInBounds_toArray, List.set_cons_zero, List.set_cons_succ]
    refine wpAnyH_takeD (i := 23) (oi := { dst := some 37, op := Op.load 3 (Operand.tmp 36), type := 3, pos := "chain.go:63", after := #[{ on := 22, ground := Ground.data }, { on := 11, ground := Ground.guard }], guard := some (11, false) }) (d := 37) (v := undef) rfl rfl (by kernel_rfl) (by kernel_rfl) (by kernel_rfl) (fun _ _ _ h => h) (Or.inr ⟨by rfl, rfl⟩) hHeld ?_
    simp only [List.setIfInBounds_toArray, List.set_cons_zero, List.set_cons_succ]
    refine wpAnyH_takeD (i := 24) (oi := { dst := some 38, op := Op.binOp BinOp.neq 3 (Operand.tmp 34) (Operand.tmp 37) 3, type := 4, pos := "chain.go:63", after := #[{ on := 20, ground := Ground.data }, { on := 23, ground := Ground.data }, { on := 11, ground := Ground.guard }], guard := some (11, false) }) (d := 38) (v := undef) rfl rfl (by kernel_rfl) (by kernel_rfl) (by kernel_rfl) (fun _ _ _ h => h) (Or.inr ⟨by rfl, rfl⟩) hHeld ?_
    simp only [List.setIfInBounds_toArray, List.set_cons_zero, List.set_cons_succ]
    refine wpAnyH_takeD (i := 25) (oi := { dst := some 39, op := Op.pick (Operand.tmp 25) (Operand.const (Value.bool true)) (Operand.tmp 38), type := 4, pos := "chain.go:63", after := #[{ on := 11, ground := Ground.data }, { on := 24, ground := Ground.data }], guard := none }) (d := 39) (v := ?_) rfl rfl (by kernel_rfl) (by kernel_rfl) (by kernel_rfl) (fun _ _ _ h => h) (Or.inl ⟨by rfl, ?_⟩) hHeld ?_
    rotate_left
    · (intro w' hSw; (try dsimp only at hSw); go_simp; (try with_reducible rfl))
    simp only [List.setIfInBounds_toArray, List.set_cons_zero, List.set_cons_succ]
    refine wpAnyH_takeD (i := 26) (oi := { dst := some 4, op := Op.assign (Operand.tmp 39), type := 4, pos := "chain.go:63", after := #[{ on := 25, ground := Ground.data }, { on := 11, ground := Ground.chain }, { on := 0, ground := Ground.phase }, { on := 1, ground := Ground.phase }, { on := 2, ground := Ground.phase }, { on := 3, ground := Ground.phase }, { on := 4, ground := Ground.phase }, { on := 5, ground := Ground.phase }, { on := 6, ground := Ground.phase }, { on := 7, ground := Ground.phase }, { on := 8, ground := Ground.phase }, { on := 9, ground := Ground.phase }, { on := 10, ground := Ground.phase }, { on := 11, ground := Ground.phase }, { on := 12, ground := Ground.phase }, { on := 13, ground := Ground.phase }, { on := 14, ground := Ground.phase }, { on := 15, ground := Ground.phase }, { on := 16, ground := Ground.phase }, { on := 17, ground := Ground.phase }, { on := 18, ground := Ground.phase }, { on := 19, ground := Ground.phase }, { on := 20, ground := Ground.phase }, { on := 21, ground := Ground.phase }, { on := 22, ground := Ground.phase }, { on := 23, ground := Ground.phase }, { on := 24, ground := Ground.phase }, { on := 25, ground := Ground.phase }], guard := none }) (d := 4) (v := ?_) rfl rfl (by kernel_rfl) (by kernel_rfl) (by kernel_rfl) (fun _ _ _ h => h) (Or.inl ⟨by rfl, ?_⟩) hHeld ?_
    rotate_left
    · (intro w' hSw; (try dsimp only at hSw); go_simp; (try with_reducible rfl))
    simp only [List.setIfInBounds_toArray, List.set_cons_zero, List.set_cons_succ]
    refine wpAnyH_done (by kernel_rfl) ?_ _
    go_wp2_with fail
    go_ret
    exact ⟨ret_bool HT.out.symm, HB0.out.drew⟩
end
end Go.Proofs.Ytpkmcokkapfnmaa
