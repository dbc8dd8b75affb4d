/- Layer 5 (chain): asks. -/
import Derived.Test.YtpkmcokkapfnmaaChain4
namespace Go.Proofs.Ytpkmcokkapfnmaa
open Go.RowKit Go.Maps Go.WideMaps
set_option maxRecDepth 100000
set_option linter.unusedVariables false
set_option linter.unusedSimpArgs false

theorem askQ_none {P : Int → Int → Option Int} {Q : List (Th Wt)} {turn i a : Int} {y : Nd} {q : List Nd} (h : P a y.2 = none) : askQ P Q turn i a (y :: q) = (Q, turn) := by simp only [askQ, h]
theorem askQ_some {P : Int → Int → Option Int} {Q : List (Th Wt)} {turn i a r : Int} {y : Nd} {q : List Nd} (h : P a y.2 = some r) : askQ P Q turn i a (y :: q) = (pushT Q ⟨r, i, turn, ⟨i, a, y.2⟩⟩, turn + 1) := by simp only [askQ, h]

section
variable {w w' : World} {base tbase tb : Nat} {T : List Ent} {sv : Value} {mb mp cb qb : Nat} {N : List Node} {bel steps : Int} {A : Option Addr} {c : Nat} {Q : List (Th Wt)} {turn : Int} {Aq : Option Addr} {cq : Nat}
theorem asks_end (h : ChainIs w base tbase tb T sv mb mp cb qb N bel steps A c Q turn Aq cq) :
    Calls Try.prog 52 #[.pointer (some ⟨cb, 0, none⟩), .int .i64 (-1)] w fun e w' => e = .returned (.tuple #[]) ∧ w' = w := by
  clear h
  go_enter Try.func52, Try.ntmps52
  go_wp2_with fail
  (try simp only [Exit.inBlock, Exit.then])
  refine bodyPost_ret (results_none rfl _ _ _) rfl ?_
  exact ⟨rfl, rfl⟩
theorem asks_last (h : ChainIs w base tbase tb T sv mb mp cb qb N bel steps A c Q turn Aq cq) (i : Nat) (a p : Int) (hi : N[i]? = some (a, p, -1)) :
    Calls Try.prog 52 #[.pointer (some ⟨cb, 0, none⟩), .int .i64 (i : Int)] w fun e w' => e = .returned (.tuple #[]) ∧ w' = w := by
  have hlt := (List.getElem?_eq_some_iff.1 hi).1
  obtain ⟨g, rfl, a0, a1, a2⟩ := h.lk.at i _ hi
  have h1 := blk_cell h.lk.blk 1
  simp only [List.getElem?_toArray, List.getElem?_cons_zero, List.getElem?_cons_succ] at h1 a2
  have p0 : (0 : Int) ≤ (i : Int) := by omega
  have p1 : (i : Int) < (N.length : Int) := by omega
  have q1 : ((i : Int) == -1) = false := by simp
  clear hi h a0 a1
  go_enter Try.func52, Try.ntmps52
  go_wp2_with fail
  (try simp only [Exit.inBlock, Exit.then])
  refine bodyPost_ret (results_none rfl _ _ _) rfl ?_
  exact ⟨rfl, rfl⟩
set_option maxHeartbeats 4000000 in
theorem asks_two (h : ChainIs w base tbase tb T sv mb mp cb qb N bel steps A c Q turn Aq cq) (i j : Nat) (a p : Int) (b : Int) (y : Int × Int) (hi : N[i]? = some (a, p, (j : Int))) (hj : N[j]? = some (b, y))
    (ha : (Lit.int .i64 a).wf = true) (hb : (Lit.int .i64 b).wf = true) (hQ : Q.length < 1000000000) (ht0 : 0 ≤ turn) (ht1 : turn < 1000000000000000000) (R : List (Th Wt) × Int) (hR : askQ (pairB T bel) Q turn i a [((j : Int), b)] = R) :
    Calls Try.prog 52 #[.pointer (some ⟨cb, 0, none⟩), .int .i64 (i : Int)] w fun e w' => e = .returned (.tuple #[]) ∧ (∃ Aq' cq', ChainIs w' base tbase tb T sv mb mp cb qb N bel steps A c R.1 R.2 Aq' cq') ∧ Below base w w' := by
  have hlt := (List.getElem?_eq_some_iff.1 hi).1
  have hlt2 := (List.getElem?_eq_some_iff.1 hj).1
  obtain ⟨g, rfl, a0, a1, a2⟩ := h.lk.at i _ hi
  obtain ⟨g', e, b0, b1, b2⟩ := h.lk.at j _ hj
  injection e with e
  injection e with e
  subst e
  have h1 := blk_cell h.lk.blk 1
  simp only [List.getElem?_toArray, List.getElem?_cons_zero, List.getElem?_cons_succ] at h1 a0 a2 b0
  have p0 : (0 : Int) ≤ (i : Int) := by omega
  have p1 : (i : Int) < (N.length : Int) := by omega
  have p2 : (0 : Int) ≤ (j : Int) := by omega
  have p3 : (j : Int) < (N.length : Int) := by omega
  have q1 : ((i : Int) == -1) = false := by simp
  have q2 : ((j : Int) == -1) = false := by simp
  have HH := Lib.hid h
  have HR := Lib.hid hR
  clear hi hj h a1 b1 b2 hR
  go_enter Try.func52, Try.ntmps52
  go_upto_region 1 with fail
  refine wp_region_D (Ds := [25]) (S := fun V => V.cell? ⟨cb, 1, none⟩ = some (.slice (some ⟨g, 0, none⟩) N.length c) ∧ V.cell? ⟨g, i * 3, none⟩ = some (.int .i64 a) ∧ V.cell? ⟨g, i * 3 + 2, none⟩ = some (.int .i64 (j : Int)) ∧ V.cell? ⟨g, j * 3, none⟩ = some (.int .i64 b)) (by kernel_rfl) (by exact ⟨h1, a0, a2, b0⟩) (fun hHeld => ?_)
  (have HD := Lib.hid HH.out.drew); (have HB0 : Hid (Below w.heap.size w w.drew) := Lib.hid ⟨rfl, rfl, rfl, Nat.le_refl _, fun _ _ => rfl⟩); generalize w.drew = W0 at *
  refine wpAnyD_takeP (i := 0) (oi := { dst := some 20, op := Op.move (Operand.tmp 0), type := 72, pos := "chain.go:54", after := #[], guard := none }) (d := 20) (v := ?_) rfl rfl (by kernel_rfl) (by kernel_rfl) (by kernel_rfl) (fun _ _ _ h => h) (Or.inl ⟨by rfl, ?_⟩) ?_
  rotate_left
  · (intro w' _; go_simp; (try with_reducible rfl))
  simp only [List.setIfInBounds_toArray, List.set_cons_zero, List.set_cons_succ]
  refine wpAnyD_takeP (i := 1) (oi := { dst := some 21, op := Op.nilCheck (Operand.tmp 20), type := 0, pos := "chain.go:54", after := #[{ on := 0, ground := Ground.data }], guard := none }) (d := 21) (v := ?_) rfl rfl (by kernel_rfl) (by kernel_rfl) (by kernel_rfl) (fun _ _ _ h => h) (Or.inl ⟨by rfl, ?_⟩) ?_
  rotate_left
  · (intro w' _; go_simp; (try with_reducible rfl))
  simp only [List.setIfInBounds_toArray, List.set_cons_zero, List.set_cons_succ]
  refine wpAnyD_takeP (i := 2) (oi := { dst := some 22, op := Op.fieldAddr 78 (Operand.tmp 21) 1, type := 0, pos := "chain.go:54", after := #[{ on := 1, ground := Ground.data }], guard := none }) (d := 22) (v := ?_) rfl rfl (by kernel_rfl) (by kernel_rfl) (by kernel_rfl) (fun _ _ _ h => h) (Or.inl ⟨by rfl, ?_⟩) ?_
  rotate_left
  · (intro w' _; go_simp; (try with_reducible rfl))
  simp only [List.setIfInBounds_toArray, List.set_cons_zero, List.set_cons_succ]
  refine wpAnyD_takeP (i := 4) (oi := { dst := some 24, op := Op.move (Operand.tmp 1), type := 3, pos := "chain.go:54", after := #[], guard := none }) (d := 24) (v := ?_) rfl rfl (by kernel_rfl) (by kernel_rfl) (by kernel_rfl) (fun _ _ _ h => h) (Or.inl ⟨by rfl, ?_⟩) ?_
  rotate_left
  · (intro w' _; go_simp; (try with_reducible rfl))
  simp only [List.setIfInBounds_toArray, List.set_cons_zero, List.set_cons_succ]
  refine wpAnyD_takeP (i := 8) (oi := { dst := some 28, op := Op.move (Operand.tmp 0), type := 72, pos := "chain.go:54", after := #[], guard := none }) (d := 28) (v := ?_) rfl rfl (by kernel_rfl) (by kernel_rfl) (by kernel_rfl) (fun _ _ _ h => h) (Or.inl ⟨by rfl, ?_⟩) ?_
  rotate_left
  · (intro w' _; go_simp; (try with_reducible rfl))
  simp only [List.setIfInBounds_toArray, List.set_cons_zero, List.set_cons_succ]
  refine wpAnyD_takeP (i := 9) (oi := { dst := some 29, op := Op.nilCheck (Operand.tmp 28), type := 0, pos := "chain.go:54", after := #[{ on := 8, ground := Ground.data }], guard := none }) (d := 29) (v := ?_) rfl rfl (by kernel_rfl) (by kernel_rfl) (by kernel_rfl) (fun _ _ _ h => h) (Or.inl ⟨by rfl, ?_⟩) ?_
  rotate_left
  · (intro w' _; go_simp; (try with_reducible rfl))
  simp only [List.setIfInBounds_toArray, List.set_cons_zero, List.set_cons_succ]
  refine wpAnyD_takeP (i := 10) (oi := { dst := some 30, op := Op.fieldAddr 78 (Operand.tmp 29) 1, type := 0, pos := "chain.go:54", after := #[{ on := 9, ground := Ground.data }], guard := none }) (d := 30) (v := ?_) rfl rfl (by kernel_rfl) (by kernel_rfl) (by kernel_rfl) (fun _ _ _ h => h) (Or.inl ⟨by rfl, ?_⟩) ?_
  rotate_left
  · (intro w' _; go_simp; (try with_reducible rfl))
  simp only [List.setIfInBounds_toArray, List.set_cons_zero, List.set_cons_succ]
  refine wpAnyD_takeP (i := 12) (oi := { dst := some 32, op := Op.move (Operand.tmp 0), type := 72, pos := "chain.go:54", after := #[], guard := none }) (d := 32) (v := ?_) rfl rfl (by kernel_rfl) (by kernel_rfl) (by kernel_rfl) (fun _ _ _ h => h) (Or.inl ⟨by rfl, ?_⟩) ?_
  rotate_left
  · (intro w' _; go_simp; (try with_reducible rfl))
  simp only [List.setIfInBounds_toArray, List.set_cons_zero, List.set_cons_succ]
  refine wpAnyD_takeP (i := 13) (oi := { dst := some 33, op := Op.nilCheck (Operand.tmp 32), type := 0, pos := "chain.go:54", after := #[{ on := 12, ground := Ground.data }], guard := none }) (d := 33) (v := ?_) rfl rfl (by kernel_rfl) (by kernel_rfl) (by kernel_rfl) (fun _ _ _ h => h) (Or.inl ⟨by rfl, ?_⟩) ?_
  rotate_left
  · (intro w' _; go_simp; (try with_reducible rfl))
  simp only [List.setIfInBounds_toArray, List.set_cons_zero, List.set_cons_succ]
  refine wpAnyD_takeP (i := 14) (oi := { dst := some 34, op := Op.fieldAddr 78 (Operand.tmp 33) 1, type := 0, pos := "chain.go:54", after := #[{ on := 13, ground := Ground.data }], guard := none }) (d := 34) (v := ?_) rfl rfl (by kernel_rfl) (by kernel_rfl) (by kernel_rfl) (fun _ _ _ h => h) (Or.inl ⟨by rfl, ?_⟩) ?_
  rotate_left
  · (intro w' _; go_simp; (try with_reducible rfl))
  simp only [List.setIfInBounds_toArray, List.set_cons_zero, List.set_cons_succ]
  refine wpAnyD_takeP (i := 16) (oi := { dst := some 36, op := Op.move (Operand.tmp 1), type := 3, pos := "chain.go:54", after := #[], guard := none }) (d := 36) (v := ?_) rfl rfl (by kernel_rfl) (by kernel_rfl) (by kernel_rfl) (fun _ _ _ h => h) (Or.inl ⟨by rfl, ?_⟩) ?_
  rotate_left
  · (intro w' _; go_simp; (try with_reducible rfl))
  simp only [List.setIfInBounds_toArray, List.set_cons_zero, List.set_cons_succ]
  refine wpAnyD_takeD (i := 3) (oi := { dst := some 23, op := Op.load 75 (Operand.tmp 22), type := 75, pos := "chain.go:54", after := #[{ on := 2, ground := Ground.data }], guard := none }) (d := 23) (v := ?_) rfl rfl (by kernel_rfl) (by kernel_rfl) (by kernel_rfl) (by kernel_rfl) (fun _ _ _ h => h) (Or.inl ⟨by rfl, ?_⟩) hHeld ?_
  rotate_left
  · (intro w' hSw; (try dsimp only at hSw); go_simp; (try with_reducible rfl))
  simp only [List.setIfInBounds_toArray, List.set_cons_zero, List.set_cons_succ]
  refine wpAnyD_takeP (i := 5) (oi := { dst := some 25, op := Op.indexAddr 75 (Operand.tmp 23) (Operand.tmp 24), type := 0, pos := "chain.go:54", after := #[{ on := 3, ground := Ground.data }, { on := 4, ground := Ground.data }], guard := none }) (d := 25) (v := ?_) rfl rfl (by kernel_rfl) (by kernel_rfl) (by kernel_rfl) (fun _ _ _ h => h) (Or.inl ⟨by rfl, ?_⟩) ?_
  rotate_left
  · (intro w' _; go_simp; (try with_reducible rfl))
  simp only [List.setIfInBounds_toArray, List.set_cons_zero, List.set_cons_succ]
  refine wpAnyD_takeP (i := 6) (oi := { dst := some 26, op := Op.fieldAddr 107 (Operand.tmp 25) 0, type := 0, pos := "chain.go:54", after := #[{ on := 5, ground := Ground.data }], guard := none }) (d := 26) (v := ?_) rfl rfl (by kernel_rfl) (by kernel_rfl) (by kernel_rfl) (fun _ _ _ h => h) (Or.inl ⟨by rfl, ?_⟩) ?_
  rotate_left
  · (intro w' _; go_simp; (try with_reducible rfl))
  simp only [List.setIfInBounds_toArray, List.set_cons_zero, List.set_cons_succ]
  refine wpAnyD_takeD (i := 7) (oi := { dst := some 27, op := Op.load 3 (Operand.tmp 26), type := 3, pos := "chain.go:54", after := #[{ on := 6, ground := Ground.data }], guard := none }) (d := 27) (v := ?_) rfl rfl (by kernel_rfl) (by kernel_rfl) (by kernel_rfl) (by kernel_rfl) (fun _ _ _ h => h) (Or.inl ⟨by rfl, ?_⟩) hHeld ?_
  rotate_left
  · (intro w' hSw; (try dsimp only at hSw); go_simp; (try with_reducible rfl))
  simp only [List.setIfInBounds_toArray, List.set_cons_zero, List.set_cons_succ]
  refine wpAnyD_takeD (i := 11) (oi := { dst := some 31, op := Op.load 75 (Operand.tmp 30), type := 75, pos := "chain.go:54", after := #[{ on := 10, ground := Ground.data }], guard := none }) (d := 31) (v := ?_) rfl rfl (by kernel_rfl) (by kernel_rfl) (by kernel_rfl) (by kernel_rfl) (fun _ _ _ h => h) (Or.inl ⟨by rfl, ?_⟩) hHeld ?_
  rotate_left
  · (intro w' hSw; (try dsimp only at hSw); go_simp; (try with_reducible rfl))
  simp only [List.setIfInBounds_toArray, List.set_cons_zero, List.set_cons_succ]
  refine wpAnyD_takeD (i := 15) (oi := { dst := some 35, op := Op.load 75 (Operand.tmp 34), type := 75, pos := "chain.go:54", after := #[{ on := 14, ground := Ground.data }], guard := none }) (d := 35) (v := ?_) rfl rfl (by kernel_rfl) (by kernel_rfl) (by kernel_rfl) (by kernel_rfl) (fun _ _ _ h => h) (Or.inl ⟨by rfl, ?_⟩) hHeld ?_
  rotate_left
  · (intro w' hSw; (try dsimp only at hSw); go_simp; (try with_reducible rfl))
  simp only [List.setIfInBounds_toArray, List.set_cons_zero, List.set_cons_succ]
  refine wpAnyD_takeP (i := 17) (oi := { dst := some 37, op := Op.indexAddr 75 (Operand.tmp 35) (Operand.tmp 36), type := 0, pos := "chain.go:54", after := #[{ on := 15, ground := Ground.data }, { on := 16, ground := Ground.data }], guard := none }) (d := 37) (v := ?_) rfl rfl (by kernel_rfl) (by kernel_rfl) (by kernel_rfl) (fun _ _ _ h => h) (Or.inl ⟨by rfl, ?_⟩) ?_
  rotate_left
  · (intro w' _; go_simp; (try with_reducible rfl))
  simp only [List.setIfInBounds_toArray, List.set_cons_zero, List.set_cons_succ]
  refine wpAnyD_takeP (i := 18) (oi := { dst := some 38, op := Op.fieldAddr 107 (Operand.tmp 37) 2, type := 0, pos := "chain.go:54", after := #[{ on := 17, ground := Ground.data }], guard := none }) (d := 38) (v := ?_) rfl rfl (by kernel_rfl) (by kernel_rfl) (by kernel_rfl) (fun _ _ _ h => h) (Or.inl ⟨by rfl, ?_⟩) ?_
  rotate_left
  · (intro w' _; go_simp; (try with_reducible rfl))
  simp only [List.setIfInBounds_toArray, List.set_cons_zero, List.set_cons_succ]
  refine wpAnyD_takeD (i := 19) (oi := { dst := some 39, op := Op.load 3 (Operand.tmp 38), type := 3, pos := "chain.go:54", after := #[{ on := 18, ground := Ground.data }], guard := none }) (d := 39) (v := ?_) rfl rfl (by kernel_rfl) (by kernel_rfl) (by kernel_rfl) (by kernel_rfl) (fun _ _ _ h => h) (Or.inl ⟨by rfl, ?_⟩) hHeld ?_
  rotate_left
  · (intro w' hSw; (try dsimp only at hSw); go_simp; (try with_reducible rfl))
  simp only [List.setIfInBounds_toArray, List.set_cons_zero, List.set_cons_succ]
  refine wpAnyD_takeP (i := 20) (oi := { dst := some 40, op := Op.indexAddr 75 (Operand.tmp 31) (Operand.tmp 39), type := 0, pos := "chain.go:54", after := #[{ on := 11, ground := Ground.data }, { on := 19, ground := Ground.data }], guard := none }) (d := 40) (v := ?_) rfl rfl (by kernel_rfl) (by kernel_rfl) (by kernel_rfl) (fun _ _ _ h => h) (Or.inl ⟨by rfl, ?_⟩) ?_
  rotate_left
  · (intro w' _; go_simp; (try with_reducible rfl))
  simp only [List.setIfInBounds_toArray, List.set_cons_zero, List.set_cons_succ]
  refine wpAnyD_takeP (i := 21) (oi := { dst := some 41, op := Op.fieldAddr 107 (Operand.tmp 40) 0, type := 0, pos := "chain.go:54", after := #[{ on := 20, ground := Ground.data }], guard := none }) (d := 41) (v := ?_) rfl rfl (by kernel_rfl) (by kernel_rfl) (by kernel_rfl) (fun _ _ _ h => h) (Or.inl ⟨by rfl, ?_⟩) ?_
  rotate_left
  · (intro w' _; go_simp; (try with_reducible rfl))
  simp only [List.setIfInBounds_toArray, List.set_cons_zero, List.set_cons_succ]
  refine wpAnyD_takeD (i := 22) (oi := { dst := some 42, op := Op.load 3 (Operand.tmp 41), type := 3, pos := "chain.go:54", after := #[{ on := 21, ground := Ground.data }], guard := none }) (d := 42) (v := ?_) rfl rfl (by kernel_rfl) (by kernel_rfl) (by kernel_rfl) (by kernel_rfl) (fun _ _ _ h => h) (Or.inl ⟨by rfl, ?_⟩) hHeld ?_
  rotate_left
  · (intro w' hSw; (try dsimp only at hSw); go_simp; (try with_reducible rfl))
  simp only [List.setIfInBounds_toArray, List.set_cons_zero, List.set_cons_succ]
  refine wpAnyD_takeP (i := 23) (oi := { dst := some 43, op := Op.build 71 #[(0, Operand.tmp 27), (1, Operand.tmp 42)], type := 71, pos := "chain.go:54", after := #[{ on := 7, ground := Ground.data }, { on := 22, ground := Ground.data }], guard := none }) (d := 43) (v := ?_) rfl rfl (by kernel_rfl) (by kernel_rfl) (by kernel_rfl) (fun _ _ _ h => h) (Or.inl ⟨by rfl, ?_⟩) ?_
  rotate_left
  · (intro w' _; go_simp; (try with_reducible rfl))
  simp only [List.setIfInBounds_toArray, List.set_cons_zero, List.set_cons_succ]
  refine wpAnyD_one (i := 24) (o := { dst := some 4, op := Op.alloc 71, type := 0, pos := "chain.go:54", after := #[], guard := none }) (by kernel_rfl) rfl (by rfl) (fun K hK => ?_)
  go_simp; have hbl := (Below.refl W0.heap.size W0).alloc (Nat.le_refl _) (.cells #[.int .i64 0, .int .i64 0] 71); have h := And.intro (below_cell hbl (Nat.le_refl _) hHeld.1) (And.intro (below_cell hbl (Nat.le_refl _) hHeld.2.1) (And.intro (below_cell hbl (Nat.le_refl _) hHeld.2.2.1) (below_cell hbl (Nat.le_refl _) hHeld.2.2.2))); clear hbl
  refine hK.out _ _ h (fun hHeld => ?_)
  clear hK K
  try simp only [Act.put, List.setIfInBounds_toArray, List.set_cons_zero, List.set_cons_succ]
  refine wpAnyD_last (D := 25) (by decide) (o := { dst := none, op := Op.store 71 (Operand.tmp 4) (Operand.tmp 43), type := 0, pos := "chain.go:54", after := #[{ on := 24, ground := Ground.data }, { on := 23, ground := Ground.data }, { on := 0, ground := Ground.phase }, { on := 1, ground := Ground.phase }, { on := 2, ground := Ground.phase }, { on := 3, ground := Ground.phase }, { on := 4, ground := Ground.phase }, { on := 5, ground := Ground.phase }, { on := 6, ground := Ground.phase }, { on := 7, ground := Ground.phase }, { on := 8, ground := Ground.phase }, { on := 9, ground := Ground.phase }, { on := 10, ground := Ground.phase }, { on := 11, ground := Ground.phase }, { on := 12, ground := Ground.phase }, { on := 13, ground := Ground.phase }, { on := 14, ground := Ground.phase }, { on := 15, ground := Ground.phase }, { on := 16, ground := Ground.phase }, { on := 17, ground := Ground.phase }, { on := 18, ground := Ground.phase }, { on := 19, ground := Ground.phase }, { on := 20, ground := Ground.phase }, { on := 21, ground := Ground.phase }, { on := 22, ground := Ground.phase }, { on := 23, ground := Ground.phase }, { on := 24, ground := Ground.phase }], guard := none }) (by kernel_rfl) rfl (by rfl) (fun K hK => ?_)
  go_simp
  refine hK.out _ _ ?_
  clear hK K
  try simp only [Act.put, List.setIfInBounds_toArray, List.set_cons_zero, List.set_cons_succ]
  refine wpAnyD_done (by kernel_rfl) ?_ _
  go_upto_region 2 with fail
  have HBW := Lib.hid ((Below.refl W0.heap.size W0).alloc (Nat.le_refl _) (.cells #[.int .i64 a, .int .i64 b] 71))
  have HN := Lib.hid (blk_new W0 (.cells #[.int .i64 a, .int .i64 b] 71))
  replace HD := Lib.hid (HD.out.below HBW.out (Nat.le_refl _))
  replace HB0 := Lib.hid (HB0.out.trans (HBW.out.mono HB0.out.size))
  clear hHeld h1 a0 a2 b0 HBW p0 p1 p2 p3 q1 q2 h
  generalize W0.heap.size = g4 at *
  generalize W0.alloc (.cells #[.int .i64 a, .int .i64 b] 71) = W1 at *
  have h0 := blk_cell HD.out.lk.blk 0
  have n0 := blk_cell HN.out 0
  have n1 := blk_cell HN.out 1
  simp only [List.getElem?_toArray, List.getElem?_cons_zero, List.getElem?_cons_succ] at h0 n0 n1
  obtain ⟨o, ho⟩ : ∃ o, pairT T (a, b) = o := ⟨_, rfl⟩
  have HO := Lib.hid ho
  refine wp_region_D (Ds := []) (S := fun V => V.cell? ⟨cb, 0, none⟩ = some (.pointer (some ⟨tb, 0, none⟩)) ∧ V.cell? ⟨g4, 0, none⟩ = some (.int .i64 a) ∧ V.cell? ⟨g4, 1, none⟩ = some (.int .i64 b)) (by kernel_rfl) (by exact ⟨h0, n0, n1⟩) (fun hHeld => ?_)
  (replace HD := Lib.hid HD.out.drew); (replace HB0 : Hid (Below w.heap.size w W1.drew) := Lib.hid HB0.out.drew); (have HN1 : Hid (W1.drew.heap[g4]? = some (.cells #[.int .i64 a, .int .i64 b] 71)) := Lib.hid HN.out); (have HP := pair_tab a b ha hb HD.out.tab); rw [ho] at HP; (replace HP := Lib.hid HP); clear HN ho; generalize W1.drew = W2 at *
  refine wpAnyD_takeP (i := 0) (oi := { dst := some 45, op := Op.move (Operand.tmp 0), type := 72, pos := "chain.go:55", after := #[], guard := none }) (d := 45) (v := ?_) rfl rfl (by kernel_rfl) (by kernel_rfl) (by kernel_rfl) (fun _ _ _ h => h) (Or.inl ⟨by rfl, ?_⟩) ?_
  rotate_left
  · (intro w' _; go_simp; (try with_reducible rfl))
  simp only [List.setIfInBounds_toArray, List.set_cons_zero, List.set_cons_succ]
  refine wpAnyD_takeP (i := 1) (oi := { dst := some 46, op := Op.nilCheck (Operand.tmp 45), type := 0, pos := "chain.go:55", after := #[{ on := 0, ground := Ground.data }], guard := none }) (d := 46) (v := ?_) rfl rfl (by kernel_rfl) (by kernel_rfl) (by kernel_rfl) (fun _ _ _ h => h) (Or.inl ⟨by rfl, ?_⟩) ?_
  rotate_left
  · (intro w' _; go_simp; (try with_reducible rfl))
  simp only [List.setIfInBounds_toArray, List.set_cons_zero, List.set_cons_succ]
  refine wpAnyD_takeP (i := 2) (oi := { dst := some 47, op := Op.fieldAddr 78 (Operand.tmp 46) 0, type := 0, pos := "chain.go:55", after := #[{ on := 1, ground := Ground.data }], guard := none }) (d := 47) (v := ?_) rfl rfl (by kernel_rfl) (by kernel_rfl) (by kernel_rfl) (fun _ _ _ h => h) (Or.inl ⟨by rfl, ?_⟩) ?_
  rotate_left
  · (intro w' _; go_simp; (try with_reducible rfl))
  simp only [List.setIfInBounds_toArray, List.set_cons_zero, List.set_cons_succ]
  refine wpAnyD_takeP (i := 4) (oi := { dst := some 49, op := Op.fieldAddr 71 (Operand.tmp 4) 0, type := 0, pos := "chain.go:55", after := #[], guard := none }) (d := 49) (v := ?_) rfl rfl (by kernel_rfl) (by kernel_rfl) (by kernel_rfl) (fun _ _ _ h => h) (Or.inl ⟨by rfl, ?_⟩) ?_
  rotate_left
  · (intro w' _; go_simp; (try with_reducible rfl))
  simp only [List.setIfInBounds_toArray, List.set_cons_zero, List.set_cons_succ]
  refine wpAnyD_takeP (i := 6) (oi := { dst := some 51, op := Op.fieldAddr 71 (Operand.tmp 4) 1, type := 0, pos := "chain.go:55", after := #[], guard := none }) (d := 51) (v := ?_) rfl rfl (by kernel_rfl) (by kernel_rfl) (by kernel_rfl) (fun _ _ _ h => h) (Or.inl ⟨by rfl, ?_⟩) ?_
  rotate_left
  · (intro w' _; go_simp; (try with_reducible rfl))
  simp only [List.setIfInBounds_toArray, List.set_cons_zero, List.set_cons_succ]
  refine wpAnyD_takeD (i := 3) (oi := { dst := some 48, op := Op.load 24 (Operand.tmp 47), type := 24, pos := "chain.go:55", after := #[{ on := 2, ground := Ground.data }], guard := none }) (d := 48) (v := ?_) rfl rfl (by kernel_rfl) (by kernel_rfl) (by kernel_rfl) (by kernel_rfl) (fun _ _ _ h => h) (Or.inl ⟨by rfl, ?_⟩) hHeld ?_
  rotate_left
  · (intro w' hSw; (try dsimp only at hSw); go_simp; (try with_reducible rfl))
  simp only [List.setIfInBounds_toArray, List.set_cons_zero, List.set_cons_succ]
  refine wpAnyD_takeD (i := 5) (oi := { dst := some 50, op := Op.load 3 (Operand.tmp 49), type := 3, pos := "chain.go:55", after := #[{ on := 4, ground := Ground.data }], guard := none }) (d := 50) (v := ?_) rfl rfl (by kernel_rfl) (by kernel_rfl) (by kernel_rfl) (by kernel_rfl) (fun _ _ _ h => h) (Or.inl ⟨by rfl, ?_⟩) hHeld ?_
  rotate_left
  · (intro w' hSw; (try dsimp only at hSw); go_simp; (try with_reducible rfl))
  simp only [List.setIfInBounds_toArray, List.set_cons_zero, List.set_cons_succ]
  refine wpAnyD_takeD (i := 7) (oi := { dst := some 52, op := Op.load 3 (Operand.tmp 51), type := 3, pos := "chain.go:55", after := #[{ on := 6, ground := Ground.data }], guard := none }) (d := 52) (v := ?_) rfl rfl (by kernel_rfl) (by kernel_rfl) (by kernel_rfl) (by kernel_rfl) (fun _ _ _ h => h) (Or.inl ⟨by rfl, ?_⟩) hHeld ?_
  rotate_left
  · (intro w' hSw; (try dsimp only at hSw); go_simp; (try with_reducible rfl))
  simp only [List.setIfInBounds_toArray, List.set_cons_zero, List.set_cons_succ]
  refine wpAnyD_one (i := 8) (o := { dst := some 53, op := Op.call { callee := Callee.value (Operand.func 58), args := #[Operand.tmp 48, Operand.tmp 50, Operand.tmp 52], argTypes := #[24, 3, 3] }, type := 113, pos := "chain.go:55", after := #[{ on := 3, ground := Ground.data }, { on := 5, ground := Ground.data }, { on := 7, ground := Ground.data }], guard := none }) (by kernel_rfl) rfl (by rfl) (fun K hK => ?_)
  go_simp; refine HP.out.mono ?_; rintro e W2 ⟨rfl, rfl⟩; have h := hHeld; go_simp
  refine hK.out _ _ h (fun hHeld => ?_)
  clear hK K
  try simp only [Act.put, List.setIfInBounds_toArray, List.set_cons_zero, List.set_cons_succ]
  refine wpAnyD_takeP (i := 9) (oi := { dst := some 44, op := Op.move (Operand.tmp 53), type := 113, pos := "chain.go:55", after := #[{ on := 8, ground := Ground.data }], guard := none }) (d := 44) (v := ?_) rfl rfl (by kernel_rfl) (by kernel_rfl) (by kernel_rfl) (fun _ _ _ h => h) (Or.inl ⟨by rfl, ?_⟩) ?_
  rotate_left
  · (intro w' _; go_simp; (try with_reducible rfl))
  simp only [List.setIfInBounds_toArray, List.set_cons_zero, List.set_cons_succ]
  refine wpAnyD_takeP (i := 10) (oi := { dst := some 54, op := Op.extract (Operand.tmp 44) 0, type := 3, pos := "chain.go:55", after := #[{ on := 9, ground := Ground.data }], guard := none }) (d := 54) (v := ?_) rfl rfl (by kernel_rfl) (by kernel_rfl) (by kernel_rfl) (fun _ _ _ h => h) (Or.inl ⟨by rfl, ?_⟩) ?_
  rotate_left
  · (intro w' _; go_simp; (try with_reducible rfl))
  simp only [List.setIfInBounds_toArray, List.set_cons_zero, List.set_cons_succ]
  refine wpAnyD_takeP (i := 11) (oi := { dst := some 55, op := Op.extract (Operand.tmp 44) 1, type := 4, pos := "chain.go:55", after := #[{ on := 9, ground := Ground.data }, { on := 12, ground := Ground.gcOnly Departure.lateStores }], guard := none }) (d := 55) (v := ?_) rfl rfl (by kernel_rfl) (by kernel_rfl) (by kernel_rfl) (fun _ _ _ h => h) (Or.inl ⟨by rfl, ?_⟩) ?_
  rotate_left
  · (intro w' _; go_simp; (try with_reducible rfl))
  simp only [List.setIfInBounds_toArray, List.set_cons_zero, List.set_cons_succ]
  refine wpAnyD_takeP (i := 12) (oi := { dst := some 5, op := Op.assign (Operand.tmp 54), type := 3, pos := "chain.go:55", after := #[{ on := 10, ground := Ground.data }, { on := 8, ground := Ground.chain }, { on := 0, ground := Ground.phase }, { on := 1, ground := Ground.phase }, { on := 2, ground := Ground.phase }, { on := 3, ground := Ground.phase }, { on := 4, ground := Ground.phase }, { on := 5, ground := Ground.phase }, { on := 6, ground := Ground.phase }, { on := 7, ground := Ground.phase }, { on := 8, ground := Ground.phase }, { on := 9, ground := Ground.phase }, { on := 10, ground := Ground.phase }, { on := 11, ground := Ground.textOnly Departure.lateStores }], guard := none }) (d := 5) (v := ?_) rfl rfl (by kernel_rfl) (by kernel_rfl) (by kernel_rfl) (fun _ _ _ h => h) (Or.inl ⟨by rfl, ?_⟩) ?_
  rotate_left
  · (intro w' _; go_simp; (try with_reducible rfl))
  simp only [List.setIfInBounds_toArray, List.set_cons_zero, List.set_cons_succ]
  refine wpAnyD_takeP (i := 13) (oi := { dst := some 6, op := Op.assign (Operand.tmp 55), type := 4, pos := "chain.go:55", after := #[{ on := 11, ground := Ground.data }, { on := 12, ground := Ground.chain }, { on := 0, ground := Ground.phase }, { on := 1, ground := Ground.phase }, { on := 2, ground := Ground.phase }, { on := 3, ground := Ground.phase }, { on := 4, ground := Ground.phase }, { on := 5, ground := Ground.phase }, { on := 6, ground := Ground.phase }, { on := 7, ground := Ground.phase }, { on := 8, ground := Ground.phase }, { on := 9, ground := Ground.phase }, { on := 10, ground := Ground.phase }, { on := 11, ground := Ground.phase }, { on := 12, ground := Ground.phase }], guard := none }) (d := 6) (v := ?_) rfl rfl (by kernel_rfl) (by kernel_rfl) (by kernel_rfl) (fun _ _ _ h => h) (Or.inl ⟨by rfl, ?_⟩) ?_
  rotate_left
  · (intro w' _; go_simp; (try with_reducible rfl))
  simp only [List.setIfInBounds_toArray, List.set_cons_zero, List.set_cons_succ]
  refine wpAnyD_done (by kernel_rfl) ?_ _
  clear h hHeld h0 n0 n1
  have h3 := blk_cell HD.out.lk.blk 3
  simp only [List.getElem?_toArray, List.getElem?_cons_zero, List.getElem?_cons_succ] at h3
  cases o with
  | none =>
    simp only [Option.getD_none, Option.isSome_none]
    go_wp2_with fail
    go_end0
    refine ⟨rfl, ⟨Aq, cq, ?_⟩, HB0.out.mono HH.out.sizes⟩
    rw [← HR.out, askQ_none (by show pairB T bel a b = none; unfold pairB; rw [HO.out]; rfl)]
    exact HD.out
  | some r =>
    simp only [Option.getD_some, Option.isSome_some]
    by_cases hlt : (r : Int) < bel
    · have HPB : Hid (pairB T bel a b = some (r : Int)) := Lib.hid (by unfold pairB; rw [HO.out]; simp [hlt])
      have hd : decide ((r : Int) < bel) = true := by simpa using hlt
      go_upto_region 4 with fail
      have h2 := blk_cell HD.out.lk.blk 2
      have n0 := blk_cell HN1.out 0
      have n1 := blk_cell HN1.out 1
      simp only [List.getElem?_toArray, List.getElem?_cons_zero, List.getElem?_cons_succ] at h2 n0 n1
      clear h3 hd HP
      refine wp_region_D (Ds := [9]) (S := fun V => V.cell? ⟨cb, 2, none⟩ = some (.pointer (some ⟨qb, 0, none⟩)) ∧ V.cell? ⟨g4, 0, none⟩ = some (.int .i64 a) ∧ V.cell? ⟨g4, 1, none⟩ = some (.int .i64 b)) (by kernel_rfl) (by exact ⟨h2, n0, n1⟩) (fun hHeld => ?_)
      (replace HD := Lib.hid HD.out.drew); (replace HB0 : Hid (Below w.heap.size w W2.drew) := Lib.hid HB0.out.drew); (have HPU := Lib.hid (by simpa only [hw.wtV] using hw.push_any HD.out.hp (r : Int) (i : Int) ⟨(i : Int), a, b⟩ hQ ht0 ht1 HD.out.sizes)); clear HN1; generalize W2.drew = W3 at *
      refine wpAnyD_takeP (i := 0) (oi := { dst := some 65, op := Op.move (Operand.tmp 0), type := 72, pos := "chain.go:56", after := #[], guard := none }) (d := 65) (v := ?_) rfl rfl (by kernel_rfl) (by kernel_rfl) (by kernel_rfl) (fun _ _ _ h => h) (Or.inl ⟨by rfl, ?_⟩) ?_
      rotate_left
      · (intro w' _; go_simp; (try with_reducible rfl))
      simp only [List.setIfInBounds_toArray, List.set_cons_zero, List.set_cons_succ]
      refine wpAnyD_takeP (i := 1) (oi := { dst := some 66, op := Op.nilCheck (Operand.tmp 65), type := 0, pos := "chain.go:56", after := #[{ on := 0, ground := Ground.data }], guard := none }) (d := 66) (v := ?_) rfl rfl (by kernel_rfl) (by kernel_rfl) (by kernel_rfl) (fun _ _ _ h => h) (Or.inl ⟨by rfl, ?_⟩) ?_
      rotate_left
      · (intro w' _; go_simp; (try with_reducible rfl))
      simp only [List.setIfInBounds_toArray, List.set_cons_zero, List.set_cons_succ]
      refine wpAnyD_takeP (i := 2) (oi := { dst := some 67, op := Op.fieldAddr 78 (Operand.tmp 66) 2, type := 0, pos := "chain.go:56", after := #[{ on := 1, ground := Ground.data }], guard := none }) (d := 67) (v := ?_) rfl rfl (by kernel_rfl) (by kernel_rfl) (by kernel_rfl) (fun _ _ _ h => h) (Or.inl ⟨by rfl, ?_⟩) ?_
      rotate_left
      · (intro w' _; go_simp; (try with_reducible rfl))
      simp only [List.setIfInBounds_toArray, List.set_cons_zero, List.set_cons_succ]
      refine wpAnyD_takeP (i := 4) (oi := { dst := some 69, op := Op.move (Operand.tmp 5), type := 3, pos := "chain.go:56", after := #[], guard := none }) (d := 69) (v := ?_) rfl rfl (by kernel_rfl) (by kernel_rfl) (by kernel_rfl) (fun _ _ _ h => h) (Or.inl ⟨by rfl, ?_⟩) ?_
      rotate_left
      · (intro w' _; go_simp; (try with_reducible rfl))
      simp only [List.setIfInBounds_toArray, List.set_cons_zero, List.set_cons_succ]
      refine wpAnyD_takeP (i := 5) (oi := { dst := some 70, op := Op.move (Operand.tmp 1), type := 3, pos := "chain.go:56", after := #[], guard := none }) (d := 70) (v := ?_) rfl rfl (by kernel_rfl) (by kernel_rfl) (by kernel_rfl) (fun _ _ _ h => h) (Or.inl ⟨by rfl, ?_⟩) ?_
      rotate_left
      · (intro w' _; go_simp; (try with_reducible rfl))
      simp only [List.setIfInBounds_toArray, List.set_cons_zero, List.set_cons_succ]
      refine wpAnyD_takeP (i := 6) (oi := { dst := some 71, op := Op.move (Operand.tmp 1), type := 3, pos := "chain.go:56", after := #[], guard := none }) (d := 71) (v := ?_) rfl rfl (by kernel_rfl) (by kernel_rfl) (by kernel_rfl) (fun _ _ _ h => h) (Or.inl ⟨by rfl, ?_⟩) ?_
      rotate_left
      · (intro w' _; go_simp; (try with_reducible rfl))
      simp only [List.setIfInBounds_toArray, List.set_cons_zero, List.set_cons_succ]
      refine wpAnyD_takeD (i := 3) (oi := { dst := some 68, op := Op.load 76 (Operand.tmp 67), type := 76, pos := "chain.go:56", after := #[{ on := 2, ground := Ground.data }], guard := none }) (d := 68) (v := ?_) rfl rfl (by kernel_rfl) (by kernel_rfl) (by kernel_rfl) (by kernel_rfl) (fun _ _ _ h => h) (Or.inl ⟨by rfl, ?_⟩) hHeld ?_
      rotate_left
      · (intro w' hSw; (try dsimp only at hSw); go_simp; (try with_reducible rfl))
      simp only [List.setIfInBounds_toArray, List.set_cons_zero, List.set_cons_succ]
      refine wpAnyD_one (i := 7) (o := { dst := some 72, op := Op.load 71 (Operand.tmp 4), type := 71, pos := "chain.go:56", after := #[], guard := none }) (by kernel_rfl) rfl (by rfl) (fun K hK => ?_)
      go_simp
      refine hK.out _ _ hHeld (fun hHeld => ?_)
      clear hK K
      try simp only [Act.put, List.setIfInBounds_toArray, List.set_cons_zero, List.set_cons_succ]
      refine wpAnyD_takeP (i := 8) (oi := { dst := some 73, op := Op.build 105 #[(0, Operand.tmp 71), (1, Operand.tmp 72)], type := 105, pos := "chain.go:56", after := #[{ on := 6, ground := Ground.data }, { on := 7, ground := Ground.data }], guard := none }) (d := 73) (v := ?_) rfl rfl (by kernel_rfl) (by kernel_rfl) (by kernel_rfl) (fun _ _ _ h => h) (Or.inl ⟨by rfl, ?_⟩) ?_
      rotate_left
      · (intro w' _; go_simp; (try with_reducible rfl))
      simp only [List.setIfInBounds_toArray, List.set_cons_zero, List.set_cons_succ]
      refine wpAnyD_last (D := 9) (by decide) (o := { dst := some 74, op := Op.call { callee := Callee.value (Operand.func 59), args := #[Operand.tmp 68, Operand.tmp 69, Operand.tmp 70, Operand.tmp 73], argTypes := #[76, 3, 3, 105] }, type := 0, pos := "chain.go:56", after := #[{ on := 3, ground := Ground.data }, { on := 4, ground := Ground.data }, { on := 5, ground := Ground.data }, { on := 8, ground := Ground.data }], guard := none }) (by kernel_rfl) rfl (by rfl) (fun K hK => ?_)
      go_simp; refine HPU.out.mono ?_; rintro e W4 ⟨rfl, h5, hk⟩; have H5 := Lib.hid h5; have HK := Lib.hid hk; clear h5 hk; go_simp
      refine hK.out _ _ ?_
      clear hK K
      try simp only [Act.put, List.setIfInBounds_toArray, List.set_cons_zero, List.set_cons_succ]
      refine wpAnyD_done (by kernel_rfl) ?_ _
      go_wp2_with fail
      go_end0
      obtain ⟨Aq', cq', h6, _⟩ := H5.out
      obtain ⟨hC, hB⟩ := HD.out.queue h6 HK.out
      refine ⟨rfl, ⟨Aq', cq', ?_⟩, (HB0.out.mono HH.out.sizes).trans hB⟩
      rw [← HR.out, askQ_some HPB.out]
      exact hC
    · have hd : decide ((r : Int) < bel) = false := by simpa using hlt
      have HPB : Hid (pairB T bel a b = none) := Lib.hid (by unfold pairB; rw [HO.out]; simp; omega)
      go_wp2_with fail
      go_end0
      refine ⟨rfl, ⟨Aq, cq, ?_⟩, HB0.out.mono HH.out.sizes⟩
      rw [← HR.out, askQ_none HPB.out]
      exact HD.out
theorem wf_id {a : Int} (h : 0 ≤ a ∧ a < 1000000) : (Lit.int .i64 a).wf = true := by
  have e1 : IntKind.i64.min = -9223372036854775808 := by decide
  have e2 : IntKind.i64.max = 9223372036854775807 := by decide
  simp only [Lit.wf, e1, e2, Bool.and_eq_true, decide_eq_true_eq]
  omega
theorem asks_live (h : ChainIs w base tbase tb T sv mb mp cb qb N bel steps A c Q turn Aq cq) {p q : List Nd} {i : Nat} {a : Int} (hL : Lives N (p ++ ((i : Int), a) :: q)) (hQ : Q.length < 1000000000) (ht0 : 0 ≤ turn) (ht1 : turn < 1000000000000000000) :
    Calls Try.prog 52 #[.pointer (some ⟨cb, 0, none⟩), .int .i64 (i : Int)] w fun e w' => e = .returned (.tuple #[]) ∧ (∃ Aq' cq', ChainIs w' base tbase tb T sv mb mp cb qb N bel steps A c (askQ (pairB T bel) Q turn i a q).1 (askQ (pairB T bel) Q turn i a q).2 Aq' cq') ∧ Below base w w' := by
  obtain ⟨k, e, hk⟩ := hL.at_ p i a q rfl
  have e : i = k := by omega
  subst e
  rcases q with _ | ⟨⟨j, b⟩, q⟩
  · exact (asks_last h i a _ hk).mono fun e w' ⟨h1, h2⟩ => ⟨h1, by subst h2; exact ⟨Aq, cq, h⟩, by subst h2; exact Below.refl _ _⟩
  · obtain ⟨m, rfl, hm⟩ := hL.at_ (p ++ [((i : Int), a)]) j b q (by simp)
    exact asks_two h i m a _ b _ hk hm (wf_id (hL.nn ((i : Int), a) (by simp))) (wf_id (hL.nn ((m : Int), b) (by simp))) hQ ht0 ht1 _ rfl
theorem asks_ahead (h : ChainIs w base tbase tb T sv mb mp cb qb N bel steps A c Q turn Aq cq) {p q : List Nd} (hL : Lives N (p ++ q)) (hQ : Q.length < 1000000000) (ht0 : 0 ≤ turn) (ht1 : turn < 1000000000000000000) :
    Calls Try.prog 52 #[.pointer (some ⟨cb, 0, none⟩), .int .i64 (lastI p)] w fun e w' => e = .returned (.tuple #[]) ∧ (∃ Aq' cq', ChainIs w' base tbase tb T sv mb mp cb qb N bel steps A c (askL (pairB T bel) Q turn p q).1 (askL (pairB T bel) Q turn p q).2 Aq' cq') ∧ Below base w w' := by
  rcases List.eq_nil_or_concat p with rfl | ⟨p', x, rfl⟩
  · exact (asks_end h).mono fun e w' ⟨h1, h2⟩ => ⟨h1, by subst h2; exact ⟨Aq, cq, h⟩, by subst h2; exact Below.refl _ _⟩
  · rw [List.concat_eq_append] at *
    have hL' : Lives N (p' ++ x :: q) := by simpa using hL
    obtain ⟨k, e, _⟩ := hL'.place (x := x) (by simp)
    obtain ⟨x1, x2⟩ := x
    simp only at e
    subst e
    have := asks_live h hL' hQ ht0 ht1
    rw [lastI_snoc]
    unfold askL
    rw [List.getLast?_concat]
    exact this
end
end Go.Proofs.Ytpkmcokkapfnmaa
