/- Layer 5 (chain): join. -/
import Derived.Test.YtpkmcokkapfnmaaChain6
namespace Go.Proofs.Ytpkmcokkapfnmaa
open Go.RowKit Go.Maps Go.WideMaps
set_option maxRecDepth 100000
set_option linter.unusedVariables false
set_option linter.unusedSimpArgs false

section
variable {w w' : World} {base tbase tb : Nat} {T : List Ent} {sv : Value} {mb mp cb qb : Nat} {N : List Node} {bel steps : Int} {A : Option Addr} {c g : Nat} {Q : List (Th Wt)} {turn : Int} {Aq : Option Addr} {cq : Nat}
theorem LinkIs.set (h : LinkIs w base cb tb qb N bel steps (some ⟨g, 0, none⟩) c) {N' : List Node} {j : Nat} {u : Int} (hl : N'.length = N.length) (hf : N'.flatMap encN = (N.flatMap encN).set j (.int .i64 u)) : LinkIs (w.setCell ⟨g, j, none⟩ (.int .i64 u)) base cb tb qb N' bel steps (some ⟨g, 0, none⟩) c := by
  refine ⟨?_, ?_, h.le⟩
  · rw [hl]
    exact blk_far h.blk (fun e => row_ne2 h.row h.blk (by decide) (by rw [show cb = g from e])) _
  · rw [hl, hf]
    exact own_set h.row j _
theorem LinkIs.set_steps (h : LinkIs w base cb tb qb N bel steps (some ⟨g, 0, none⟩) c) {u : Int} : LinkIs (w.setCell ⟨cb, 4, none⟩ (.int .i64 u)) base cb tb qb N bel u (some ⟨g, 0, none⟩) c := by
  refine ⟨by simpa using blk_set h.blk 4 (.int .i64 u), ?_, h.le⟩
  exact own_keep h.row ((Keep.refl (fun x => x = cb) w).setCell (p := ⟨cb, 4, none⟩) (.inl rfl) _) (fun x hx e => row_ne2 h.row h.blk (by decide) (by rw [hw.own_addr h.row x hx, e]))
theorem LinkIs.cellAt (h : LinkIs w base cb tb qb N bel steps (some ⟨g, 0, none⟩) c) (j : Nat) (hj : j < N.length * 3) : (∃ v, w.cell? ⟨g, j, none⟩ = some v) ∧ w.frozen? ⟨g, j, none⟩ = false :=
  hw.own_cells h.row (by omega) j hj

set_option maxHeartbeats 4000000 in
theorem join_any (h : ChainIs w base tbase tb T sv mb mp cb qb N bel steps A c Q turn Aq cq) {L1 L2 : List Nd} {i j : Nat} {a b r : Int} (hL : Lives N (L1 ++ ((i : Int), a) :: ((j : Int), b) :: L2)) (hr : 0 ≤ r ∧ r < 1000000)
    (hQ : Q.length + 1 < 1000000000) (ht0 : 0 ≤ turn) (ht1 : turn + 1 < 1000000000000000000) (hs0 : 0 ≤ steps) (hs1 : steps < 1000000000000000000) (R : List (Th Wt) × Int)
    (hR : askQ (pairB T bel) (askL (pairB T bel) Q turn L1 (((i : Int), r) :: L2)).1 (askL (pairB T bel) Q turn L1 (((i : Int), r) :: L2)).2 i r L2 = R) :
    Calls Try.prog 55 #[.pointer (some ⟨cb, 0, none⟩), .int .i64 (i : Int), .int .i64 r] w fun e w' => e = .returned (.tuple #[]) ∧ (∃ Aq' cq', ChainIs w' base tbase tb T sv mb mp cb qb (joinN N i j r (kOf L2)) bel (steps + 1) A c R.1 R.2 Aq' cq') ∧ Below base w w' := by
  obtain ⟨ki, e, hi⟩ := hL.at_ L1 i a _ rfl
  have e : i = ki := by omega
  subst e
  obtain ⟨kj, e, hj⟩ := hL.at_ (L1 ++ [((i : Int), a)]) j b L2 (by simp)
  have e : j = kj := by omega
  subst e
  rw [headI_cons] at hi
  rw [← Lives.aft (N := N) (L1 := L1 ++ [((i : Int), a)]) (x := ((j : Int), b)) (L2 := L2) (by simpa using hL)] at hj
  have HLV := Lib.hid (hL.join (r := r) hr)
  have hkm : ∀ m, kOf L2 = some m → m < N.length := by
    intro m hm
    rcases L2 with _ | ⟨y, L2⟩
    · simp [kOf] at hm
    · obtain ⟨k, h1, h2⟩ := hL.place (x := y) (by simp)
      simp only [kOf, List.head?_cons, Option.map_some, Option.some.injEq] at hm
      omega
  have HQL : Hid ((askL (pairB T bel) Q turn L1 (((i : Int), r) :: L2)).1.length < 1000000000 ∧ 0 ≤ (askL (pairB T bel) Q turn L1 (((i : Int), r) :: L2)).2 ∧ (askL (pairB T bel) Q turn L1 (((i : Int), r) :: L2)).2 < 1000000000000000000) := Lib.hid (by
    have := askL_len (P := pairB T bel) (Q := Q) (turn := turn) (p := L1) (q := ((i : Int), r) :: L2)
    omega)
  generalize hk : kOf L2 = k at *
  have hlt := (List.getElem?_eq_some_iff.1 hi).1
  have hlt2 := (List.getElem?_eq_some_iff.1 hj).1
  obtain ⟨g, rfl, a0, a1, a2⟩ := h.lk.at i _ hi
  obtain ⟨g', e, b0, b1, b2⟩ := h.lk.at j _ hj
  injection e with e
  injection e with e
  subst e
  have h1 := blk_cell h.lk.blk 1
  simp only [List.getElem?_toArray, List.getElem?_cons_zero, List.getElem?_cons_succ] at h1 a2 b0 b2
  have p0 : (0 : Int) ≤ (i : Int) := by omega
  have p1 : (i : Int) < (N.length : Int) := by omega
  have p2 : (0 : Int) ≤ (j : Int) := by omega
  have p3 : (j : Int) < (N.length : Int) := by omega
  have z0 := (h.lk.cellAt (j * 3) (by omega)).2
  have HH := Lib.hid h
  have HR := Lib.hid hR
  have HK : Hid (∀ m, k = some m → m < N.length) := Lib.hid hkm
  clear hi hj h a0 a1 b1 hL hR hk hkm
  go_enter Try.func55, Try.ntmps55
  go_upto_region 3 with fail
  have HL1 := Lib.hid (HH.out.lk.set (by rw [List.length_modify]) (flat_id N (-2) j hlt2))
  have HK1 : Hid (Keep (fun x => x = cb ∨ (some ⟨g, 0, none⟩ : Option Addr) = some ⟨x, 0, none⟩) w (w.setCell ⟨g, j * 3, none⟩ (.int .i64 (-2)))) := Lib.hid ((Keep.refl _ _).setCell (p := ⟨g, j * 3, none⟩) (.inl (.inr rfl)) _)
  clear z0 h1 a2 b0 b2
  generalize w.setCell ⟨g, j * 3, none⟩ (.int .i64 (-2)) = W1 at *
  have h1 := blk_cell HL1.out.blk 1
  simp only [List.getElem?_toArray, List.getElem?_cons_zero, List.getElem?_cons_succ, List.length_modify] at h1
  refine wp_region_D (Ds := [14, 17]) (S := fun V => V.cell? ⟨cb, 1, none⟩ = some (.slice (some ⟨g, 0, none⟩) N.length c)) (by kernel_rfl) (by exact h1) (fun hHeld => ?_)
  (replace HL1 : Hid (LinkIs W1.drew base cb tb qb (N.modify j (idN (-2))) bel steps (some ⟨g, 0, none⟩) c) := Lib.hid (HL1.out.below (B := W1.heap.size) ⟨rfl, rfl, rfl, Nat.le_refl _, fun _ _ => rfl⟩ (Nat.le_refl _))); (replace HK1 := Lib.hid HK1.out.drew); clear h1; generalize W1.drew = W2 at *
  refine wpAnyD_takeP (i := 0) (oi := { dst := some 31, op := Op.move (Operand.tmp 0), type := 72, pos := "chain.go:74", after := #[], guard := none }) (d := 31) (v := ?_) rfl rfl (by kernel_rfl) (by kernel_rfl) (by kernel_rfl) (fun _ _ _ h => h) (Or.inl ⟨by rfl, ?_⟩) ?_
  rotate_left
  · (intro w' _; go_simp; (try with_reducible rfl))
  simp only [List.setIfInBounds_toArray, List.set_cons_zero, List.set_cons_succ]
  refine wpAnyD_takeP (i := 1) (oi := { dst := some 32, op := Op.nilCheck (Operand.tmp 31), type := 0, pos := "chain.go:74", after := #[{ on := 0, ground := Ground.data }], guard := none }) (d := 32) (v := ?_) rfl rfl (by kernel_rfl) (by kernel_rfl) (by kernel_rfl) (fun _ _ _ h => h) (Or.inl ⟨by rfl, ?_⟩) ?_
  rotate_left
  · (intro w' _; go_simp; (try with_reducible rfl))
  simp only [List.setIfInBounds_toArray, List.set_cons_zero, List.set_cons_succ]
  refine wpAnyD_takeP (i := 2) (oi := { dst := some 33, op := Op.fieldAddr 78 (Operand.tmp 32) 1, type := 0, pos := "chain.go:74", after := #[{ on := 1, ground := Ground.data }], guard := none }) (d := 33) (v := ?_) rfl rfl (by kernel_rfl) (by kernel_rfl) (by kernel_rfl) (fun _ _ _ h => h) (Or.inl ⟨by rfl, ?_⟩) ?_
  rotate_left
  · (intro w' _; go_simp; (try with_reducible rfl))
  simp only [List.setIfInBounds_toArray, List.set_cons_zero, List.set_cons_succ]
  refine wpAnyD_takeP (i := 4) (oi := { dst := some 35, op := Op.move (Operand.tmp 1), type := 3, pos := "chain.go:74", after := #[], guard := none }) (d := 35) (v := ?_) rfl rfl (by kernel_rfl) (by kernel_rfl) (by kernel_rfl) (fun _ _ _ h => h) (Or.inl ⟨by rfl, ?_⟩) ?_
  rotate_left
  · (intro w' _; go_simp; (try with_reducible rfl))
  simp only [List.setIfInBounds_toArray, List.set_cons_zero, List.set_cons_succ]
  refine wpAnyD_takeP (i := 5) (oi := { dst := some 36, op := Op.move (Operand.tmp 0), type := 72, pos := "chain.go:74", after := #[], guard := none }) (d := 36) (v := ?_) rfl rfl (by kernel_rfl) (by kernel_rfl) (by kernel_rfl) (fun _ _ _ h => h) (Or.inl ⟨by rfl, ?_⟩) ?_
  rotate_left
  · (intro w' _; go_simp; (try with_reducible rfl))
  simp only [List.setIfInBounds_toArray, List.set_cons_zero, List.set_cons_succ]
  refine wpAnyD_takeP (i := 6) (oi := { dst := some 37, op := Op.nilCheck (Operand.tmp 36), type := 0, pos := "chain.go:74", after := #[{ on := 5, ground := Ground.data }], guard := none }) (d := 37) (v := ?_) rfl rfl (by kernel_rfl) (by kernel_rfl) (by kernel_rfl) (fun _ _ _ h => h) (Or.inl ⟨by rfl, ?_⟩) ?_
  rotate_left
  · (intro w' _; go_simp; (try with_reducible rfl))
  simp only [List.setIfInBounds_toArray, List.set_cons_zero, List.set_cons_succ]
  refine wpAnyD_takeP (i := 7) (oi := { dst := some 38, op := Op.fieldAddr 78 (Operand.tmp 37) 1, type := 0, pos := "chain.go:74", after := #[{ on := 6, ground := Ground.data }], guard := none }) (d := 38) (v := ?_) rfl rfl (by kernel_rfl) (by kernel_rfl) (by kernel_rfl) (fun _ _ _ h => h) (Or.inl ⟨by rfl, ?_⟩) ?_
  rotate_left
  · (intro w' _; go_simp; (try with_reducible rfl))
  simp only [List.setIfInBounds_toArray, List.set_cons_zero, List.set_cons_succ]
  refine wpAnyD_takeP (i := 9) (oi := { dst := some 40, op := Op.move (Operand.tmp 1), type := 3, pos := "chain.go:74", after := #[{ on := 14, ground := Ground.gcOnly Departure.lateStores }], guard := none }) (d := 40) (v := ?_) rfl rfl (by kernel_rfl) (by kernel_rfl) (by kernel_rfl) (fun _ _ _ h => h) (Or.inl ⟨by rfl, ?_⟩) ?_
  rotate_left
  · (intro w' _; go_simp; (try with_reducible rfl))
  simp only [List.setIfInBounds_toArray, List.set_cons_zero, List.set_cons_succ]
  refine wpAnyD_takeP (i := 10) (oi := { dst := some 41, op := Op.move (Operand.tmp 2), type := 3, pos := "chain.go:74", after := #[], guard := none }) (d := 41) (v := ?_) rfl rfl (by kernel_rfl) (by kernel_rfl) (by kernel_rfl) (fun _ _ _ h => h) (Or.inl ⟨by rfl, ?_⟩) ?_
  rotate_left
  · (intro w' _; go_simp; (try with_reducible rfl))
  simp only [List.setIfInBounds_toArray, List.set_cons_zero, List.set_cons_succ]
  refine wpAnyD_takeP (i := 11) (oi := { dst := some 42, op := Op.move (Operand.tmp 7), type := 3, pos := "chain.go:74", after := #[{ on := 14, ground := Ground.gcOnly Departure.lateStores }], guard := none }) (d := 42) (v := ?_) rfl rfl (by kernel_rfl) (by kernel_rfl) (by kernel_rfl) (fun _ _ _ h => h) (Or.inl ⟨by rfl, ?_⟩) ?_
  rotate_left
  · (intro w' _; go_simp; (try with_reducible rfl))
  simp only [List.setIfInBounds_toArray, List.set_cons_zero, List.set_cons_succ]
  refine wpAnyD_takeD (i := 3) (oi := { dst := some 34, op := Op.load 75 (Operand.tmp 33), type := 75, pos := "chain.go:74", after := #[{ on := 2, ground := Ground.data }], guard := none }) (d := 34) (v := ?_) rfl rfl (by kernel_rfl) (by kernel_rfl) (by kernel_rfl) (by kernel_rfl) (fun _ _ _ h => h) (Or.inl ⟨by rfl, ?_⟩) hHeld ?_
  rotate_left
  · (intro w' hSw; (try dsimp only at hSw); go_simp; (try with_reducible rfl))
  simp only [List.setIfInBounds_toArray, List.set_cons_zero, List.set_cons_succ]
  refine wpAnyD_takeD (i := 8) (oi := { dst := some 39, op := Op.load 75 (Operand.tmp 38), type := 75, pos := "chain.go:74", after := #[{ on := 7, ground := Ground.data }], guard := none }) (d := 39) (v := ?_) rfl rfl (by kernel_rfl) (by kernel_rfl) (by kernel_rfl) (by kernel_rfl) (fun _ _ _ h => h) (Or.inl ⟨by rfl, ?_⟩) hHeld ?_
  rotate_left
  · (intro w' hSw; (try dsimp only at hSw); go_simp; (try with_reducible rfl))
  simp only [List.setIfInBounds_toArray, List.set_cons_zero, List.set_cons_succ]
  refine wpAnyD_takeP (i := 12) (oi := { dst := some 43, op := Op.indexAddr 75 (Operand.tmp 34) (Operand.tmp 35), type := 0, pos := "chain.go:74", after := #[{ on := 3, ground := Ground.data }, { on := 4, ground := Ground.data }, { on := 0, ground := Ground.phase }, { on := 1, ground := Ground.phase }, { on := 2, ground := Ground.phase }, { on := 3, ground := Ground.phase }, { on := 4, ground := Ground.phase }, { on := 5, ground := Ground.textOnly Departure.lateStores }, { on := 6, ground := Ground.textOnly Departure.lateStoresUnsure }, { on := 7, ground := Ground.textOnly Departure.lateStoresUnsure }, { on := 8, ground := Ground.phase }, { on := 9, ground := Ground.textOnly Departure.lateStores }, { on := 10, ground := Ground.phase }, { on := 11, ground := Ground.textOnly Departure.lateStores }], guard := none }) (d := 43) (v := ?_) rfl rfl (by kernel_rfl) (by kernel_rfl) (by kernel_rfl) (fun _ _ _ h => h) (Or.inl ⟨by rfl, ?_⟩) ?_
  rotate_left
  · (intro w' _; go_simp; (try with_reducible rfl))
  simp only [List.setIfInBounds_toArray, List.set_cons_zero, List.set_cons_succ]
  refine wpAnyD_takeP (i := 13) (oi := { dst := some 44, op := Op.fieldAddr 107 (Operand.tmp 43) 0, type := 0, pos := "chain.go:74", after := #[{ on := 12, ground := Ground.data }, { on := 0, ground := Ground.phase }, { on := 1, ground := Ground.phase }, { on := 2, ground := Ground.phase }, { on := 3, ground := Ground.phase }, { on := 4, ground := Ground.phase }, { on := 5, ground := Ground.textOnly Departure.lateStores }, { on := 6, ground := Ground.textOnly Departure.lateStoresUnsure }, { on := 7, ground := Ground.textOnly Departure.lateStoresUnsure }, { on := 8, ground := Ground.phase }, { on := 9, ground := Ground.textOnly Departure.lateStores }, { on := 10, ground := Ground.phase }, { on := 11, ground := Ground.textOnly Departure.lateStores }], guard := none }) (d := 44) (v := ?_) rfl rfl (by kernel_rfl) (by kernel_rfl) (by kernel_rfl) (fun _ _ _ h => h) (Or.inl ⟨by rfl, ?_⟩) ?_
  rotate_left
  · (intro w' _; go_simp; (try with_reducible rfl))
  simp only [List.setIfInBounds_toArray, List.set_cons_zero, List.set_cons_succ]
  refine wpAnyD_last (D := 14) (by decide) (o := { dst := none, op := Op.store 3 (Operand.tmp 44) (Operand.tmp 41), type := 0, pos := "chain.go:74", after := #[{ on := 13, ground := Ground.data }, { on := 10, ground := Ground.data }, { on := 0, ground := Ground.phase }, { on := 1, ground := Ground.phase }, { on := 2, ground := Ground.phase }, { on := 3, ground := Ground.phase }, { on := 4, ground := Ground.phase }, { on := 5, ground := Ground.textOnly Departure.lateStores }, { on := 6, ground := Ground.textOnly Departure.lateStoresUnsure }, { on := 7, ground := Ground.textOnly Departure.lateStoresUnsure }, { on := 8, ground := Ground.phase }, { on := 9, ground := Ground.textOnly Departure.lateStores }, { on := 10, ground := Ground.phase }, { on := 11, ground := Ground.textOnly Departure.lateStores }], guard := none }) (by kernel_rfl) rfl (by rfl) (fun K hK => ?_)
  obtain ⟨⟨v0, c0⟩, z0⟩ := HL1.out.cellAt (i * 3) (by rw [List.length_modify]; omega); go_simp; have HL2 := Lib.hid (HL1.out.set (N' := (N.modify j (idN (-2))).modify i (idN r)) (by simp) (flat_id (N.modify j (idN (-2))) r i (by rw [List.length_modify]; exact hlt))); have HK2 := Lib.hid (HK1.out.setCell (p := ⟨g, i * 3, none⟩) (.inl (.inr rfl)) (.int .i64 r)); clear c0 z0; generalize W2.setCell ⟨g, i * 3, none⟩ (.int .i64 r) = W3 at *
  refine hK.out _ _ ?_
  clear hK K
  try simp only [Act.put, List.setIfInBounds_toArray, List.set_cons_zero, List.set_cons_succ]
  refine wpAnyD_takeP (i := 15) (oi := { dst := some 45, op := Op.indexAddr 75 (Operand.tmp 39) (Operand.tmp 40), type := 0, pos := "chain.go:74", after := #[{ on := 8, ground := Ground.data }, { on := 9, ground := Ground.data }, { on := 0, ground := Ground.phase }, { on := 1, ground := Ground.phase }, { on := 2, ground := Ground.phase }, { on := 3, ground := Ground.phase }, { on := 4, ground := Ground.phase }, { on := 5, ground := Ground.phase }, { on := 6, ground := Ground.phase }, { on := 7, ground := Ground.phase }, { on := 8, ground := Ground.phase }, { on := 9, ground := Ground.phase }, { on := 10, ground := Ground.phase }, { on := 11, ground := Ground.phase }, { on := 12, ground := Ground.phase }, { on := 13, ground := Ground.phase }, { on := 14, ground := Ground.phase }], guard := none }) (d := 45) (v := ?_) rfl rfl (by kernel_rfl) (by kernel_rfl) (by kernel_rfl) (fun _ _ _ h => h) (Or.inl ⟨by rfl, ?_⟩) ?_
  rotate_left
  · (intro w' _; go_simp; (try with_reducible rfl))
  simp only [List.setIfInBounds_toArray, List.set_cons_zero, List.set_cons_succ]
  refine wpAnyD_takeP (i := 16) (oi := { dst := some 46, op := Op.fieldAddr 107 (Operand.tmp 45) 2, type := 0, pos := "chain.go:74", after := #[{ on := 15, ground := Ground.data }, { on := 0, ground := Ground.phase }, { on := 1, ground := Ground.phase }, { on := 2, ground := Ground.phase }, { on := 3, ground := Ground.phase }, { on := 4, ground := Ground.phase }, { on := 5, ground := Ground.phase }, { on := 6, ground := Ground.phase }, { on := 7, ground := Ground.phase }, { on := 8, ground := Ground.phase }, { on := 9, ground := Ground.phase }, { on := 10, ground := Ground.phase }, { on := 11, ground := Ground.phase }, { on := 12, ground := Ground.phase }, { on := 13, ground := Ground.phase }, { on := 14, ground := Ground.phase }], guard := none }) (d := 46) (v := ?_) rfl rfl (by kernel_rfl) (by kernel_rfl) (by kernel_rfl) (fun _ _ _ h => h) (Or.inl ⟨by rfl, ?_⟩) ?_
  rotate_left
  · (intro w' _; go_simp; (try with_reducible rfl))
  simp only [List.setIfInBounds_toArray, List.set_cons_zero, List.set_cons_succ]
  refine wpAnyD_last (D := 17) (by decide) (o := { dst := none, op := Op.store 3 (Operand.tmp 46) (Operand.tmp 42), type := 0, pos := "chain.go:74", after := #[{ on := 16, ground := Ground.data }, { on := 11, ground := Ground.data }, { on := 14, ground := Ground.chain }, { on := 0, ground := Ground.phase }, { on := 1, ground := Ground.phase }, { on := 2, ground := Ground.phase }, { on := 3, ground := Ground.phase }, { on := 4, ground := Ground.phase }, { on := 5, ground := Ground.phase }, { on := 6, ground := Ground.phase }, { on := 7, ground := Ground.phase }, { on := 8, ground := Ground.phase }, { on := 9, ground := Ground.phase }, { on := 10, ground := Ground.phase }, { on := 11, ground := Ground.phase }, { on := 12, ground := Ground.phase }, { on := 13, ground := Ground.phase }, { on := 14, ground := Ground.phase }], guard := none }) (by kernel_rfl) rfl (by rfl) (fun K hK => ?_)
  obtain ⟨⟨v0, c0⟩, z0⟩ := HL2.out.cellAt (i * 3 + 2) (by rw [List.length_modify, List.length_modify]; omega); go_simp; have HL3 := Lib.hid (HL2.out.set (N' := ((N.modify j (idN (-2))).modify i (idN r)).modify i (nextN (aftI k))) (by simp) (flat_next ((N.modify j (idN (-2))).modify i (idN r)) (aftI k) i (by rw [List.length_modify, List.length_modify]; exact hlt))); have HK3 := Lib.hid (HK2.out.setCell (p := ⟨g, i * 3 + 2, none⟩) (.inl (.inr rfl)) (.int .i64 (aftI k))); clear c0 z0; generalize W3.setCell ⟨g, i * 3 + 2, none⟩ (.int .i64 (aftI k)) = W4 at *
  refine hK.out _ _ ?_
  clear hK K
  try simp only [Act.put, List.setIfInBounds_toArray, List.set_cons_zero, List.set_cons_succ]
  refine wpAnyD_done (by kernel_rfl) ?_ _
  cases k with
  | none =>
    simp only [aftI] at *
    have HL4 : Hid (LinkIs W4 base cb tb qb (joinN N i j r none) bel steps (some ⟨g, 0, none⟩) c) := Lib.hid HL3.out
    have HK4 := HK3
    clear HL1 HL2 HL3 HK1 HK2 HK3
    go_upto_region 6 with fail
    have g4 := blk_cell HL4.out.blk 4
    have z4 := blk_froz HL4.out.blk 4
    simp only [List.getElem?_toArray, List.getElem?_cons_zero, List.getElem?_cons_succ] at g4
    have ws : IntKind.i64.wrap (steps + 1) = steps + 1 := IntWalk.i64_in _ (by omega)
    go_upto_region 7 with fail
    clear ws
    have HL5 := Lib.hid (HL4.out.set_steps (u := steps + 1))
    have HK5 := Lib.hid (HK4.out.setCell (p := ⟨cb, 4, none⟩) (.inl (.inl rfl)) (.int .i64 (steps + 1)))
    clear g4 z4
    generalize W4.setCell ⟨cb, 4, none⟩ (.int .i64 (steps + 1)) = W5 at *
    obtain ⟨hC, hB⟩ := HH.out.link HL5.out HK5.out
    have HC := Lib.hid hC
    have HB := Lib.hid hB
    clear hC hB
    have hlv := HLV.out
    obtain ⟨ki, e, hki⟩ := hlv.at_ L1 i r L2 rfl
    have e : i = ki := by omega
    subst e
    obtain ⟨g', e, a0, a1, a2⟩ := HL5.out.at i _ hki
    injection e with e
    injection e with e
    subst e
    have h1 := blk_cell HL5.out.blk 1
    simp only [List.getElem?_toArray, List.getElem?_cons_zero, List.getElem?_cons_succ] at h1 a1
    rw [joinN_len] at h1
    clear hki hlv a0 a2
    go_wp2_with fail
    refine (asks_ahead HC.out HLV.out (by omega) ht0 (by omega)).mono ?_
    rintro e W6 ⟨rfl, ⟨Aq6, cq6, h6⟩, hb6⟩
    have H6 := Lib.hid h6
    have HB6 := Lib.hid (HB.out.trans hb6)
    clear h6 hb6
    go_wp2_with fail
    refine (asks_live H6.out HLV.out HQL.out.1 HQL.out.2.1 HQL.out.2.2).mono ?_
    rintro e W7 ⟨rfl, ⟨Aq7, cq7, h7⟩, hb7⟩
    have H7 := Lib.hid h7
    have HB7 := Lib.hid (HB6.out.trans hb7)
    clear h7 hb7
    go_wp2_with fail
    go_end0
    exact ⟨rfl, ⟨Aq7, cq7, by rw [← HR.out]; exact H7.out⟩, HB7.out⟩
  | some m =>
    have hm := HK.out m rfl
    simp only [aftI] at *
    have q1 : ((m : Int) != -1) = true := by simp
    have p4 : (0 : Int) ≤ (m : Int) := by omega
    have p5 : (m : Int) < (N.length : Int) := by omega
    have h1 := blk_cell HL3.out.blk 1
    simp only [List.getElem?_toArray, List.getElem?_cons_zero, List.getElem?_cons_succ, List.length_modify] at h1
    obtain ⟨⟨v0, c0⟩, z0⟩ := HL3.out.cellAt (m * 3 + 1) (by rw [List.length_modify, List.length_modify, List.length_modify]; omega)
    go_upto_region 6 with fail
    have HL4 : Hid (LinkIs (W4.setCell ⟨g, m * 3 + 1, none⟩ (.int .i64 (i : Int))) base cb tb qb (joinN N i j r (some m)) bel steps (some ⟨g, 0, none⟩) c) := Lib.hid (HL3.out.set (by rw [joinN_len]; simp) (flat_ahead (((N.modify j (idN (-2))).modify i (idN r)).modify i (nextN (aftI (some m)))) (i : Int) m (by simp only [List.length_modify]; exact hm)))
    have HK4 := Lib.hid (HK3.out.setCell (p := ⟨g, m * 3 + 1, none⟩) (.inl (.inr rfl)) (.int .i64 (i : Int)))
    clear HL1 HL2 HL3 HK1 HK2 HK3 c0 z0 h1
    generalize W4.setCell ⟨g, m * 3 + 1, none⟩ (.int .i64 (i : Int)) = W4 at *
    go_upto_region 6 with fail
    have g4 := blk_cell HL4.out.blk 4
    have z4 := blk_froz HL4.out.blk 4
    simp only [List.getElem?_toArray, List.getElem?_cons_zero, List.getElem?_cons_succ] at g4
    have ws : IntKind.i64.wrap (steps + 1) = steps + 1 := IntWalk.i64_in _ (by omega)
    go_upto_region 7 with fail
    clear ws
    have HL5 := Lib.hid (HL4.out.set_steps (u := steps + 1))
    have HK5 := Lib.hid (HK4.out.setCell (p := ⟨cb, 4, none⟩) (.inl (.inl rfl)) (.int .i64 (steps + 1)))
    clear g4 z4
    generalize W4.setCell ⟨cb, 4, none⟩ (.int .i64 (steps + 1)) = W5 at *
    obtain ⟨hC, hB⟩ := HH.out.link HL5.out HK5.out
    have HC := Lib.hid hC
    have HB := Lib.hid hB
    clear hC hB
    have hlv := HLV.out
    obtain ⟨ki, e, hki⟩ := hlv.at_ L1 i r L2 rfl
    have e : i = ki := by omega
    subst e
    obtain ⟨g', e, a0, a1, a2⟩ := HL5.out.at i _ hki
    injection e with e
    injection e with e
    subst e
    have h1 := blk_cell HL5.out.blk 1
    simp only [List.getElem?_toArray, List.getElem?_cons_zero, List.getElem?_cons_succ] at h1 a1
    rw [joinN_len] at h1
    clear hki hlv a0 a2
    go_wp2_with fail
    refine (asks_ahead HC.out HLV.out (by omega) ht0 (by omega)).mono ?_
    rintro e W6 ⟨rfl, ⟨Aq6, cq6, h6⟩, hb6⟩
    have H6 := Lib.hid h6
    have HB6 := Lib.hid (HB.out.trans hb6)
    clear h6 hb6
    go_wp2_with fail
    refine (asks_live H6.out HLV.out HQL.out.1 HQL.out.2.1 HQL.out.2.2).mono ?_
    rintro e W7 ⟨rfl, ⟨Aq7, cq7, h7⟩, hb7⟩
    have H7 := Lib.hid h7
    have HB7 := Lib.hid (HB6.out.trans hb7)
    clear h7 hb7
    go_wp2_with fail
    go_end0
    exact ⟨rfl, ⟨Aq7, cq7, by rw [← HR.out]; exact H7.out⟩, HB7.out⟩
end
end Go.Proofs.Ytpkmcokkapfnmaa
