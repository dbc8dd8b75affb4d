/- Layer 5 (chain): begin. -/
import Derived.Test.YtpkmcokkapfnmaaChain9
import Derived.Test.YtpkmcokkapfnmaaChainA
namespace Go.Proofs.Ytpkmcokkapfnmaa
open Go.RowKit Go.Maps Go.WideMaps
set_option maxRecDepth 100000
set_option linter.unusedVariables false
set_option linter.unusedSimpArgs false

theorem byI_at (s : ByteArray) (k : Nat) (hk : k < s.size) : byI s.data.toList k = ((s[k]'hk).toNat : Int) := by
  have h2 : k < s.data.toList.length := by simpa using hk
  unfold byI
  rw [List.getD_eq_getElem?_getD, List.getElem?_eq_getElem h2]
  rfl
theorem dataLen (s : ByteArray) : s.data.toList.length = s.size := by rw [Array.length_toList]; rfl
section
variable {w w' : World} {tbase tb : Nat} {T : List Ent} {sv : Value} {mb mp : Nat}
structure CBegIs (w W : World) (tbase tb : Nat) (T : List Ent) (sv : Value) (mb mp cb : Nat) (N : List Node) (bel : Int) (A : Option Addr) (c : Nat) (Q : List (Th Wt)) (turn : Int) (Aq : Option Addr) (cq : Nat) : Prop where
  ch : ChainIs W w.heap.size tbase tb T sv mb mp cb w.heap.size N bel 0 A c Q turn Aq cq
  bl : Below w.heap.size w W
  ge : w.heap.size ≤ cb
theorem cbeg_app {W W1 : World} {cb : Nat} {N : List Node} {bel : Int} {A A1 : Option Addr} {c c1 : Nat} {x : Node} (h : CBegIs w W tbase tb T sv mb mp cb N bel A c [] 0 none 0)
    (hown : W1.ownsRow w.heap.size 107 3 (.slice A1 (N.length + 1) c1) (N.length + 1) (N.flatMap encN ++ encN x)) (hg : W.grownBy W1 (Value.slice A N.length c).ownBlock) :
    W1.heap[cb]? = some (.cells #[.pointer (some ⟨tb, 0, none⟩), .slice A N.length c, .pointer (some ⟨w.heap.size, 0, none⟩), .int .i64 bel, .int .i64 0] 78) ∧
    CBegIs w (W1.setCell ⟨cb, 1, none⟩ (.slice A1 (N.length + 1) c1)) tbase tb T sv mb mp cb (N ++ [x]) bel A1 c1 [] 0 none 0 := by
  have hk1 : Keep (fun g => (Value.slice A N.length c).ownBlock = some g) W W1 := Keep.of_grown hg (fun g hg => hg)
  have b1 := hk1.blk h.ch.lk.blk (row_ne h.ch.lk.row h.ch.lk.blk (by decide))
  have hk2 : Keep (fun g => g = cb ∨ A = some ⟨g, 0, none⟩) W (W1.setCell ⟨cb, 1, none⟩ (.slice A1 (N.length + 1) c1)) := (hk1.mono (fun g hg => .inr (hw.own_addr h.ch.lk.row g hg))).setCell (p := ⟨cb, 1, none⟩) (.inl (.inl rfl)) _
  have hl : LinkIs (W1.setCell ⟨cb, 1, none⟩ (.slice A1 (N.length + 1) c1)) w.heap.size cb tb w.heap.size (N ++ [x]) bel 0 A1 c1 := by
    refine ⟨?_, ?_, h.ch.lk.le⟩
    · rw [List.length_append]
      simpa using blk_set b1 1 (.slice A1 (N.length + 1) c1)
    · rw [List.length_append, List.flatMap_append]
      have := own_keep hown ((Keep.refl (fun x => x = cb) W1).setCell (p := ⟨cb, 1, none⟩) (.inl rfl) (.slice A1 (N.length + 1) c1)) (fun x hx e => row_ne hown b1 (by decide) (by rw [hx, e]))
      simpa using this
  obtain ⟨hC, hB⟩ := h.ch.link hl hk2
  exact ⟨b1, hC, h.bl.trans hB, h.ge⟩

set_option maxHeartbeats 4000000 in
theorem chain_begin (s : ByteArray) (bel : Int) (h : TabIs w tbase tb T sv mb mp) (hs : s.size ≤ 100000000) :
    Calls Try.prog 37 #[.pointer (some ⟨tb, 0, none⟩), .string s, .int .i64 bel] w fun e w' => ∃ cb A c Q turn Aq cq, e = .returned (.pointer (some ⟨cb, 0, none⟩)) ∧
      CBegIs w w' tbase tb T sv mb mp cb (begN s.data.toList) bel A c Q turn Aq cq ∧ BegS (pairB T bel) (begL s.data.toList) s.size s.size Q turn := by
  have HT := Lib.hid h
  clear h
  go_enter Try.func37, Try.ntmps37
  go_wp2_with fail
  refine (hw.new_any w).mono ?_
  rintro e w1 ⟨rfl, hq, hb⟩
  have hlt : w.heap.size < w1.heap.size := blk_lt hq.blk
  have hb2 := (Below.refl w1.heap.size w1).alloc (Nat.le_refl _) (.cells #[.pointer (some ⟨tb, 0, none⟩), .slice none 0 0, .pointer (some ⟨w.heap.size, 0, none⟩), .int .i64 bel, .int .i64 0] 78)
  have HS : Hid (CBegIs w (w1.alloc (.cells #[.pointer (some ⟨tb, 0, none⟩), .slice none 0 0, .pointer (some ⟨w.heap.size, 0, none⟩), .int .i64 bel, .int .i64 0] 78)) tbase tb T sv mb mp w1.heap.size [] bel none 0 [] 0 none 0) := Lib.hid (by
    refine ⟨⟨⟨?_, ?_, Nat.le_of_lt hlt⟩, hq.below hb2 (Nat.le_refl _), (HT.out.below hb (Nat.le_refl _)).below hb2 (Nat.le_refl _), ?_⟩, hb.trans (hb2.mono (Nat.le_of_lt hlt)), Nat.le_of_lt hlt⟩
    · simpa using blk_new w1 _
    · simpa using own_nil _ _ _ _
    · rintro x (rfl | e | rfl | rfl)
      · exact blk_lt HT.out.blk
      · exact hw.own_lt HT.out.row x e
      · exact HT.out.bys.lt
      · exact HT.out.prs.lt)
  clear hq hb hb2 hlt
  go_wp2_with fail
  generalize w1.heap.size = cb at *
  generalize w1.alloc (.cells #[.pointer (some ⟨tb, 0, none⟩), .slice none 0 0, .pointer (some ⟨w.heap.size, 0, none⟩), .int .i64 bel, .int .i64 0] 78) = W0 at *
  go_loopg [18] s.size (fun n u W => ∃ k A c, k + n = s.size ∧ u = .int .i64 ((k : Nat) : Int) ∧ CBegIs w W tbase tb T sv mb mp cb (rawN s.data.toList k) bel A c [] 0 none 0)
  case atStart => exact ⟨0, none, 0, by omega, rfl, HS.out⟩
  case round =>
    obtain ⟨k, A, c, hk, rfl, hW⟩ := hrel
    clear HS
    rename World => W
    have HW := Lib.hid hW
    have HK := Lib.hid hk
    clear hW
    by_cases hlt : k < s.size
    · have p0 : (0 : Int) ≤ (k : Int) := by omega
      have p1 : (k : Int) < (s.size : Int) := by omega
      have w1 : IntKind.i64.wrap ((k : Int) - 1) = (k : Int) - 1 := IntWalk.i64_in _ (by omega)
      have w2 : IntKind.i64.wrap ((k : Int) + 1) = (k : Int) + 1 := IntWalk.i64_in _ (by omega)
      have hgk : 0 < gk := by omega
      clear hk
      go_upto_region 5 with fail
      have h1 := blk_cell HW.out.ch.lk.blk 1
      simp only [List.getElem?_toArray, List.getElem?_cons_zero, List.getElem?_cons_succ, rawN_len] at h1
      have HBY := Lib.hid (byI_at s k hlt)
      have h8 : IntKind.i64.wrap ((s[k]'hlt).toNat : Int) = ((s[k]'hlt).toNat : Int) := by have := (s[k]'hlt).toNat_lt; exact IntWalk.i64_in _ (by omega)
      refine wp_region_D (Ds := [18]) (S := fun V => V.cell? ⟨cb, 1, none⟩ = some (.slice A k c)) (by kernel_rfl) (by exact h1) (fun hHeld => ?_)
      (have HBL := Lib.hid (show Below w.heap.size w W.drew from HW.out.bl.drew)); (replace HW : Hid (CBegIs w W.drew tbase tb T sv mb mp cb (rawN s.data.toList k) bel A c [] 0 none 0) := Lib.hid ⟨HW.out.ch.drew, HW.out.bl.drew, HW.out.ge⟩); clear h1; generalize W.drew = W1 at *
      refine wpAnyD_takeP (i := 0) (oi := { dst := some 21, op := Op.move (Operand.tmp 7), type := 72, pos := "chain.go:38", after := #[], guard := none }) (d := 21) (v := ?_) rfl rfl (by kernel_rfl) (by kernel_rfl) (by kernel_rfl) (fun _ _ _ h => h) (Or.inl ⟨by rfl, ?_⟩) ?_
      rotate_left
      · (intro w' _; go_simp; (try with_reducible rfl))
      simp only [List.setIfInBounds_toArray, List.set_cons_zero, List.set_cons_succ]
      refine wpAnyD_takeP (i := 1) (oi := { dst := some 22, op := Op.move (Operand.tmp 7), type := 72, pos := "chain.go:38", after := #[], guard := none }) (d := 22) (v := ?_) rfl rfl (by kernel_rfl) (by kernel_rfl) (by kernel_rfl) (fun _ _ _ h => h) (Or.inl ⟨by rfl, ?_⟩) ?_
      rotate_left
      · (intro w' _; go_simp; (try with_reducible rfl))
      simp only [List.setIfInBounds_toArray, List.set_cons_zero, List.set_cons_succ]
      refine wpAnyD_takeP (i := 2) (oi := { dst := some 23, op := Op.nilCheck (Operand.tmp 22), type := 0, pos := "chain.go:38", after := #[{ on := 1, ground := Ground.data }], guard := none }) (d := 23) (v := ?_) rfl rfl (by kernel_rfl) (by kernel_rfl) (by kernel_rfl) (fun _ _ _ h => h) (Or.inl ⟨by rfl, ?_⟩) ?_
      rotate_left
      · (intro w' _; go_simp; (try with_reducible rfl))
      simp only [List.setIfInBounds_toArray, List.set_cons_zero, List.set_cons_succ]
      refine wpAnyD_takeP (i := 3) (oi := { dst := some 24, op := Op.fieldAddr 78 (Operand.tmp 23) 1, type := 0, pos := "chain.go:38", after := #[{ on := 2, ground := Ground.data }], guard := none }) (d := 24) (v := ?_) rfl rfl (by kernel_rfl) (by kernel_rfl) (by kernel_rfl) (fun _ _ _ h => h) (Or.inl ⟨by rfl, ?_⟩) ?_
      rotate_left
      · (intro w' _; go_simp; (try with_reducible rfl))
      simp only [List.setIfInBounds_toArray, List.set_cons_zero, List.set_cons_succ]
      refine wpAnyD_takeP (i := 5) (oi := { dst := some 26, op := Op.move (Operand.tmp 1), type := 9, pos := "chain.go:38", after := #[], guard := none }) (d := 26) (v := ?_) rfl rfl (by kernel_rfl) (by kernel_rfl) (by kernel_rfl) (fun _ _ _ h => h) (Or.inl ⟨by rfl, ?_⟩) ?_
      rotate_left
      · (intro w' _; go_simp; (try with_reducible rfl))
      simp only [List.setIfInBounds_toArray, List.set_cons_zero, List.set_cons_succ]
      refine wpAnyD_takeP (i := 6) (oi := { dst := some 27, op := Op.move (Operand.tmp 8), type := 3, pos := "chain.go:38", after := #[], guard := none }) (d := 27) (v := ?_) rfl rfl (by kernel_rfl) (by kernel_rfl) (by kernel_rfl) (fun _ _ _ h => h) (Or.inl ⟨by rfl, ?_⟩) ?_
      rotate_left
      · (intro w' _; go_simp; (try with_reducible rfl))
      simp only [List.setIfInBounds_toArray, List.set_cons_zero, List.set_cons_succ]
      refine wpAnyD_takeP (i := 9) (oi := { dst := some 30, op := Op.move (Operand.tmp 8), type := 3, pos := "chain.go:38", after := #[], guard := none }) (d := 30) (v := ?_) rfl rfl (by kernel_rfl) (by kernel_rfl) (by kernel_rfl) (fun _ _ _ h => h) (Or.inl ⟨by rfl, ?_⟩) ?_
      rotate_left
      · (intro w' _; go_simp; (try with_reducible rfl))
      simp only [List.setIfInBounds_toArray, List.set_cons_zero, List.set_cons_succ]
      refine wpAnyD_takeP (i := 10) (oi := { dst := some 31, op := Op.binOp BinOp.sub 3 (Operand.tmp 30) (Operand.const (Value.int IntKind.i64 1)) 3, type := 3, pos := "chain.go:38", after := #[{ on := 9, ground := Ground.data }], guard := none }) (d := 31) (v := ?_) rfl rfl (by kernel_rfl) (by kernel_rfl) (by kernel_rfl) (fun _ _ _ h => h) (Or.inl ⟨by rfl, ?_⟩) ?_
      rotate_left
      · (intro w' _; go_simp; (try with_reducible rfl))
      simp only [List.setIfInBounds_toArray, List.set_cons_zero, List.set_cons_succ]
      refine wpAnyD_takeP (i := 11) (oi := { dst := some 32, op := Op.move (Operand.tmp 8), type := 3, pos := "chain.go:38", after := #[], guard := none }) (d := 32) (v := ?_) rfl rfl (by kernel_rfl) (by kernel_rfl) (by kernel_rfl) (fun _ _ _ h => h) (Or.inl ⟨by rfl, ?_⟩) ?_
      rotate_left
      · (intro w' _; go_simp; (try with_reducible rfl))
      simp only [List.setIfInBounds_toArray, List.set_cons_zero, List.set_cons_succ]
      refine wpAnyD_takeP (i := 12) (oi := { dst := some 33, op := Op.binOp BinOp.add 3 (Operand.tmp 32) (Operand.const (Value.int IntKind.i64 1)) 3, type := 3, pos := "chain.go:38", after := #[{ on := 11, ground := Ground.data }], guard := none }) (d := 33) (v := ?_) rfl rfl (by kernel_rfl) (by kernel_rfl) (by kernel_rfl) (fun _ _ _ h => h) (Or.inl ⟨by rfl, ?_⟩) ?_
      rotate_left
      · (intro w' _; go_simp; (try with_reducible rfl))
      simp only [List.setIfInBounds_toArray, List.set_cons_zero, List.set_cons_succ]
      refine wpAnyD_takeD (i := 4) (oi := { dst := some 25, op := Op.load 75 (Operand.tmp 24), type := 75, pos := "chain.go:38", after := #[{ on := 3, ground := Ground.data }], guard := none }) (d := 25) (v := ?_) rfl rfl (by kernel_rfl) (by kernel_rfl) (by kernel_rfl) (by kernel_rfl) (fun _ _ _ h => h) (Or.inl ⟨by rfl, ?_⟩) hHeld ?_
      rotate_left
      · (intro w' hSw; (try dsimp only at hSw); go_simp; (try with_reducible rfl))
      simp only [List.setIfInBounds_toArray, List.set_cons_zero, List.set_cons_succ]
      refine wpAnyD_takeD (i := 7) (oi := { dst := some 28, op := Op.index 9 (Operand.tmp 26) (Operand.tmp 27), type := 5, pos := "chain.go:38", after := #[{ on := 5, ground := Ground.data }, { on := 6, ground := Ground.data }], guard := none }) (d := 28) (v := ?_) rfl rfl (by kernel_rfl) (by kernel_rfl) (by kernel_rfl) (by kernel_rfl) (fun _ _ _ h => h) (Or.inl ⟨by rfl, ?_⟩) hHeld ?_
      rotate_left
      · (intro w' hSw; (try dsimp only at hSw); go_simp; (try with_reducible rfl))
      simp only [List.setIfInBounds_toArray, List.set_cons_zero, List.set_cons_succ]
      refine wpAnyD_takeD (i := 8) (oi := { dst := some 29, op := Op.convert 5 3 (Operand.tmp 28), type := 3, pos := "chain.go:38", after := #[{ on := 7, ground := Ground.data }], guard := none }) (d := 29) (v := ?_) rfl rfl (by kernel_rfl) (by kernel_rfl) (by kernel_rfl) (by kernel_rfl) (fun _ _ _ h => h) (Or.inl ⟨by rfl, ?_⟩) hHeld ?_
      rotate_left
      · (intro w' hSw; (try dsimp only at hSw); go_simp; (try with_reducible rfl))
      simp only [List.setIfInBounds_toArray, List.set_cons_zero, List.set_cons_succ]
      refine wpAnyD_takeP (i := 13) (oi := { dst := some 34, op := Op.build 107 #[(0, Operand.tmp 29), (1, Operand.tmp 31), (2, Operand.tmp 33)], type := 107, pos := "chain.go:38", after := #[{ on := 8, ground := Ground.data }, { on := 10, ground := Ground.data }, { on := 12, ground := Ground.data }], guard := none }) (d := 34) (v := ?_) rfl rfl (by kernel_rfl) (by kernel_rfl) (by kernel_rfl) (fun _ _ _ h => h) (Or.inl ⟨by rfl, ?_⟩) ?_
      rotate_left
      · (intro w' _; go_simp; (try with_reducible rfl))
      simp only [List.setIfInBounds_toArray, List.set_cons_zero, List.set_cons_succ]
      refine wpAnyD_one (i := 14) (o := { dst := some 35, op := Op.buildSlice 75 1 #[(0, Operand.tmp 34)], type := 75, pos := "chain.go:38", after := #[{ on := 13, ground := Ground.data }], guard := none }) (by kernel_rfl) rfl (by rfl) (fun K hK => ?_)
      go_simp; have hbl := (Below.refl W1.heap.size W1).alloc (Nat.le_refl _) (.cells #[.int .i64 ((s[k]'hlt).toNat : Int), .int .i64 ((k : Int) - 1), .int .i64 ((k : Int) + 1)] 107); have h := below_cell hbl (Nat.le_refl _) hHeld; clear hbl
      refine hK.out _ _ h (fun hHeld => ?_)
      clear hK K
      try simp only [Act.put, List.setIfInBounds_toArray, List.set_cons_zero, List.set_cons_succ]
      refine wpAnyD_one (i := 15) (o := { dst := some 36, op := Op.call { callee := Callee.builtin Builtin.append, args := #[Operand.tmp 25, Operand.tmp 35], argTypes := #[75, 75] }, type := 75, pos := "chain.go:38", after := #[{ on := 4, ground := Ground.data }, { on := 14, ground := Ground.data }], guard := none }) (by kernel_rfl) rfl (by rfl) (fun K hK => ?_)
      have hrow := HW.out.ch.lk.row; rw [rawN_len] at hrow; refine wp_app_one w.heap.size 75 107 (.agg #[.int .i64 0, .int .i64 0, .int .i64 0]) 3 24 [_, _, _] 1 _ _ rfl Try.underlying75 info_node rfl (by decide) _ _ _ rfl _ rfl rfl rfl (by intro u hu; simp at hu; rcases hu with rfl | rfl | rfl <;> rfl) hrow (by omega) (by omega) HW.out.bl.size ?_; intro v' W2 hown1 hg1 hnew; obtain ⟨A1, cA1, rfl⟩ := own_slice hown1; have hbeg := cbeg_app (x := (byI s.data.toList k, (k : Int) - 1, (k : Int) + 1)) HW.out (by rw [rawN_len]; unfold encN; rw [HBY.out]; exact hown1) (by rw [rawN_len]; exact hg1); have b1 := hbeg.1; have HNEW := Lib.hid hbeg.2; rw [rawN_len] at b1 HNEW; clear hown1 hg1 hnew hrow hbeg; have h := blk_cell b1 1
      refine hK.out _ _ h (fun hHeld => ?_)
      clear hK K
      try simp only [Act.put, List.setIfInBounds_toArray, List.set_cons_zero, List.set_cons_succ]
      refine wpAnyD_takeP (i := 16) (oi := { dst := some 37, op := Op.nilCheck (Operand.tmp 21), type := 0, pos := "chain.go:38", after := #[{ on := 0, ground := Ground.data }, { on := 0, ground := Ground.phase }, { on := 1, ground := Ground.phase }, { on := 2, ground := Ground.phase }, { on := 3, ground := Ground.phase }, { on := 4, ground := Ground.phase }, { on := 5, ground := Ground.phase }, { on := 6, ground := Ground.phase }, { on := 7, ground := Ground.phase }, { on := 8, ground := Ground.phase }, { on := 9, ground := Ground.phase }, { on := 10, ground := Ground.phase }, { on := 11, ground := Ground.phase }, { on := 12, ground := Ground.phase }, { on := 13, ground := Ground.phase }, { on := 14, ground := Ground.phase }, { on := 15, ground := Ground.phase }], guard := none }) (d := 37) (v := ?_) rfl rfl (by kernel_rfl) (by kernel_rfl) (by kernel_rfl) (fun _ _ _ h => h) (Or.inl ⟨by rfl, ?_⟩) ?_
      rotate_left
      · (intro w' _; go_simp; (try with_reducible rfl))
      simp only [List.setIfInBounds_toArray, List.set_cons_zero, List.set_cons_succ]
      refine wpAnyD_takeP (i := 17) (oi := { dst := some 38, op := Op.fieldAddr 78 (Operand.tmp 37) 1, type := 0, pos := "chain.go:38", after := #[{ on := 16, ground := Ground.data }, { on := 0, ground := Ground.phase }, { on := 1, ground := Ground.phase }, { on := 2, ground := Ground.phase }, { on := 3, ground := Ground.phase }, { on := 4, ground := Ground.phase }, { on := 5, ground := Ground.phase }, { on := 6, ground := Ground.phase }, { on := 7, ground := Ground.phase }, { on := 8, ground := Ground.phase }, { on := 9, ground := Ground.phase }, { on := 10, ground := Ground.phase }, { on := 11, ground := Ground.phase }, { on := 12, ground := Ground.phase }, { on := 13, ground := Ground.phase }, { on := 14, ground := Ground.phase }, { on := 15, ground := Ground.phase }], guard := none }) (d := 38) (v := ?_) rfl rfl (by kernel_rfl) (by kernel_rfl) (by kernel_rfl) (fun _ _ _ h => h) (Or.inl ⟨by rfl, ?_⟩) ?_
      rotate_left
      · (intro w' _; go_simp; (try with_reducible rfl))
      simp only [List.setIfInBounds_toArray, List.set_cons_zero, List.set_cons_succ]
      refine wpAnyD_last (D := 18) (by decide) (o := { dst := none, op := Op.store 75 (Operand.tmp 38) (Operand.tmp 36), type := 0, pos := "chain.go:38", after := #[{ on := 17, ground := Ground.data }, { on := 15, ground := Ground.data }, { on := 15, ground := Ground.chain }, { on := 0, ground := Ground.phase }, { on := 1, ground := Ground.phase }, { on := 2, ground := Ground.phase }, { on := 3, ground := Ground.phase }, { on := 4, ground := Ground.phase }, { on := 5, ground := Ground.phase }, { on := 6, ground := Ground.phase }, { on := 7, ground := Ground.phase }, { on := 8, ground := Ground.phase }, { on := 9, ground := Ground.phase }, { on := 10, ground := Ground.phase }, { on := 11, ground := Ground.phase }, { on := 12, ground := Ground.phase }, { on := 13, ground := Ground.phase }, { on := 14, ground := Ground.phase }, { on := 15, ground := Ground.phase }], guard := none }) (by kernel_rfl) rfl (by rfl) (fun K hK => ?_)
      have z0 := blk_froz b1 1; have c0 := hHeld; go_simp; clear z0 c0; rw [← rawN_succ] at HNEW; generalize W2.setCell ⟨cb, 1, none⟩ (.slice A1 (k + 1) cA1) = W3 at *
      refine hK.out _ _ ?_
      clear hK K
      try simp only [Act.put, List.setIfInBounds_toArray, List.set_cons_zero, List.set_cons_succ]
      refine wpAnyD_done (by kernel_rfl) ?_ _
      clear b1 h hHeld h8
      go_wp2_with fail
      go_roundg (gk - 1)
      case measure => omega
      case rel => exact ⟨k + 1, A1, cA1, by have := HK.out; omega, rfl, HNEW.out⟩
    · have hks : k = s.size := by omega
      subst hks
      clear hk HK hlt
      have h1 := blk_cell HW.out.ch.lk.blk 1
      simp only [List.getElem?_toArray, List.getElem?_cons_zero, List.getElem?_cons_succ, rawN_len] at h1
      by_cases hz : 0 < s.size
      · have pz : (0 : Int) < (s.size : Int) := by omega
        obtain ⟨m, hm⟩ : ∃ m, s.size - 1 = m := ⟨_, rfl⟩
        have wm : IntKind.i64.wrap ((s.size : Int) - 1) = (m : Int) := by rw [IntWalk.i64_in _ (by omega)]; omega
        have p0 : (0 : Int) ≤ (m : Int) := by omega
        have p1 : (m : Int) < (s.size : Int) := by omega
        have hml : m < (rawN s.data.toList s.size).length := by rw [rawN_len]; omega
        obtain ⟨g, hA, hcs⟩ := HW.out.ch.lk.at m _ (List.getElem?_eq_getElem hml)
        clear hcs
        subst hA
        obtain ⟨⟨v0, c0⟩, z0⟩ := HW.out.ch.lk.cellAt (m * 3 + 2) (by omega)
        have HB : Hid (CBegIs w (W.setCell ⟨g, m * 3 + 2, none⟩ (.int .i64 (-1))) tbase tb T sv mb mp cb (begN s.data.toList) bel (some ⟨g, 0, none⟩) c [] 0 none 0) := Lib.hid (by
          have hl := HW.out.ch.lk.set (N' := begN s.data.toList) (by rw [begN_len, rawN_len, dataLen]) (by
            have := flat_next (rawN s.data.toList s.size) (-1) m hml
            rw [← this, ← begN_raw _ (by rw [dataLen]; exact hz), dataLen, hm])
          obtain ⟨hC, hB⟩ := HW.out.ch.link hl ((Keep.refl _ _).setCell (p := ⟨g, m * 3 + 2, none⟩) (.inl (.inr rfl)) _)
          exact ⟨hC, HW.out.bl.trans hB, HW.out.ge⟩)
        clear hm hml
        go_upto_region 10 with fail
        clear h1 c0 z0 wm
        generalize W.setCell ⟨g, m * 3 + 2, none⟩ (.int .i64 (-1)) = W4 at *
        obtain ⟨A, hA⟩ : ∃ A, (some ⟨g, 0, none⟩ : Option Addr) = A := ⟨_, rfl⟩
        have HW := HB
        rw [hA] at HW
        clear HB
        have HA := Lib.hid hA
        clear hA
        have h1 := blk_cell HW.out.ch.lk.blk 1
        simp only [List.getElem?_toArray, List.getElem?_cons_zero, List.getElem?_cons_succ, begN_len, dataLen] at h1
        go_wp2_with fail
        clear h1
        go_loopg [60] s.size (fun n u W => ∃ k Q turn Aq cq, k + n = s.size ∧ u = .int .i64 ((k : Nat) : Int) ∧ CBegIs w W tbase tb T sv mb mp cb (begN s.data.toList) bel A c Q turn Aq cq ∧ BegS (pairB T bel) (begL s.data.toList) s.size k Q turn)
        case atStart => exact ⟨0, [], 0, none, 0, by omega, rfl, HW.out, BegS.start _ _ _⟩
        case round =>
          obtain ⟨k, Q, turn, Aq, cq, hk, rfl, hW2, hbg⟩ := hrel
          clear HW
          rename World => W2
          have HW2 := Lib.hid hW2
          have HBG := Lib.hid hbg
          have HK := Lib.hid hk
          clear hW2 hbg
          by_cases hlt : k < s.size
          · have p0 : (0 : Int) ≤ (k : Int) := by omega
            have p1 : (k : Int) < (s.size : Int) := by omega
            have w2 : IntKind.i64.wrap ((k : Int) + 1) = (k : Int) + 1 := IntWalk.i64_in _ (by omega)
            obtain ⟨p, q, hpq, hpl⟩ := begL_split s.data.toList (k := k) (by rw [dataLen]; exact hlt)
            have hlv := beg_lives s.data.toList
            rw [hpq] at hlv
            have HAS := Lib.hid (asks_live HW2.out.ch hlv (by have := HBG.out.size; omega) HBG.out.turn.1 (by have := HBG.out.turn.2; omega))
            have HB2 : Hid (BegS (pairB T bel) (begL s.data.toList) s.size (k + 1) (askQ (pairB T bel) Q turn k (byI s.data.toList k) q).1 (askQ (pairB T bel) Q turn k (byI s.data.toList k) q).2) := Lib.hid (by
              have hb := HBG.out
              rw [← hpl] at hb
              have hh := BegS.ask hb (p := p) (i := k) hpq hlt (byI_nn _ _).1
              rw [hpl] at hh
              exact hh)
            clear hpq hpl hlv hk
            go_wp2_with fail
            refine HAS.out.mono ?_
            rintro e W3 ⟨rfl, ⟨Aq3, cq3, h3⟩, hb3⟩
            have HN : Hid (CBegIs w W3 tbase tb T sv mb mp cb (begN s.data.toList) bel A c (askQ (pairB T bel) Q turn k (byI s.data.toList k) q).1 (askQ (pairB T bel) Q turn k (byI s.data.toList k) q).2 Aq3 cq3) := Lib.hid ⟨h3, HW2.out.bl.trans hb3, HW2.out.ge⟩
            clear h3 hb3 HAS
            go_wp2_with fail
            go_roundg (gk - 1)
            case measure => have := HK.out; omega
            case rel => exact ⟨k + 1, _, _, Aq3, cq3, by have := HK.out; omega, rfl, HN.out, HB2.out⟩
          · have hks : k = s.size := by omega
            subst hks
            clear hk HK
            go_wp2_with fail
            go_ret
            exact ⟨cb, A, c, Q, turn, Aq, cq, rfl, HW2.out, HBG.out⟩
      · have e0 : s.size = 0 := by omega
        have el : s.data.toList = [] := List.eq_nil_of_length_eq_zero (by rw [dataLen]; exact e0)
        replace HW : Hid (CBegIs w W tbase tb T sv mb mp cb (begN s.data.toList) bel A c [] 0 none 0) := Lib.hid (by
          have := HW.out
          rw [el, e0] at this
          rw [el]
          exact this)
        have pz : ¬ (0 : Int) < (s.size : Int) := by omega
        clear hz e0 el
        go_upto_region 10 with fail
        clear h1
        have hA : True := trivial
        have HA := Lib.hid hA
        clear hA
        have h1 := blk_cell HW.out.ch.lk.blk 1
        simp only [List.getElem?_toArray, List.getElem?_cons_zero, List.getElem?_cons_succ, begN_len, dataLen] at h1
        go_wp2_with fail
        clear h1
        go_loopg [60] s.size (fun n u W => ∃ k Q turn Aq cq, k + n = s.size ∧ u = .int .i64 ((k : Nat) : Int) ∧ CBegIs w W tbase tb T sv mb mp cb (begN s.data.toList) bel A c Q turn Aq cq ∧ BegS (pairB T bel) (begL s.data.toList) s.size k Q turn)
        case atStart => exact ⟨0, [], 0, none, 0, by omega, rfl, HW.out, BegS.start _ _ _⟩
        case round =>
          obtain ⟨k, Q, turn, Aq, cq, hk, rfl, hW2, hbg⟩ := hrel
          clear HW
          rename World => W2
          have HW2 := Lib.hid hW2
          have HBG := Lib.hid hbg
          have HK := Lib.hid hk
          clear hW2 hbg
          by_cases hlt : k < s.size
          · have p0 : (0 : Int) ≤ (k : Int) := by omega
            have p1 : (k : Int) < (s.size : Int) := by omega
            have w2 : IntKind.i64.wrap ((k : Int) + 1) = (k : Int) + 1 := IntWalk.i64_in _ (by omega)
            obtain ⟨p, q, hpq, hpl⟩ := begL_split s.data.toList (k := k) (by rw [dataLen]; exact hlt)
            have hlv := beg_lives s.data.toList
            rw [hpq] at hlv
            have HAS := Lib.hid (asks_live HW2.out.ch hlv (by have := HBG.out.size; omega) HBG.out.turn.1 (by have := HBG.out.turn.2; omega))
            have HB2 : Hid (BegS (pairB T bel) (begL s.data.toList) s.size (k + 1) (askQ (pairB T bel) Q turn k (byI s.data.toList k) q).1 (askQ (pairB T bel) Q turn k (byI s.data.toList k) q).2) := Lib.hid (by
              have hb := HBG.out
              rw [← hpl] at hb
              have hh := BegS.ask hb (p := p) (i := k) hpq hlt (byI_nn _ _).1
              rw [hpl] at hh
              exact hh)
            clear hpq hpl hlv hk
            go_wp2_with fail
            refine HAS.out.mono ?_
            rintro e W3 ⟨rfl, ⟨Aq3, cq3, h3⟩, hb3⟩
            have HN : Hid (CBegIs w W3 tbase tb T sv mb mp cb (begN s.data.toList) bel A c (askQ (pairB T bel) Q turn k (byI s.data.toList k) q).1 (askQ (pairB T bel) Q turn k (byI s.data.toList k) q).2 Aq3 cq3) := Lib.hid ⟨h3, HW2.out.bl.trans hb3, HW2.out.ge⟩
            clear h3 hb3 HAS
            go_wp2_with fail
            go_roundg (gk - 1)
            case measure => have := HK.out; omega
            case rel => exact ⟨k + 1, _, _, Aq3, cq3, by have := HK.out; omega, rfl, HN.out, HB2.out⟩
          · have hks : k = s.size := by omega
            subst hks
            clear hk HK
            go_wp2_with fail
            go_ret
            exact ⟨cb, A, c, Q, turn, Aq, cq, rfl, HW2.out, HBG.out⟩
end
end Go.Proofs.Ytpkmcokkapfnmaa
