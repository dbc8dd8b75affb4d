/- Layer 5 (chain): ChainEncodes. -/
import Derived.Test.YtpkmcokkapfnmaaChainI
import Derived.Test.YtpkmcokkapfnmaaOpen
namespace Go.Proofs.Ytpkmcokkapfnmaa
open Go.RowKit Go.Maps Go.WideMaps
set_option maxRecDepth 100000
set_option linter.unusedVariables false
set_option linter.unusedSimpArgs false

theorem below_drew1 (w : World) : Below w.heap.size w w.drew := ⟨rfl, rfl, rfl, Nat.le_refl _, fun _ _ => rfl⟩
set_option maxHeartbeats 8000000 in
theorem cenc_small (l : List Nat) (A : Option Addr) (c : Nat) (s : ByteArray) (bel : Int) (w : World) (hl : Sl1 w A (fun x : Nat => .int .u16 (x : Int)) l) (hsm : ∀ x ∈ l, x < 65536) (hlen : l.length ≤ 60) (hs : s.size ≤ 300) :
    Calls Try.prog 4 #[.slice A l.length c, .string s, .int .i64 bel] w (RetTrue w) := by
  have HL := Lib.hid hl
  have h1 : ¬ (60 : Int) < (l.length : Int) := by omega
  have h2 : ¬ (300 : Int) < (s.size : Int) := by omega
  clear hl
  go_enter Try.func4, Try.ntmps4
  go_wp2_with fail
  refine (awake5_any _).mono ?_
  rintro e w1 ⟨rfl, hb1⟩
  have HB1 := Lib.hid hb1
  replace HL := Lib.hid (HL.out.below hb1 (Nat.le_refl _))
  clear hb1
  go_wp2_with fail
  refine (table_any l A c w1 HL.out hsm hlen).mono ?_
  rintro e w2 ⟨T, tb, sv, mb, mp, A1, n1, c1, A2, n2, c2, rfl, hadds, hgt, hboth⟩
  clear hgt
  have HOK := Lib.hid hadds.1
  have hba := (Below.refl w2.heap.size w2).alloc (Nat.le_refl _) (.cells #[.slice A1 n1 c1, .slice A2 n2 c2] 28)
  have hb2 := HB1.out.trans (hboth.bl.mono HB1.out.size)
  have HB2 := Lib.hid (hb2.trans (hba.mono hb2.size))
  have HBO := Lib.hid (hboth.step hba)
  have HN := Lib.hid (blk_new w2 (.cells #[.slice A1 n1 c1, .slice A2 n2 c2] 28))
  clear hadds hba hb2 hboth
  go_upto_region 4 with fail
  generalize w2.alloc (.cells #[.slice A1 n1 c1, .slice A2 n2 c2] 28) = w3 at *
  generalize w2.heap.size = g8 at *
  go_wp2_with fail
  refine (encode_any HBO.out.tab HOK.out s (by omega)).mono ?_
  rintro e w4 ⟨⟨v, rfl, hv⟩, hb⟩
  obtain ⟨A3, c3, rfl, hs3⟩ := ints_sl hv
  have HS3 := Lib.hid hs3
  replace HB2 := Lib.hid (HB2.out.trans (hb.mono HB2.out.size))
  replace HBO := Lib.hid (HBO.out.step hb)
  replace HN := Lib.hid (blk_below hb (blk_lt HN.out) HN.out)
  have HLEN := Lib.hid (encT_len T T.length s)
  have wl : IntKind.i64.wrap ((s.size : Int) - ((encT T T.length s.data.toList).length : Int)) = (s.size : Int) - ((encT T T.length s.data.toList).length : Int) := by
    have := encT_len T T.length s
    exact IntWalk.i64_in _ (by omega)
  clear hv hb hs3
  go_upto_region 7 with fail
  have m0 := blk_cell HN.out 0
  have m1 := blk_cell HN.out 1
  simp only [List.getElem?_toArray, List.getElem?_cons_zero, List.getElem?_cons_succ] at m0 m1
  have HSC : Hid (∀ V, Below w4.heap.size w4 V → V.cell? ⟨g8, 0, none⟩ = some (.slice A1 n1 c1) ∧ V.cell? ⟨g8, 1, none⟩ = some (.slice A2 n2 c2)) := Lib.hid (fun V hV => ⟨below_cell hV (Nat.le_refl _) m0, below_cell hV (Nat.le_refl _) m1⟩)
  have HBB := Lib.hid (below_drew1 w4)
  clear m0 m1
  have HS300 := Lib.hid (show s.size ≤ 100000000 by omega)
  have HEN : Hid (∀ V, TabIs V w1.heap.size tb T sv mb mp → Calls Try.prog 16 #[.pointer (some ⟨tb, 0, none⟩), .string s, .int .i64 bel] V fun e w' => (∃ v, e = .returned v ∧ IntsIs w' V.heap.size v (encT T bel s.data.toList)) ∧ Below V.heap.size V w') := Lib.hid (fun V h => below_any h HOK.out s HS300.out bel)
  refine wp_region_D (Ds := []) (S := fun V => V.cell? ⟨g8, 0, none⟩ = some (.slice A1 n1 c1) ∧ V.cell? ⟨g8, 1, none⟩ = some (.slice A2 n2 c2)) (by kernel_rfl) (by exact HSC.out _ HBB.out) (fun hHeld => ?_)
  refine wpAnyD_takeP (i := 0) (oi := { dst := some 33, op := Op.move (Operand.tmp 9), type := 31, pos := "law.go:40", after := #[], guard := none }) (d := 33) (v := ?_) rfl rfl (by kernel_rfl) (by kernel_rfl) (by kernel_rfl) (fun _ _ _ h => h) (Or.inl ⟨by rfl, ?_⟩) ?_
  rotate_left
  · (intro w' _; go_simp; (try with_reducible rfl))
  simp only [List.setIfInBounds_toArray, List.set_cons_zero, List.set_cons_succ]
  refine wpAnyD_takeP (i := 2) (oi := { dst := some 35, op := Op.move (Operand.tmp 1), type := 9, pos := "law.go:40", after := #[], guard := none }) (d := 35) (v := ?_) rfl rfl (by kernel_rfl) (by kernel_rfl) (by kernel_rfl) (fun _ _ _ h => h) (Or.inl ⟨by rfl, ?_⟩) ?_
  rotate_left
  · (intro w' _; go_simp; (try with_reducible rfl))
  simp only [List.setIfInBounds_toArray, List.set_cons_zero, List.set_cons_succ]
  refine wpAnyD_takeD (i := 1) (oi := { dst := some 34, op := Op.load 28 (Operand.tmp 8), type := 28, pos := "law.go:40", after := #[], guard := none }) (d := 34) (v := ?_) rfl rfl (by kernel_rfl) (by kernel_rfl) (by kernel_rfl) (by kernel_rfl) (fun _ _ _ h => h) (Or.inl ⟨by rfl, ?_⟩) hHeld ?_
  rotate_left
  · (intro w' hSw; (try dsimp only at hSw); go_simp; (try with_reducible rfl))
  simp only [List.setIfInBounds_toArray, List.set_cons_zero, List.set_cons_succ]
  refine wpAnyD_one (i := 3) (o := { dst := some 36, op := Op.call { callee := Callee.value (Operand.func 15), args := #[Operand.tmp 34, Operand.tmp 35], argTypes := #[28, 9] }, type := 31, pos := "law.go:40", after := #[{ on := 1, ground := Ground.data }, { on := 2, ground := Ground.data }], guard := none }) (by kernel_rfl) rfl (by rfl) (fun K hK => ?_)
  go_simp; refine (rall_any (HBO.out.ref.below HBB.out (Nat.le_refl _)) HOK.out s HS300.out).mono ?_; rintro e V1 ⟨⟨v, rfl, hv⟩, hb⟩; obtain ⟨A4, c4, rfl, hs4⟩ := ints_sl hv; have HS4 := Lib.hid hs4; replace HBB := Lib.hid (HBB.out.trans (hb.mono HBB.out.size)); have h := HSC.out _ HBB.out; clear hv hb hs4; go_simp
  refine hK.out _ _ h (fun hHeld => ?_)
  clear hK K
  try simp only [Act.put, List.setIfInBounds_toArray, List.set_cons_zero, List.set_cons_succ]
  refine wpAnyD_one (i := 4) (o := { dst := some 37, op := Op.call { callee := Callee.value (Operand.func 14), args := #[Operand.tmp 33, Operand.tmp 36], argTypes := #[31, 31] }, type := 4, pos := "law.go:40", after := #[{ on := 0, ground := Ground.data }, { on := 3, ground := Ground.data }, { on := 3, ground := Ground.chain }], guard := none }) (by kernel_rfl) rfl (by rfl) (fun K hK => ?_)
  go_simp; refine (ints_same _ A3 A4 c3 c4 _ (HS3.out.below HBB.out (Nat.le_refl _)) HS4.out (by have := HLEN.out; omega)).mono ?_; rintro e V2 ⟨rfl, hb⟩; replace HBB := Lib.hid (HBB.out.trans (hb.mono HBB.out.size)); have h := HSC.out _ HBB.out; clear hb; go_simp
  refine hK.out _ _ h (fun hHeld => ?_)
  clear hK K
  try simp only [Act.put, List.setIfInBounds_toArray, List.set_cons_zero, List.set_cons_succ]
  refine wpAnyD_takeP (i := 5) (oi := { dst := some 38, op := Op.move (Operand.tmp 37), type := 4, pos := "law.go:40", after := #[{ on := 4, ground := Ground.data }, { on := 4, ground := Ground.chain }], guard := none }) (d := 38) (v := ?_) rfl rfl (by kernel_rfl) (by kernel_rfl) (by kernel_rfl) (fun _ _ _ h => h) (Or.inl ⟨by rfl, ?_⟩) ?_
  rotate_left
  · (intro w' _; go_simp; (try with_reducible rfl))
  simp only [List.setIfInBounds_toArray, List.set_cons_zero, List.set_cons_succ]
  refine wpAnyD_takeP (i := 6) (oi := { dst := some 39, op := Op.move (Operand.tmp 7), type := 24, pos := "law.go:40", after := #[{ on := 5, ground := Ground.guard }], guard := some (5, true) }) (d := 39) (v := ?_) rfl rfl (by kernel_rfl) (by kernel_rfl) (by kernel_rfl) (fun _ _ _ h => h) (Or.inl ⟨by rfl, ?_⟩) ?_
  rotate_left
  · (intro w' _; go_simp; (try with_reducible rfl))
  simp only [List.setIfInBounds_toArray, List.set_cons_zero, List.set_cons_succ]
  refine wpAnyD_takeP (i := 7) (oi := { dst := some 40, op := Op.move (Operand.tmp 1), type := 9, pos := "law.go:40", after := #[{ on := 5, ground := Ground.guard }], guard := some (5, true) }) (d := 40) (v := ?_) rfl rfl (by kernel_rfl) (by kernel_rfl) (by kernel_rfl) (fun _ _ _ h => h) (Or.inl ⟨by rfl, ?_⟩) ?_
  rotate_left
  · (intro w' _; go_simp; (try with_reducible rfl))
  simp only [List.setIfInBounds_toArray, List.set_cons_zero, List.set_cons_succ]
  refine wpAnyD_takeP (i := 8) (oi := { dst := some 41, op := Op.move (Operand.tmp 2), type := 3, pos := "law.go:40", after := #[{ on := 5, ground := Ground.guard }], guard := some (5, true) }) (d := 41) (v := ?_) rfl rfl (by kernel_rfl) (by kernel_rfl) (by kernel_rfl) (fun _ _ _ h => h) (Or.inl ⟨by rfl, ?_⟩) ?_
  rotate_left
  · (intro w' _; go_simp; (try with_reducible rfl))
  simp only [List.setIfInBounds_toArray, List.set_cons_zero, List.set_cons_succ]
  refine wpAnyD_takeP (i := 11) (oi := { dst := some 44, op := Op.move (Operand.tmp 1), type := 9, pos := "law.go:40", after := #[{ on := 5, ground := Ground.guard }], guard := some (5, true) }) (d := 44) (v := ?_) rfl rfl (by kernel_rfl) (by kernel_rfl) (by kernel_rfl) (fun _ _ _ h => h) (Or.inl ⟨by rfl, ?_⟩) ?_
  rotate_left
  · (intro w' _; go_simp; (try with_reducible rfl))
  simp only [List.setIfInBounds_toArray, List.set_cons_zero, List.set_cons_succ]
  refine wpAnyD_takeP (i := 12) (oi := { dst := some 45, op := Op.move (Operand.tmp 2), type := 3, pos := "law.go:40", after := #[{ on := 5, ground := Ground.guard }], guard := some (5, true) }) (d := 45) (v := ?_) rfl rfl (by kernel_rfl) (by kernel_rfl) (by kernel_rfl) (fun _ _ _ h => h) (Or.inl ⟨by rfl, ?_⟩) ?_
  rotate_left
  · (intro w' _; go_simp; (try with_reducible rfl))
  simp only [List.setIfInBounds_toArray, List.set_cons_zero, List.set_cons_succ]
  refine wpAnyD_takeD (i := 10) (oi := { dst := some 43, op := Op.load 28 (Operand.tmp 8), type := 28, pos := "law.go:40", after := #[{ on := 5, ground := Ground.guard }], guard := some (5, true) }) (d := 43) (v := ?_) rfl rfl (by kernel_rfl) (by kernel_rfl) (by kernel_rfl) (by kernel_rfl) (fun _ _ _ h => h) (Or.inl ⟨by rfl, ?_⟩) hHeld ?_
  rotate_left
  · (intro w' hSw; (try dsimp only at hSw); go_simp; (try with_reducible rfl))
  simp only [List.setIfInBounds_toArray, List.set_cons_zero, List.set_cons_succ]
  refine wpAnyD_one (i := 9) (o := { dst := some 42, op := Op.call { callee := Callee.value (Operand.func 16), args := #[Operand.tmp 39, Operand.tmp 40, Operand.tmp 41], argTypes := #[24, 9, 3] }, type := 31, pos := "law.go:40", after := #[{ on := 6, ground := Ground.data }, { on := 7, ground := Ground.data }, { on := 8, ground := Ground.data }, { on := 5, ground := Ground.chain }, { on := 5, ground := Ground.guard }], guard := some (5, true) }) (by kernel_rfl) rfl (by rfl) (fun K hK => ?_)
  go_simp; refine (HEN.out _ (HBO.out.tab.below HBB.out (Nat.le_refl _))).mono ?_; rintro e V3 ⟨⟨v, rfl, hv⟩, hb⟩; obtain ⟨A5, c5, rfl, hs5⟩ := ints_sl hv; have HS5 := Lib.hid hs5; replace HBB := Lib.hid (HBB.out.trans (hb.mono HBB.out.size)); have h := HSC.out _ HBB.out; clear hv hb hs5; go_simp
  refine hK.out _ _ h (fun hHeld => ?_)
  clear hK K
  try simp only [Act.put, List.setIfInBounds_toArray, List.set_cons_zero, List.set_cons_succ]
  refine wpAnyD_one (i := 13) (o := { dst := some 46, op := Op.call { callee := Callee.value (Operand.func 17), args := #[Operand.tmp 43, Operand.tmp 44, Operand.tmp 45], argTypes := #[28, 9, 3] }, type := 31, pos := "law.go:40", after := #[{ on := 10, ground := Ground.data }, { on := 11, ground := Ground.data }, { on := 12, ground := Ground.data }, { on := 9, ground := Ground.chain }, { on := 5, ground := Ground.guard }], guard := some (5, true) }) (by kernel_rfl) rfl (by rfl) (fun K hK => ?_)
  go_simp; refine (renc_any (HBO.out.ref.below HBB.out (Nat.le_refl _)) HOK.out s HS300.out bel).mono ?_; rintro e V4 ⟨⟨v, rfl, hv⟩, hb⟩; obtain ⟨A6, c6, rfl, hs6⟩ := ints_sl hv; have HS6 := Lib.hid hs6; replace HBB := Lib.hid (HBB.out.trans (hb.mono HBB.out.size)); replace HS5 := Lib.hid (HS5.out.below hb (Nat.le_refl _)); have h := HSC.out _ HBB.out; clear hv hb hs6; go_simp
  refine hK.out _ _ h (fun hHeld => ?_)
  clear hK K
  try simp only [Act.put, List.setIfInBounds_toArray, List.set_cons_zero, List.set_cons_succ]
  refine wpAnyD_one (i := 14) (o := { dst := some 47, op := Op.call { callee := Callee.value (Operand.func 14), args := #[Operand.tmp 42, Operand.tmp 46], argTypes := #[31, 31] }, type := 4, pos := "law.go:40", after := #[{ on := 9, ground := Ground.data }, { on := 13, ground := Ground.data }, { on := 13, ground := Ground.chain }, { on := 5, ground := Ground.guard }], guard := some (5, true) }) (by kernel_rfl) rfl (by rfl) (fun K hK => ?_)
  go_simp; refine (ints_same _ A5 A6 c5 c6 _ HS5.out HS6.out (by have := encT_len T bel s; omega)).mono ?_; rintro e V5 ⟨rfl, hb⟩; replace HBB := Lib.hid (HBB.out.trans (hb.mono HBB.out.size)); have h := HSC.out _ HBB.out; clear hb; go_simp
  refine hK.out _ _ h (fun hHeld => ?_)
  clear hK K
  try simp only [Act.put, List.setIfInBounds_toArray, List.set_cons_zero, List.set_cons_succ]
  refine wpAnyD_takeP (i := 15) (oi := { dst := some 48, op := Op.pick (Operand.tmp 38) (Operand.tmp 47) (Operand.const (Value.bool false)), type := 4, pos := "law.go:40", after := #[{ on := 5, ground := Ground.data }, { on := 14, ground := Ground.data }], guard := none }) (d := 48) (v := ?_) rfl rfl (by kernel_rfl) (by kernel_rfl) (by kernel_rfl) (fun _ _ _ h => h) (Or.inl ⟨by rfl, ?_⟩) ?_
  rotate_left
  · (intro w' _; go_simp; (try with_reducible rfl))
  simp only [List.setIfInBounds_toArray, List.set_cons_zero, List.set_cons_succ]
  refine wpAnyD_takeP (i := 16) (oi := { dst := some 49, op := Op.move (Operand.tmp 48), type := 4, pos := "law.go:40", after := #[{ on := 15, ground := Ground.data }, { on := 14, ground := Ground.chain }], guard := none }) (d := 49) (v := ?_) rfl rfl (by kernel_rfl) (by kernel_rfl) (by kernel_rfl) (fun _ _ _ h => h) (Or.inl ⟨by rfl, ?_⟩) ?_
  rotate_left
  · (intro w' _; go_simp; (try with_reducible rfl))
  simp only [List.setIfInBounds_toArray, List.set_cons_zero, List.set_cons_succ]
  refine wpAnyD_takeP (i := 17) (oi := { dst := some 50, op := Op.move (Operand.tmp 7), type := 24, pos := "law.go:40", after := #[{ on := 16, ground := Ground.guard }], guard := some (16, true) }) (d := 50) (v := ?_) rfl rfl (by kernel_rfl) (by kernel_rfl) (by kernel_rfl) (fun _ _ _ h => h) (Or.inl ⟨by rfl, ?_⟩) ?_
  rotate_left
  · (intro w' _; go_simp; (try with_reducible rfl))
  simp only [List.setIfInBounds_toArray, List.set_cons_zero, List.set_cons_succ]
  refine wpAnyD_takeP (i := 18) (oi := { dst := some 51, op := Op.move (Operand.tmp 1), type := 9, pos := "law.go:40", after := #[{ on := 16, ground := Ground.guard }], guard := some (16, true) }) (d := 51) (v := ?_) rfl rfl (by kernel_rfl) (by kernel_rfl) (by kernel_rfl) (fun _ _ _ h => h) (Or.inl ⟨by rfl, ?_⟩) ?_
  rotate_left
  · (intro w' _; go_simp; (try with_reducible rfl))
  simp only [List.setIfInBounds_toArray, List.set_cons_zero, List.set_cons_succ]
  refine wpAnyD_takeP (i := 20) (oi := { dst := some 53, op := Op.move (Operand.tmp 1), type := 9, pos := "law.go:40", after := #[{ on := 16, ground := Ground.guard }], guard := some (16, true) }) (d := 53) (v := ?_) rfl rfl (by kernel_rfl) (by kernel_rfl) (by kernel_rfl) (fun _ _ _ h => h) (Or.inl ⟨by rfl, ?_⟩) ?_
  rotate_left
  · (intro w' _; go_simp; (try with_reducible rfl))
  simp only [List.setIfInBounds_toArray, List.set_cons_zero, List.set_cons_succ]
  refine wpAnyD_takeP (i := 22) (oi := { dst := some 55, op := Op.move (Operand.tmp 9), type := 31, pos := "law.go:40", after := #[{ on := 16, ground := Ground.guard }], guard := some (16, true) }) (d := 55) (v := ?_) rfl rfl (by kernel_rfl) (by kernel_rfl) (by kernel_rfl) (fun _ _ _ h => h) (Or.inl ⟨by rfl, ?_⟩) ?_
  rotate_left
  · (intro w' _; go_simp; (try with_reducible rfl))
  simp only [List.setIfInBounds_toArray, List.set_cons_zero, List.set_cons_succ]
  refine wpAnyD_takeD (i := 21) (oi := { dst := some 54, op := Op.call { callee := Callee.builtin Builtin.len, args := #[Operand.tmp 53], argTypes := #[9] }, type := 3, pos := "law.go:40", after := #[{ on := 20, ground := Ground.data }, { on := 16, ground := Ground.guard }], guard := some (16, true) }) (d := 54) (v := ?_) rfl rfl (by kernel_rfl) (by kernel_rfl) (by kernel_rfl) (by kernel_rfl) (fun _ _ _ h => h) (Or.inl ⟨by rfl, ?_⟩) hHeld ?_
  rotate_left
  · (intro w' hSw; (try dsimp only at hSw); go_simp; (try with_reducible rfl))
  simp only [List.setIfInBounds_toArray, List.set_cons_zero, List.set_cons_succ]
  refine wpAnyD_takeD (i := 23) (oi := { dst := some 56, op := Op.call { callee := Callee.builtin Builtin.len, args := #[Operand.tmp 55], argTypes := #[31] }, type := 3, pos := "law.go:40", after := #[{ on := 22, ground := Ground.data }, { on := 16, ground := Ground.guard }], guard := some (16, true) }) (d := 56) (v := ?_) rfl rfl (by kernel_rfl) (by kernel_rfl) (by kernel_rfl) (by kernel_rfl) (fun _ _ _ h => h) (Or.inl ⟨by rfl, ?_⟩) hHeld ?_
  rotate_left
  · (intro w' hSw; (try dsimp only at hSw); go_simp; (try with_reducible rfl))
  simp only [List.setIfInBounds_toArray, List.set_cons_zero, List.set_cons_succ]
  refine wpAnyD_takeP (i := 24) (oi := { dst := some 57, op := Op.binOp BinOp.sub 3 (Operand.tmp 54) (Operand.tmp 56) 3, type := 3, pos := "law.go:40", after := #[{ on := 21, ground := Ground.data }, { on := 23, ground := Ground.data }, { on := 16, ground := Ground.guard }], guard := some (16, true) }) (d := 57) (v := ?_) rfl rfl (by kernel_rfl) (by kernel_rfl) (by kernel_rfl) (fun _ _ _ h => h) (Or.inl ⟨by rfl, ?_⟩) ?_
  rotate_left
  · (intro w' _; go_simp; (try with_reducible rfl))
  simp only [List.setIfInBounds_toArray, List.set_cons_zero, List.set_cons_succ]
  refine wpAnyD_one (i := 19) (o := { dst := some 52, op := Op.call { callee := Callee.value (Operand.func 18), args := #[Operand.tmp 50, Operand.tmp 51], argTypes := #[24, 9] }, type := 3, pos := "law.go:40", after := #[{ on := 17, ground := Ground.data }, { on := 18, ground := Ground.data }, { on := 16, ground := Ground.chain }, { on := 16, ground := Ground.guard }], guard := some (16, true) }) (by kernel_rfl) rfl (by rfl) (fun K hK => ?_)
  go_simp; refine (steps_any (HBO.out.tab.below HBB.out (Nat.le_refl _)) HOK.out s HS300.out).mono ?_; rintro e V6 ⟨rfl, hb⟩; replace HBB := Lib.hid (HBB.out.trans (hb.mono HBB.out.size)); have h := HSC.out _ HBB.out; clear hb; go_simp
  refine hK.out _ _ h (fun hHeld => ?_)
  clear hK K
  try simp only [Act.put, List.setIfInBounds_toArray, List.set_cons_zero, List.set_cons_succ]
  refine wpAnyD_takeP (i := 25) (oi := { dst := some 58, op := Op.binOp BinOp.eql 3 (Operand.tmp 52) (Operand.tmp 57) 3, type := 4, pos := "law.go:40", after := #[{ on := 19, ground := Ground.data }, { on := 24, ground := Ground.data }, { on := 16, ground := Ground.guard }], guard := some (16, true) }) (d := 58) (v := ?_) rfl rfl (by kernel_rfl) (by kernel_rfl) (by kernel_rfl) (fun _ _ _ h => h) (Or.inl ⟨by rfl, ?_⟩) ?_
  rotate_left
  · (intro w' _; go_simp; (try with_reducible rfl))
  simp only [List.setIfInBounds_toArray, List.set_cons_zero, List.set_cons_succ]
  refine wpAnyD_takeP (i := 26) (oi := { dst := some 59, op := Op.pick (Operand.tmp 49) (Operand.tmp 58) (Operand.const (Value.bool false)), type := 4, pos := "law.go:40", after := #[{ on := 16, ground := Ground.data }, { on := 25, ground := Ground.data }], guard := none }) (d := 59) (v := ?_) rfl rfl (by kernel_rfl) (by kernel_rfl) (by kernel_rfl) (fun _ _ _ h => h) (Or.inl ⟨by rfl, ?_⟩) ?_
  rotate_left
  · (intro w' _; go_simp; (try with_reducible rfl))
  simp only [List.setIfInBounds_toArray, List.set_cons_zero, List.set_cons_succ]
  refine wpAnyD_takeP (i := 27) (oi := { dst := some 6, op := Op.assign (Operand.tmp 59), type := 4, pos := "law.go:40", after := #[{ on := 26, ground := Ground.data }, { on := 19, ground := Ground.chain }, { on := 0, ground := Ground.phase }, { on := 1, ground := Ground.phase }, { on := 2, ground := Ground.phase }, { on := 3, ground := Ground.phase }, { on := 4, ground := Ground.phase }, { on := 5, ground := Ground.phase }, { on := 6, ground := Ground.phase }, { on := 7, ground := Ground.phase }, { on := 8, ground := Ground.phase }, { on := 9, ground := Ground.phase }, { on := 10, ground := Ground.phase }, { on := 11, ground := Ground.phase }, { on := 12, ground := Ground.phase }, { on := 13, ground := Ground.phase }, { on := 14, ground := Ground.phase }, { on := 15, ground := Ground.phase }, { on := 16, ground := Ground.phase }, { on := 17, ground := Ground.phase }, { on := 18, ground := Ground.phase }, { on := 19, ground := Ground.phase }, { on := 20, ground := Ground.phase }, { on := 21, ground := Ground.phase }, { on := 22, ground := Ground.phase }, { on := 23, ground := Ground.phase }, { on := 24, ground := Ground.phase }, { on := 25, ground := Ground.phase }, { on := 26, ground := Ground.phase }], guard := none }) (d := 6) (v := ?_) rfl rfl (by kernel_rfl) (by kernel_rfl) (by kernel_rfl) (fun _ _ _ h => h) (Or.inl ⟨by rfl, ?_⟩) ?_
  rotate_left
  · (intro w' _; go_simp; (try with_reducible rfl))
  simp only [List.setIfInBounds_toArray, List.set_cons_zero, List.set_cons_succ]
  refine wpAnyD_done (by kernel_rfl) ?_ _
  go_wp2_with fail
  go_ret
  exact ⟨by simp, HB2.out.trans (HBB.out.mono HB2.out.size)⟩
theorem cenc_law (xs : List Int) (A : Option Addr) (c : Nat) (s : ByteArray) (bel : Int) (w : World) (_ : xs.length ≤ c) (_ : c ≤ maxLen) (hw : ∀ y ∈ xs, (Lit.int .u16 y).wf = true) (hs : Sl1 w A (Value.int .u16) xs) (_ : s.size ≤ maxLen) (_ : (Lit.int .i64 bel).wf = true) :
    Calls Try.prog 4 #[.slice A xs.length c, .string s, .int .i64 bel] w (RetTrue w) := by
  by_cases h : xs.length ≤ 60
  · by_cases h3 : s.size ≤ 300
    · obtain ⟨l, e, h1, h2⟩ := nats_of hw hs
      rw [← e]
      exact cenc_small l A c s bel w h2 h1 (by omega) h3
    · have h1 : ¬ (60 : Int) < (xs.length : Int) := by omega
      have h2 : (300 : Int) < (s.size : Int) := by omega
      go_enter Try.func4, Try.ntmps4
      go_wp2_with fail
      refine (awake5_any _).mono ?_
      rintro e w1 ⟨rfl, hb1⟩
      go_wp2_with fail
      go_ret
      exact ⟨rfl, hb1⟩
  · have h1 : (60 : Int) < (xs.length : Int) := by omega
    go_enter Try.func4, Try.ntmps4
    go_wp2_with fail
    refine (awake5_any _).mono ?_
    rintro e w1 ⟨rfl, hb1⟩
    go_wp2_with fail
    go_ret
    exact ⟨rfl, hb1⟩
end Go.Proofs.Ytpkmcokkapfnmaa
