/- Layer 4 (token): Add, where it adds. -/
import Derived.Test.YtpkmcokkapfnmaaToken3
namespace Go.Proofs.Ytpkmcokkapfnmaa
open Go.RowKit Go.Maps Go.WideMaps
set_option maxRecDepth 100000
set_option linter.unusedVariables false
set_option linter.unusedSimpArgs false

section
variable {w : World} {base tb : Nat} {T : List Ent} {sv : Value} {mb mp : Nat}
set_option maxHeartbeats 2000000 in
theorem add_ok (a b : Int) (h : TabIs w base tb T sv mb mp) (hT : OkT T) (he : (addT T a b).2.1 = 0) (hbase : base ≤ w.heap.size) :
    Calls Try.prog 43 #[.pointer (some ⟨tb, 0, none⟩), .agg #[.int .i64 a, .int .i64 b]] w fun e w' => e = .returned (.tuple #[.int .i64 (addT T a b).1, .int .i64 0]) ∧ Added w w' base tb (addT T a b).2.2 sv mb mp := by
  have hb0 := (Below.refl w.heap.size w).alloc (Nat.le_refl _) (.cells #[.int .i64 a, .int .i64 b] 71)
  have HB := Lib.hid hb0
  have h0 := h.below hb0 (Nat.le_refl _)
  have bnew := blk_new w (.cells #[.int .i64 a, .int .i64 b] 71)
  have n0 := blk_cell bnew 0
  have n1 := blk_cell bnew 1
  simp only [List.getElem?_toArray, List.getElem?_cons_zero, List.getElem?_cons_succ] at n0 n1
  have HT := Lib.hid h0
  have HA := Lib.hid (has_tab a h0)
  have HE := Lib.hid he
  have HBASE := Lib.hid hbase
  have HNEW := Lib.hid bnew
  have HOK := Lib.hid hT
  clear h h0 bnew hb0 he hT hbase
  go_enter Try.func43, Try.ntmps43
  go_wp2_with fail
  generalize hW : w.alloc (.cells #[.int .i64 a, .int .i64 b] 71) = W at *
  clear hW
  refine HA.out.mono ?_
  rintro e w' ⟨rfl, rfl⟩
  clear HA
  cases ha : hasT T a with
  | false => exact absurd HE.out (by simp [addT, ha])
  | true =>
    have HA := Lib.hid ha
    have HC := Lib.hid (has_tab b HT.out)
    clear ha
    go_wp2_with fail
    refine HC.out.mono ?_
    rintro e w' ⟨rfl, rfl⟩
    clear HC
    cases hb : hasT T b with
    | false => exact absurd HE.out (by simp [addT, hb])
    | true =>
      have HAB := Lib.hid hb
      obtain ⟨k, rfl, hk, ek⟩ := hasT_at HA.out
      obtain ⟨l, rfl, hl, el⟩ := hasT_at hb
      obtain ⟨ba, o, c, rfl, g0, _, _⟩ := tab_at HT.out k hk
      obtain ⟨ba', o', c', e', g1, _, _⟩ := tab_at HT.out l hl
      cases e'
      have c0 := blk_cell HT.out.blk 0
      simp only [List.getElem?_toArray, List.getElem?_cons_zero] at c0
      have hX := HOK.out.len T[k] (List.getElem_mem hk)
      have hY := HOK.out.len T[l] (List.getElem_mem hl)
      have EK := Lib.hid ek
      have EL := Lib.hid el
      have HS := Lib.hid HOK.out.small
      obtain ⟨X, hXe⟩ : ∃ X, T[k].1 = X := ⟨_, rfl⟩
      obtain ⟨Y, hYe⟩ : ∃ Y, T[l].1 = Y := ⟨_, rfl⟩
      rw [hXe] at g0 hX
      rw [hYe] at g1 hY
      have HXE := Lib.hid hXe
      have HYE := Lib.hid hYe
      have hbig : (9223372036854775807 < (bs X).size + (bs Y).size) = False := by rw [eq_iff_iff, iff_false, bs_size, bs_size]; omega
      have HX := Lib.hid hX
      have HY := Lib.hid hY
      unfold strV at g0 g1
      have q0 : 0 ≤ (k : Int) := by omega
      have q1 : (k : Int) < (T.length : Int) := by omega
      have q2 : 0 ≤ (l : Int) := by omega
      have q3 : (l : Int) < (T.length : Int) := by omega
      rename_i j1 j2 j3 j4
      clear hb ek el hXe hYe hX hY j1 j2 j3 j4
      go_wp2_with fail
      go_quiet (fail)
      rw [bs_append]
      obtain ⟨z, hz⟩ : ∃ z, bs (X ++ Y) = z := ⟨_, rfl⟩
      have hzs : z.size = (X ++ Y).length := by rw [← hz, bs_size]
      have HZ := Lib.hid hz
      have HZS := Lib.hid hzs
      rw [hz]
      clear hz hbig g0 g1 q0 q1 q2 q3 hzs
      by_cases h64 : (64 : Int) < (z.size : Int)
      · exact absurd HE.out (by rw [addT_long HA.out HAB.out (by rw [EK.out, HXE.out]) (by rw [EL.out, HYE.out]) (by have := HZS.out; omega)]; simp)
      · by_cases h1000 : (1000 : Int) ≤ (T.length : Int)
        · exact absurd HE.out (by rw [addT_full HA.out HAB.out (by rw [EK.out, HXE.out]) (by rw [EL.out, HYE.out]) (by have := HZS.out; omega) (by omega)]; simp)
        · have hkz : strV (X ++ Y) = .string z := by unfold strV; rw [HZ.out]
          have hke := key_str (X ++ Y) (by have := HX.out; have := HY.out; rw [List.length_append]; unfold maxLen; omega)
          have c1 : (w'.drewN nq).cell? ⟨tb, 1, none⟩ = _ := blk_cell HT.out.blk 1
          simp only [List.getElem?_toArray, List.getElem?_cons_zero, List.getElem?_cons_succ] at c1
          cases hf : (findT T (X ++ Y)).isSome with
          | true => exact absurd HE.out (by rw [addT_twice HA.out HAB.out (by rw [EK.out, HXE.out]) (by rw [EL.out, HYE.out]) (by have := HZS.out; omega) (by omega) hf]; simp)
          | false =>
            have HADD := Lib.hid (addT_ok HA.out HAB.out (by rw [EK.out, HXE.out]) (by rw [EL.out, HYE.out]) (by have := HZS.out; omega) (by omega) hf)
            have HF := Lib.hid hf
            have HU := Lib.hid (HT.out.drewN nq)
            have HBU := Lib.hid (below_drewN HB.out nq)
            have HNU := Lib.hid (blk_drewN HNEW.out nq)
            have n0u : (w'.drewN nq).cell? ⟨w.heap.size, 0, none⟩ = _ := n0
            have n1u : (w'.drewN nq).cell? ⟨w.heap.size, 1, none⟩ = _ := n1
            have c0u : (w'.drewN nq).cell? ⟨tb, 0, none⟩ = _ := c0
            have HKE := Lib.hid hke
            have HKZ := Lib.hid hkz
            clear n0 n1 c0 HT HB HNEW
            go_upto_region 14 with (refine map_look 94 _ _ rfl rfl keyed_str Try.underlying94 Try.underlying3 (zero_int _) rfl HU.out.bys (X ++ Y) hkz.symm hke ?_)
            generalize hU : w'.drewN nq = U at *
            have c2u : U.cell? ⟨tb, 2, none⟩ = _ := blk_cell HU.out.blk 2
            simp only [List.getElem?_toArray, List.getElem?_cons_zero, List.getElem?_cons_succ] at c2u
            have HRT := Lib.hid (row_ne HU.out.row HU.out.blk (by decide))
            have HRR := Lib.hid (row_ne HU.out.row HNU.out (by decide))
            have HRB := Lib.hid (HU.out.bys.row_ne HU.out.row)
            have HRP := Lib.hid (HU.out.prs.row_ne HU.out.row)
            have HBT := Lib.hid (HU.out.bys.blk_ne HU.out.blk)
            have HPT := Lib.hid (HU.out.prs.blk_ne HU.out.blk)
            have HBR := Lib.hid (HU.out.bys.blk_ne HNU.out)
            have HPR := Lib.hid (HU.out.prs.blk_ne HNU.out)
            have hrt : w.heap.size ≠ tb := by
              intro e
              have h1 := HNU.out
              rw [e, HU.out.blk] at h1
              simp at h1
            have hown := own_drew HU.out.row
            have HGEN := Lib.hid (show base ≤ U.drew.heap.size from Nat.le_trans HBASE.out HBU.out.size)
            have HKU : Hid (Keep (fun _ => False) w U) := Lib.hid (Keep.of_below HBU.out)
            clear hU hke hkz hf
            have HOWN := Lib.hid hown
            have hs1000 := HS.out
            clear hown
            refine wp_region_G (D := 12) (S := fun V => V.cell? ⟨tb, 0, none⟩ = some (.slice (some ⟨ba, o, none⟩) T.length c) ∧ V.cell? ⟨w.heap.size, 0, none⟩ = some (.int .i64 (k : Int)) ∧ V.cell? ⟨w.heap.size, 1, none⟩ = some (.int .i64 (l : Int))) (by kernel_rfl) (by exact ⟨c0u, n0u, n1u⟩) (fun hHeld => ?_)
            refine wpAnyG_takeD (i := 0) (oi := { dst := some 69, op := Op.move (Operand.tmp 0), type := 24, pos := "token.go:121", after := #[], guard := none }) (d := 69) (v := ?_) rfl rfl (by kernel_rfl) (by kernel_rfl) (by kernel_rfl) (by kernel_rfl) (fun _ _ _ h => h) (Or.inl ⟨by rfl, ?_⟩) hHeld ?_
            rotate_left
            · (intro w' hSw; (try dsimp only at hSw); go_simp; (try with_reducible rfl))
            simp only [List.setIfInBounds_toArray, List.set_cons_zero, List.set_cons_succ]
            refine wpAnyG_takeD (i := 1) (oi := { dst := some 70, op := Op.move (Operand.tmp 0), type := 24, pos := "token.go:121", after := #[], guard := none }) (d := 70) (v := ?_) rfl rfl (by kernel_rfl) (by kernel_rfl) (by kernel_rfl) (by kernel_rfl) (fun _ _ _ h => h) (Or.inl ⟨by rfl, ?_⟩) hHeld ?_
            rotate_left
            · (intro w' hSw; (try dsimp only at hSw); go_simp; (try with_reducible rfl))
            simp only [List.setIfInBounds_toArray, List.set_cons_zero, List.set_cons_succ]
            refine wpAnyG_takeD (i := 2) (oi := { dst := some 71, op := Op.nilCheck (Operand.tmp 70), type := 0, pos := "token.go:121", after := #[{ on := 1, ground := Ground.data }], guard := none }) (d := 71) (v := ?_) rfl rfl (by kernel_rfl) (by kernel_rfl) (by kernel_rfl) (by kernel_rfl) (fun _ _ _ h => h) (Or.inl ⟨by rfl, ?_⟩) hHeld ?_
            rotate_left
            · (intro w' hSw; (try dsimp only at hSw); go_simp; (try with_reducible rfl))
            simp only [List.setIfInBounds_toArray, List.set_cons_zero, List.set_cons_succ]
            refine wpAnyG_takeD (i := 3) (oi := { dst := some 72, op := Op.fieldAddr 97 (Operand.tmp 71) 0, type := 0, pos := "token.go:121", after := #[{ on := 2, ground := Ground.data }], guard := none }) (d := 72) (v := ?_) rfl rfl (by kernel_rfl) (by kernel_rfl) (by kernel_rfl) (by kernel_rfl) (fun _ _ _ h => h) (Or.inl ⟨by rfl, ?_⟩) hHeld ?_
            rotate_left
            · (intro w' hSw; (try dsimp only at hSw); go_simp; (try with_reducible rfl))
            simp only [List.setIfInBounds_toArray, List.set_cons_zero, List.set_cons_succ]
            refine wpAnyG_takeD (i := 4) (oi := { dst := some 73, op := Op.load 90 (Operand.tmp 72), type := 90, pos := "token.go:121", after := #[{ on := 3, ground := Ground.data }], guard := none }) (d := 73) (v := ?_) rfl rfl (by kernel_rfl) (by kernel_rfl) (by kernel_rfl) (by kernel_rfl) (fun _ _ _ h => h) (Or.inl ⟨by rfl, ?_⟩) hHeld ?_
            rotate_left
            · (intro w' hSw; (try dsimp only at hSw); go_simp; (try with_reducible rfl))
            simp only [List.setIfInBounds_toArray, List.set_cons_zero, List.set_cons_succ]
            refine wpAnyG_takeD (i := 5) (oi := { dst := some 74, op := Op.move (Operand.tmp 6), type := 9, pos := "token.go:121", after := #[], guard := none }) (d := 74) (v := ?_) rfl rfl (by kernel_rfl) (by kernel_rfl) (by kernel_rfl) (by kernel_rfl) (fun _ _ _ h => h) (Or.inl ⟨by rfl, ?_⟩) hHeld ?_
            rotate_left
            · (intro w' hSw; (try dsimp only at hSw); go_simp; (try with_reducible rfl))
            simp only [List.setIfInBounds_toArray, List.set_cons_zero, List.set_cons_succ]
            refine wpAnyG_takeD (i := 6) (oi := { dst := some 75, op := Op.load 71 (Operand.tmp 3), type := 71, pos := "token.go:121", after := #[], guard := none }) (d := 75) (v := ?_) rfl rfl (by kernel_rfl) (by kernel_rfl) (by kernel_rfl) (by kernel_rfl) (fun _ _ _ h => h) (Or.inl ⟨by rfl, ?_⟩) hHeld ?_
            rotate_left
            · (intro w' hSw; (try dsimp only at hSw); go_simp; (try with_reducible rfl))
            simp only [List.setIfInBounds_toArray, List.set_cons_zero, List.set_cons_succ]
            refine wpAnyG_takeD (i := 7) (oi := { dst := some 76, op := Op.build 93 #[(0, Operand.tmp 74), (1, Operand.tmp 75)], type := 93, pos := "token.go:121", after := #[{ on := 5, ground := Ground.data }, { on := 6, ground := Ground.data }], guard := none }) (d := 76) (v := ?_) rfl rfl (by kernel_rfl) (by kernel_rfl) (by kernel_rfl) (by kernel_rfl) (fun _ _ _ h => h) (Or.inl ⟨by rfl, ?_⟩) hHeld ?_
            rotate_left
            · (intro w' hSw; (try dsimp only at hSw); go_simp; (try with_reducible rfl))
            simp only [List.setIfInBounds_toArray, List.set_cons_zero, List.set_cons_succ]
            refine wpAnyG_one (i := 8) (o := { dst := some 77, op := Op.buildSlice 90 1 #[(0, Operand.tmp 76)], type := 90, pos := "token.go:121", after := #[{ on := 7, ground := Ground.data }], guard := none }) (by kernel_rfl) rfl (by rfl) (fun K hK => ?_)
            go_simp; have hbl := (Below.refl U.drew.heap.size U.drew).alloc (Nat.le_refl _) (.cells #[.string z, .int .i64 (k : Int), .int .i64 (l : Int)] 93); have h := And.intro (below_cell hbl (Nat.le_refl _) hHeld.1) (And.intro (below_cell hbl (Nat.le_refl _) hHeld.2.1) (below_cell hbl (Nat.le_refl _) hHeld.2.2)); clear hbl
            refine hK.out _ _ h (fun hHeld => ?_)
            clear hK K
            try simp only [Act.put, List.setIfInBounds_toArray, List.set_cons_zero, List.set_cons_succ]
            refine wpAnyG_one (i := 9) (o := { dst := some 78, op := Op.call { callee := Callee.builtin Builtin.append, args := #[Operand.tmp 73, Operand.tmp 77], argTypes := #[90, 90] }, type := 90, pos := "token.go:121", after := #[{ on := 4, ground := Ground.data }, { on := 8, ground := Ground.data }], guard := none }) (by kernel_rfl) rfl (by rfl) (fun K hK => ?_)
            refine wp_app_one base 90 93 (.agg #[.string ⟨#[]⟩, .int .i64 0, .int .i64 0]) 3 32 [_, _, _] 1 _ _ rfl Try.underlying90 info_ent rfl (by decide) _ _ _ rfl _ rfl rfl rfl (by intro u hu; simp at hu; rcases hu with rfl | rfl | rfl <;> rfl) HOWN.out (by omega) (by omega) HGEN.out ?_; intro v' w1 hown1 hg1 hnew; obtain ⟨A1, cA1, rfl⟩ := own_slice hown1; have hk1 : Keep (fun g => (Value.slice (some ⟨ba, o, none⟩) T.length c).ownBlock = some g) U w1 := ((Keep.refl _ U).drew).trans (Keep.of_grown hg1 (fun g hg => hg)) (fun x hx => .inl hx); have b1 := hk1.blk HU.out.blk HRT.out; have r1 := hk1.blk HNU.out HRR.out; have h := And.intro (blk_cell b1 0) (And.intro (blk_cell r1 0) (blk_cell r1 1))
            refine hK.out _ _ h (fun hHeld => ?_)
            clear hK K
            try simp only [Act.put, List.setIfInBounds_toArray, List.set_cons_zero, List.set_cons_succ]
            refine wpAnyG_one (i := 10) (o := { dst := some 79, op := Op.nilCheck (Operand.tmp 69), type := 0, pos := "token.go:121", after := #[{ on := 0, ground := Ground.data }, { on := 0, ground := Ground.phase }, { on := 1, ground := Ground.phase }, { on := 2, ground := Ground.phase }, { on := 3, ground := Ground.phase }, { on := 4, ground := Ground.phase }, { on := 5, ground := Ground.phase }, { on := 6, ground := Ground.phase }, { on := 7, ground := Ground.phase }, { on := 8, ground := Ground.phase }, { on := 9, ground := Ground.phase }], guard := none }) (by kernel_rfl) rfl (by rfl) (fun K hK => ?_)
            go_simp
            refine hK.out _ _ hHeld (fun hHeld => ?_)
            clear hK K
            try simp only [Act.put, List.setIfInBounds_toArray, List.set_cons_zero, List.set_cons_succ]
            refine wpAnyG_takeD (i := 11) (oi := { dst := some 80, op := Op.fieldAddr 97 (Operand.tmp 79) 0, type := 0, pos := "token.go:121", after := #[{ on := 10, ground := Ground.data }, { on := 0, ground := Ground.phase }, { on := 1, ground := Ground.phase }, { on := 2, ground := Ground.phase }, { on := 3, ground := Ground.phase }, { on := 4, ground := Ground.phase }, { on := 5, ground := Ground.phase }, { on := 6, ground := Ground.phase }, { on := 7, ground := Ground.phase }, { on := 8, ground := Ground.phase }, { on := 9, ground := Ground.phase }], guard := none }) (d := 80) (v := ?_) rfl rfl (by kernel_rfl) (by kernel_rfl) (by kernel_rfl) (by kernel_rfl) (fun _ _ _ h => h) (Or.inl ⟨by rfl, ?_⟩) hHeld ?_
            rotate_left
            · (intro w' hSw; (try dsimp only at hSw); go_simp; (try with_reducible rfl))
            simp only [List.setIfInBounds_toArray, List.set_cons_zero, List.set_cons_succ]
            refine wpAnyG_last (o := { dst := none, op := Op.store 90 (Operand.tmp 80) (Operand.tmp 78), type := 0, pos := "token.go:121", after := #[{ on := 11, ground := Ground.data }, { on := 9, ground := Ground.data }, { on := 9, ground := Ground.chain }, { on := 0, ground := Ground.phase }, { on := 1, ground := Ground.phase }, { on := 2, ground := Ground.phase }, { on := 3, ground := Ground.phase }, { on := 4, ground := Ground.phase }, { on := 5, ground := Ground.phase }, { on := 6, ground := Ground.phase }, { on := 7, ground := Ground.phase }, { on := 8, ground := Ground.phase }, { on := 9, ground := Ground.phase }], guard := none }) (by kernel_rfl) rfl (by rfl) (fun K hK => ?_)
            have z0 := blk_froz b1 0; have c0 := hHeld.1; go_simp
            refine hK.out _ _ ?_
            clear hK K
            try simp only [Act.put, List.setIfInBounds_toArray, List.set_cons_zero, List.set_cons_succ]
            refine wpAnyG_done (by kernel_rfl) ?_ _
            have hF := HF.out
            have hfn : findT T (X ++ Y) = none := by
              cases hq : findT T (X ++ Y) with
              | none => rfl
              | some i => rw [hq] at hF; cases hF
            have HPN := Lib.hid (pairT_none HOK.out (a := (k : Int)) (b := (l : Int)) (by rw [EK.out, HXE.out, EL.out, HYE.out]; exact hfn) (by intro e; cases e))
            have K2 : Keep (fun g => g = tb) w1 (w1.setCell ⟨tb, 0, none⟩ (.slice A1 (T.length + 1) cA1)) := Keep.setCell (F := fun g => g = tb) (p := ⟨tb, 0, none⟩) (Keep.refl _ _) (Or.inl rfl) (.slice A1 (T.length + 1) cA1)
            have b2 := blk_set b1 0 (.slice A1 (T.length + 1) cA1)
            simp only [List.setIfInBounds_toArray, List.set_cons_zero] at b2
            have r2 := blk_far (p := ⟨tb, 0, none⟩) r1 hrt (.slice A1 (T.length + 1) cA1)
            have own2 := own_keep hown1 K2 (fun g hg e => row_ne hown1 b1 (by decide) (by rw [hg, e]))
            have bys2 := (HU.out.bys.keep hk1 HRB.out).keep K2 HBT.out
            have prs2 := (HU.out.prs.keep hk1 HRP.out).keep K2 HPT.out
            have KW2 : Keep (tabF tb (.slice (some ⟨ba, o, none⟩) T.length c) mb mp) w (w1.setCell ⟨tb, 0, none⟩ (.slice A1 (T.length + 1) cA1)) :=
              ((HKU.out.mono (fun x hx => hx.elim)).trans hk1 (fun x hx => .inl (.inr (.inl hx)))).trans K2 (fun x hx => .inl (.inl hx))
            have HNEW2 : Hid ((Value.slice A1 (T.length + 1) cA1).ownBlock = (Value.slice (some ⟨ba, o, none⟩) T.length c).ownBlock ∨ ∃ g, (Value.slice A1 (T.length + 1) cA1).ownBlock = some g ∧ w.heap.size ≤ g) :=
              Lib.hid (hnew.elim (fun e => .inl e) (fun ⟨g, e, hg⟩ => .inr ⟨g, e, Nat.le_trans HBU.out.size hg⟩))
            clear hHeld hF hnew hg1 hown1 z0 c0 c1 n0u n1u c0u c2u HOWN HGEN hs1000 b1 r1
            generalize w1.setCell ⟨tb, 0, none⟩ (.slice A1 (T.length + 1) cA1) = w2 at *
            have bys3 : MapOf Try.prog 9 3 strV w2.drew mb T.length (fun s => (findT T s).map Int.ofNat) := bys2.keep ((Keep.refl (fun _ => False) _).drew) (fun h => h)
            have prs3 : MapOf Try.prog 71 3 pairV w2.drew mp T.length (fun m => (pairT T m).map Int.ofNat) := prs2.keep ((Keep.refl (fun _ => False) _).drew) (fun h => h)
            have hlen := HS.out
            obtain ⟨st1, o1, o2, hE1, hS1, hM1⟩ := entry_new (t := 94) keyed_str Try.underlying94 Try.underlying3 zero_int strV_inj bys3 (by unfold maxLen; omega) (X ++ Y) HKE.out (by rw [hfn]; rfl) (T.length : Int) (wf_i64 (by omega) (by omega))
            rw [HKZ.out] at hE1
            have prs4 := prs3.keep (setBlock_keep (w := w2.drew) (b := mb) (o := o2)) (fun e => HU.out.ne e.symm)
            obtain ⟨st2, p1, p2, hE2, hS2, hM2⟩ := entry_new (t := 95) keyed_mrg Try.underlying95 Try.underlying3 zero_int pairV_inj prs4 (by unfold maxLen; omega) ((k : Int), (l : Int)) (key_mrg _ (wf_i64 (by omega) (by omega)) (wf_i64 (by omega) (by omega))) (by rw [HPN.out]; rfl) (T.length : Int) (wf_i64 (by omega) (by omega))
            have hmlt : mb < w2.drew.heap.size := bys3.lt
            have hplt : mp < (Go.ChangeMaps.setBlock w2.drew mb o2).heap.size := prs4.lt
            have d1 : w2.drew.heap[tb]? = _ := b2
            have e1 : w2.drew.heap[w.heap.size]? = _ := r2
            have d2 := (setBlock_keep (w := w2.drew) (b := mb) (o := o1)).blk d1 (fun e => HBT.out e.symm)
            have e2 := (setBlock_keep (w := w2.drew) (b := mb) (o := o1)).blk e1 (fun e => HBR.out e.symm)
            have d3 := (setBlock_keep (w := w2.drew) (b := mb) (o := o2)).blk d1 (fun e => HBT.out e.symm)
            have e3 := (setBlock_keep (w := w2.drew) (b := mb) (o := o2)).blk e1 (fun e => HBR.out e.symm)
            have d4 := (setBlock_keep (w := Go.ChangeMaps.setBlock w2.drew mb o2) (b := mp) (o := p1)).blk d3 (fun e => HPT.out e.symm)
            have e4 := (setBlock_keep (w := Go.ChangeMaps.setBlock w2.drew mb o2) (b := mp) (o := p1)).blk e3 (fun e => HPR.out e.symm)
            have d5 := (setBlock_keep (w := Go.ChangeMaps.setBlock w2.drew mb o2) (b := mp) (o := p2)).blk d3 (fun e => HPT.out e.symm)
            have e5 := (setBlock_keep (w := Go.ChangeMaps.setBlock w2.drew mb o2) (b := mp) (o := p2)).blk e3 (fun e => HPR.out e.symm)
            have D1 := Lib.hid d1
            have D2 := Lib.hid d2
            have D3 := Lib.hid d3
            have D4 := Lib.hid d4
            have D5 := Lib.hid d5
            have E1 := Lib.hid e1
            have E2 := Lib.hid e2
            have E3 := Lib.hid e3
            have E4 := Lib.hid e4
            have E5 := Lib.hid e5
            have RE1 := Lib.hid hE1
            have RS1 := Lib.hid (hS1 _ (setBlock_at hmlt))
            have RE2 := Lib.hid hE2
            have RS2 := Lib.hid (hS2 _ (setBlock_at hplt))
            have HM1 := Lib.hid hM1
            have HM2 := Lib.hid hM2
            have HOWN2 := Lib.hid own2
            have HBYS2 := Lib.hid bys2
            have HPRS2 := Lib.hid prs2
            have HKW2 := Lib.hid KW2
            have HB2 := Lib.hid b2
            have HR2 := Lib.hid r2
            have HHK1 := Lib.hid hk1
            clear d1 d2 d3 d4 d5 e1 e2 e3 e4 e5 hE1 hS1 hE2 hS2 hM1 hM2 own2 KW2 b2 r2 hk1 K2 bys2 prs2 bys3 prs3 prs4 hmlt hplt h
            have HFN := Lib.hid hfn
            clear hfn
            go_upto_region 15 with fail
            refine wp_region_G (D := 17) (S := fun V => V.cell? ⟨tb, 1, none⟩ = some (.map (some mb)) ∧ V.cell? ⟨tb, 2, none⟩ = some (.map (some mp)) ∧ V.cell? ⟨w.heap.size, 0, none⟩ = some (.int .i64 (k : Int)) ∧ V.cell? ⟨w.heap.size, 1, none⟩ = some (.int .i64 (l : Int))) (by kernel_rfl) (by exact ⟨blk_cell D1.out 1, blk_cell D1.out 2, blk_cell E1.out 0, blk_cell E1.out 1⟩) (fun hHeld => ?_)
            refine wpAnyG_takeD (i := 0) (oi := { dst := some 81, op := Op.move (Operand.tmp 0), type := 24, pos := "token.go:122", after := #[], guard := none }) (d := 81) (v := ?_) rfl rfl (by kernel_rfl) (by kernel_rfl) (by kernel_rfl) (by kernel_rfl) (fun _ _ _ h => h) (Or.inl ⟨by rfl, ?_⟩) hHeld ?_
            rotate_left
            · (intro w' hSw; (try dsimp only at hSw); go_simp; (try with_reducible rfl))
            simp only [List.setIfInBounds_toArray, List.set_cons_zero, List.set_cons_succ]
            refine wpAnyG_takeD (i := 1) (oi := { dst := some 82, op := Op.nilCheck (Operand.tmp 81), type := 0, pos := "token.go:122", after := #[{ on := 0, ground := Ground.data }], guard := none }) (d := 82) (v := ?_) rfl rfl (by kernel_rfl) (by kernel_rfl) (by kernel_rfl) (by kernel_rfl) (fun _ _ _ h => h) (Or.inl ⟨by rfl, ?_⟩) hHeld ?_
            rotate_left
            · (intro w' hSw; (try dsimp only at hSw); go_simp; (try with_reducible rfl))
            simp only [List.setIfInBounds_toArray, List.set_cons_zero, List.set_cons_succ]
            refine wpAnyG_takeD (i := 2) (oi := { dst := some 83, op := Op.fieldAddr 97 (Operand.tmp 82) 1, type := 0, pos := "token.go:122", after := #[{ on := 1, ground := Ground.data }], guard := none }) (d := 83) (v := ?_) rfl rfl (by kernel_rfl) (by kernel_rfl) (by kernel_rfl) (by kernel_rfl) (fun _ _ _ h => h) (Or.inl ⟨by rfl, ?_⟩) hHeld ?_
            rotate_left
            · (intro w' hSw; (try dsimp only at hSw); go_simp; (try with_reducible rfl))
            simp only [List.setIfInBounds_toArray, List.set_cons_zero, List.set_cons_succ]
            refine wpAnyG_takeD (i := 3) (oi := { dst := some 84, op := Op.load 94 (Operand.tmp 83), type := 94, pos := "token.go:122", after := #[{ on := 2, ground := Ground.data }], guard := none }) (d := 84) (v := ?_) rfl rfl (by kernel_rfl) (by kernel_rfl) (by kernel_rfl) (by kernel_rfl) (fun _ _ _ h => h) (Or.inl ⟨by rfl, ?_⟩) hHeld ?_
            rotate_left
            · (intro w' hSw; (try dsimp only at hSw); go_simp; (try with_reducible rfl))
            simp only [List.setIfInBounds_toArray, List.set_cons_zero, List.set_cons_succ]
            refine wpAnyG_takeD (i := 4) (oi := { dst := some 85, op := Op.move (Operand.tmp 6), type := 9, pos := "token.go:122", after := #[], guard := none }) (d := 85) (v := ?_) rfl rfl (by kernel_rfl) (by kernel_rfl) (by kernel_rfl) (by kernel_rfl) (fun _ _ _ h => h) (Or.inl ⟨by rfl, ?_⟩) hHeld ?_
            rotate_left
            · (intro w' hSw; (try dsimp only at hSw); go_simp; (try with_reducible rfl))
            simp only [List.setIfInBounds_toArray, List.set_cons_zero, List.set_cons_succ]
            refine wpAnyG_takeD (i := 5) (oi := { dst := some 86, op := Op.move (Operand.tmp 0), type := 24, pos := "token.go:122", after := #[], guard := none }) (d := 86) (v := ?_) rfl rfl (by kernel_rfl) (by kernel_rfl) (by kernel_rfl) (by kernel_rfl) (fun _ _ _ h => h) (Or.inl ⟨by rfl, ?_⟩) hHeld ?_
            rotate_left
            · (intro w' hSw; (try dsimp only at hSw); go_simp; (try with_reducible rfl))
            simp only [List.setIfInBounds_toArray, List.set_cons_zero, List.set_cons_succ]
            refine wpAnyG_takeD (i := 6) (oi := { dst := some 87, op := Op.nilCheck (Operand.tmp 86), type := 0, pos := "token.go:122", after := #[{ on := 5, ground := Ground.data }], guard := none }) (d := 87) (v := ?_) rfl rfl (by kernel_rfl) (by kernel_rfl) (by kernel_rfl) (by kernel_rfl) (fun _ _ _ h => h) (Or.inl ⟨by rfl, ?_⟩) hHeld ?_
            rotate_left
            · (intro w' hSw; (try dsimp only at hSw); go_simp; (try with_reducible rfl))
            simp only [List.setIfInBounds_toArray, List.set_cons_zero, List.set_cons_succ]
            refine wpAnyG_takeD (i := 7) (oi := { dst := some 88, op := Op.fieldAddr 97 (Operand.tmp 87) 2, type := 0, pos := "token.go:122", after := #[{ on := 6, ground := Ground.data }], guard := none }) (d := 88) (v := ?_) rfl rfl (by kernel_rfl) (by kernel_rfl) (by kernel_rfl) (by kernel_rfl) (fun _ _ _ h => h) (Or.inl ⟨by rfl, ?_⟩) hHeld ?_
            rotate_left
            · (intro w' hSw; (try dsimp only at hSw); go_simp; (try with_reducible rfl))
            simp only [List.setIfInBounds_toArray, List.set_cons_zero, List.set_cons_succ]
            refine wpAnyG_takeD (i := 8) (oi := { dst := some 89, op := Op.load 95 (Operand.tmp 88), type := 95, pos := "token.go:122", after := #[{ on := 7, ground := Ground.data }], guard := none }) (d := 89) (v := ?_) rfl rfl (by kernel_rfl) (by kernel_rfl) (by kernel_rfl) (by kernel_rfl) (fun _ _ _ h => h) (Or.inl ⟨by rfl, ?_⟩) hHeld ?_
            rotate_left
            · (intro w' hSw; (try dsimp only at hSw); go_simp; (try with_reducible rfl))
            simp only [List.setIfInBounds_toArray, List.set_cons_zero, List.set_cons_succ]
            refine wpAnyG_takeD (i := 9) (oi := { dst := some 90, op := Op.load 71 (Operand.tmp 3), type := 71, pos := "token.go:122", after := #[], guard := none }) (d := 90) (v := ?_) rfl rfl (by kernel_rfl) (by kernel_rfl) (by kernel_rfl) (by kernel_rfl) (fun _ _ _ h => h) (Or.inl ⟨by rfl, ?_⟩) hHeld ?_
            rotate_left
            · (intro w' hSw; (try dsimp only at hSw); go_simp; (try with_reducible rfl))
            simp only [List.setIfInBounds_toArray, List.set_cons_zero, List.set_cons_succ]
            refine wpAnyG_takeD (i := 10) (oi := { dst := some 91, op := Op.move (Operand.tmp 9), type := 3, pos := "token.go:122", after := #[{ on := 12, ground := Ground.gcOnly Departure.tupleMapEntryFirst }], guard := none }) (d := 91) (v := ?_) rfl rfl (by kernel_rfl) (by kernel_rfl) (by kernel_rfl) (by kernel_rfl) (fun _ _ _ h => h) (Or.inl ⟨by rfl, ?_⟩) hHeld ?_
            rotate_left
            · (intro w' hSw; (try dsimp only at hSw); go_simp; (try with_reducible rfl))
            simp only [List.setIfInBounds_toArray, List.set_cons_zero, List.set_cons_succ]
            refine wpAnyG_takeD (i := 11) (oi := { dst := some 92, op := Op.move (Operand.tmp 9), type := 3, pos := "token.go:122", after := #[{ on := 14, ground := Ground.gcOnly Departure.lateStores }, { on := 15, ground := Ground.gcOnly Departure.tupleMapEntryFirst }], guard := none }) (d := 92) (v := ?_) rfl rfl (by kernel_rfl) (by kernel_rfl) (by kernel_rfl) (by kernel_rfl) (fun _ _ _ h => h) (Or.inl ⟨by rfl, ?_⟩) hHeld ?_
            rotate_left
            · (intro w' hSw; (try dsimp only at hSw); go_simp; (try with_reducible rfl))
            simp only [List.setIfInBounds_toArray, List.set_cons_zero, List.set_cons_succ]
            refine wpAnyG_one (i := 12) (o := { dst := some 93, op := Op.mapEntry 94 (Operand.tmp 84) (Operand.tmp 85), type := 0, pos := "token.go:122", after := #[{ on := 3, ground := Ground.data }, { on := 4, ground := Ground.data }, { on := 0, ground := Ground.textOnly Departure.tupleMapEntryFirst }, { on := 1, ground := Ground.textOnly Departure.tupleMapEntryFirst }, { on := 2, ground := Ground.textOnly Departure.tupleMapEntryFirst }, { on := 3, ground := Ground.textOnly Departure.tupleMapEntryFirst }, { on := 4, ground := Ground.textOnly Departure.tupleMapEntryFirst }, { on := 5, ground := Ground.textOnly Departure.lateStores }, { on := 6, ground := Ground.textOnly Departure.lateStoresUnsure }, { on := 7, ground := Ground.textOnly Departure.lateStoresUnsure }, { on := 8, ground := Ground.phase }, { on := 9, ground := Ground.textOnly Departure.lateStoresUnsure }, { on := 10, ground := Ground.textOnly Departure.tupleMapEntryFirst }, { on := 11, ground := Ground.textOnly Departure.lateStores }], guard := none }) (by kernel_rfl) rfl (by rfl) (fun K hK => ?_)
            refine wp_mapEntry 94 _ _ _ _ rfl rfl rfl RE1.out ?_; have h := And.intro (blk_cell D2.out 1) (And.intro (blk_cell D2.out 2) (And.intro (blk_cell E2.out 0) (blk_cell E2.out 1)))
            refine hK.out _ _ h (fun hHeld => ?_)
            clear hK K
            try simp only [Act.put, List.setIfInBounds_toArray, List.set_cons_zero, List.set_cons_succ]
            refine wpAnyG_takeD (i := 13) (oi := { dst := some 94, op := Op.extract (Operand.tmp 93) 1, type := 3, pos := "token.go:122", after := #[{ on := 12, ground := Ground.data }], guard := none }) (d := 94) (v := ?_) rfl rfl (by kernel_rfl) (by kernel_rfl) (by kernel_rfl) (by kernel_rfl) (fun _ _ _ h => h) (Or.inl ⟨by rfl, ?_⟩) hHeld ?_
            rotate_left
            · (intro w' hSw; (try dsimp only at hSw); go_simp; (try with_reducible rfl))
            simp only [List.setIfInBounds_toArray, List.set_cons_zero, List.set_cons_succ]
            refine wpAnyG_one (i := 14) (o := { dst := none, op := Op.entryStore 94 (Operand.tmp 84) (Operand.tmp 94) (Operand.tmp 91), type := 0, pos := "token.go:122", after := #[{ on := 3, ground := Ground.data }, { on := 13, ground := Ground.data }, { on := 10, ground := Ground.data }, { on := 12, ground := Ground.chain }, { on := 0, ground := Ground.phase }, { on := 1, ground := Ground.phase }, { on := 2, ground := Ground.phase }, { on := 3, ground := Ground.phase }, { on := 4, ground := Ground.phase }, { on := 5, ground := Ground.textOnly Departure.lateStores }, { on := 6, ground := Ground.textOnly Departure.lateStoresUnsure }, { on := 7, ground := Ground.textOnly Departure.lateStoresUnsure }, { on := 8, ground := Ground.phase }, { on := 9, ground := Ground.textOnly Departure.lateStoresUnsure }, { on := 10, ground := Ground.phase }, { on := 11, ground := Ground.textOnly Departure.lateStores }, { on := 12, ground := Ground.phase }], guard := none }) (by kernel_rfl) rfl (by rfl) (fun K hK => ?_)
            refine wp_entryStore 94 _ _ _ _ _ _ rfl rfl rfl rfl RS1.out ?_; rw [setBlock_twice]; have h := And.intro (blk_cell D3.out 1) (And.intro (blk_cell D3.out 2) (And.intro (blk_cell E3.out 0) (blk_cell E3.out 1)))
            refine hK.out _ _ h (fun hHeld => ?_)
            clear hK K
            try simp only [Act.put, List.setIfInBounds_toArray, List.set_cons_zero, List.set_cons_succ]
            refine wpAnyG_one (i := 15) (o := { dst := some 95, op := Op.mapEntry 95 (Operand.tmp 89) (Operand.tmp 90), type := 0, pos := "token.go:122", after := #[{ on := 8, ground := Ground.data }, { on := 9, ground := Ground.data }, { on := 14, ground := Ground.chain }, { on := 0, ground := Ground.phase }, { on := 1, ground := Ground.phase }, { on := 2, ground := Ground.phase }, { on := 3, ground := Ground.phase }, { on := 4, ground := Ground.phase }, { on := 5, ground := Ground.textOnly Departure.tupleMapEntryFirst }, { on := 6, ground := Ground.textOnly Departure.lateStoresUnsure }, { on := 7, ground := Ground.textOnly Departure.lateStoresUnsure }, { on := 8, ground := Ground.phase }, { on := 9, ground := Ground.textOnly Departure.lateStoresUnsure }, { on := 10, ground := Ground.phase }, { on := 11, ground := Ground.textOnly Departure.tupleMapEntryFirst }, { on := 12, ground := Ground.phase }, { on := 13, ground := Ground.phase }, { on := 14, ground := Ground.phase }], guard := none }) (by kernel_rfl) rfl (by rfl) (fun K hK => ?_)
            refine wp_mapEntry 95 _ _ _ _ rfl rfl rfl RE2.out ?_; have h := And.intro (blk_cell D4.out 1) (And.intro (blk_cell D4.out 2) (And.intro (blk_cell E4.out 0) (blk_cell E4.out 1)))
            refine hK.out _ _ h (fun hHeld => ?_)
            clear hK K
            try simp only [Act.put, List.setIfInBounds_toArray, List.set_cons_zero, List.set_cons_succ]
            refine wpAnyG_takeD (i := 16) (oi := { dst := some 96, op := Op.extract (Operand.tmp 95) 1, type := 3, pos := "token.go:122", after := #[{ on := 15, ground := Ground.data }], guard := none }) (d := 96) (v := ?_) rfl rfl (by kernel_rfl) (by kernel_rfl) (by kernel_rfl) (by kernel_rfl) (fun _ _ _ h => h) (Or.inl ⟨by rfl, ?_⟩) hHeld ?_
            rotate_left
            · (intro w' hSw; (try dsimp only at hSw); go_simp; (try with_reducible rfl))
            simp only [List.setIfInBounds_toArray, List.set_cons_zero, List.set_cons_succ]
            refine wpAnyG_last (o := { dst := none, op := Op.entryStore 95 (Operand.tmp 89) (Operand.tmp 96) (Operand.tmp 92), type := 0, pos := "token.go:122", after := #[{ on := 8, ground := Ground.data }, { on := 16, ground := Ground.data }, { on := 11, ground := Ground.data }, { on := 15, ground := Ground.chain }, { on := 0, ground := Ground.phase }, { on := 1, ground := Ground.phase }, { on := 2, ground := Ground.phase }, { on := 3, ground := Ground.phase }, { on := 4, ground := Ground.phase }, { on := 5, ground := Ground.phase }, { on := 6, ground := Ground.phase }, { on := 7, ground := Ground.phase }, { on := 8, ground := Ground.phase }, { on := 9, ground := Ground.phase }, { on := 10, ground := Ground.phase }, { on := 11, ground := Ground.phase }, { on := 12, ground := Ground.phase }, { on := 13, ground := Ground.phase }, { on := 14, ground := Ground.phase }, { on := 15, ground := Ground.phase }], guard := none }) (by kernel_rfl) rfl (by rfl) (fun K hK => ?_)
            refine wp_entryStore 95 _ _ _ _ _ _ rfl rfl rfl rfl RS2.out ?_; rw [setBlock_twice]
            refine hK.out _ _ ?_
            clear hK K
            try simp only [Act.put, List.setIfInBounds_toArray, List.set_cons_zero, List.set_cons_succ]
            refine wpAnyG_done (by kernel_rfl) ?_ _
            clear hHeld
            have KA : Keep (fun g => g = mb) w2 (Go.ChangeMaps.setBlock w2.drew mb o2) := ((Keep.refl (fun g => g = mb) w2).drew).trans setBlock_keep (fun x hx => .inl hx)
            have KB : Keep (fun g => g = mp) (Go.ChangeMaps.setBlock w2.drew mb o2) (Go.ChangeMaps.setBlock (Go.ChangeMaps.setBlock w2.drew mb o2) mp p2) := setBlock_keep
            have own3 := own_keep HOWN2.out KA (fun g hg e => HBYS2.out.row_ne HOWN2.out (by rw [hg, e]))
            have prs3 := HPRS2.out.keep KA (fun e => HU.out.ne e.symm)
            have HOWN4 := Lib.hid (own_keep own3 KB (fun g hg e => prs3.row_ne own3 (by rw [hg, e])))
            have HBY4 := Lib.hid (HM1.out.keep KB (fun e => HU.out.ne e))
            have HKW4 := Lib.hid ((HKW2.out.trans KA (fun x hx => .inl (.inr (.inr (.inl hx))))).trans KB (fun x hx => .inl (.inr (.inr (.inr hx)))))
            have c3 := blk_cell D5.out 3
            have z3 := blk_froz D5.out 3
            simp only [List.getElem?_toArray, List.getElem?_cons_zero, List.getElem?_cons_succ] at c3
            clear KA KB own3 prs3 RE1 RS1 RE2 RS2 HM1 D1 D2 D3 D4 E1 E2 E3 E4 E5 HHK1
            generalize Go.ChangeMaps.setBlock (Go.ChangeMaps.setBlock w2.drew mb o2) mp p2 = w4 at *
            have FIN : Hid (∀ M : Nat, M = max (longT T) z.size → Added w (w4.setCell ⟨tb, 3, none⟩ (.int .i64 (M : Int))) base tb (addT T (k : Int) (l : Int)).2.2 (.slice (some ⟨ba, o, none⟩) T.length c) mb mp) := by
              refine Lib.hid (fun M hM => ?_)
              have K5 : Keep (fun g => g = tb) w4 (w4.setCell ⟨tb, 3, none⟩ (.int .i64 (M : Int))) := Keep.setCell (F := fun g => g = tb) (p := ⟨tb, 3, none⟩) (Keep.refl _ _) (Or.inl rfl) _
              have b5 := blk_set D5.out 3 (.int .i64 (M : Int))
              simp only [List.setIfInBounds_toArray, List.set_cons_zero, List.set_cons_succ] at b5
              rw [HADD.out]
              have hlen1 : (T ++ [(X ++ Y, (k : Int), (l : Int))]).length = T.length + 1 := by simp
              refine ⟨⟨.slice A1 (T.length + 1) cA1, ⟨?_, ?_, ?_, ?_, HU.out.ne, HU.out.lt⟩, HNEW2.out⟩, HKW4.out.trans K5 (fun x hx => .inl (.inl hx))⟩
              · simp only []
                rw [longT_snoc]
                simp only []
                rw [← HZS.out, ← hM]
                exact b5
              · simp only []
                rw [hlen1, List.flatMap_append]
                have e5 : [((X ++ Y, (k : Int), (l : Int)) : Ent)].flatMap encE = [Value.string z, .int .i64 (k : Int), .int .i64 (l : Int)] := by simp [encE, HKZ.out]
                rw [e5]
                exact own_keep HOWN4.out K5 (fun g hg e => row_ne HOWN4.out D5.out (by decide) (by rw [hg, e]))
              · simp only []
                rw [hlen1]
                refine (HBY4.out.keep K5 HBT.out).congr (fun s => ?_)
                rw [findT_snoc _ _ _ HFN.out]
                simp only []
                split <;> rfl
              · simp only []
                rw [hlen1]
                refine (HM2.out.keep K5 HPT.out).congr (fun s => ?_)
                rw [pairT_snoc _ _ _ HPN.out (by intro e; cases e)]
                simp only []
                split <;> rfl
            obtain ⟨L, hL⟩ : ∃ L, longT T = L := ⟨_, rfl⟩
            have HLL := Lib.hid hL
            rw [hL] at c3
            clear hL
            rename_i j1 j2 j3 j4 j5 j6
            go_wp2_with fail
            all_goals
              go_ret2
              refine ⟨by rw [HADD.out]; rfl, ?_⟩
              first
                | exact FIN.out z.size (by rw [HLL.out]; omega)
                | exact FIN.out L (by rw [HLL.out]; omega)
end
end Go.Proofs.Ytpkmcokkapfnmaa
