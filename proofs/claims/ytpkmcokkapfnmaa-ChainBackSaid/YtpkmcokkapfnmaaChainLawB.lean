/- Layer 5 (chain): ChainBack. -/
import Derived.Test.YtpkmcokkapfnmaaChainI
import Derived.Test.YtpkmcokkapfnmaaOpen
namespace Go.Proofs.Ytpkmcokkapfnmaa
open Go.RowKit Go.Maps Go.WideMaps
set_option maxRecDepth 100000
set_option linter.unusedVariables false
set_option linter.unusedSimpArgs false

theorem below_drew1 (w : World) : Below w.heap.size w w.drew := ⟨rfl, rfl, rfl, Nat.le_refl _, fun _ _ => rfl⟩
theorem endsT_at (T : List Ent) : ∀ (l : List Int) (a : Int) (k : Nat) (h : k < l.length), (endsT T a l)[k]? = some (a + sumT T (l.take (k + 1)))
  | x :: l, a, 0, h => by simp [endsT, sumT]
  | x :: l, a, k + 1, h => by
    have := endsT_at T l (a + (bytesT T x).length) k (by simpa using h)
    simp only [endsT, List.getElem?_cons_succ, this, List.take_succ_cons]
    simp [sumT]
    omega
theorem adj_at (l : List Int) (k : Nat) (h : k + 1 < l.length) : Adj l l[k] l[k + 1] := by
  refine ⟨l.take k, l.drop (k + 2), ?_⟩
  rw [← List.drop_eq_getElem_cons (i := k + 1) h, ← List.drop_eq_getElem_cons (i := k) (by omega), List.take_append_drop]
theorem spans_all {T : List Ent} {l : List Int} (h : ∀ x ∈ l, hasT T x = true) : spansT T l = endsT T 0 l := by
  unfold spansT
  rw [if_pos (by rw [List.all_eq_true]; exact h)]
structure BkIs (w W : World) (b : Nat) (T : List Ent) (tb : Nat) (sv : Value) (mb mp : Nat) (A1 : Option Addr) (n1 c1 : Nat) (A2 : Option Addr) (n2 c2 : Nat) (g : Nat) (l : List Int) (A3 A4 : Option Addr) : Prop where
  ref : RefIs W b T (.slice A1 n1 c1) (.slice A2 n2 c2)
  blk : W.heap[g]? = some (.cells #[.slice A1 n1 c1, .slice A2 n2 c2] 28)
  ids : Sl1 W A3 (Value.int .i64) l
  ends : Sl1 W A4 (Value.int .i64) (endsT T 0 l)
  bl : Below w.heap.size w W
theorem BkIs.step {w W V : World} {b : Nat} {T : List Ent} {tb : Nat} {sv : Value} {mb mp : Nat} {A1 : Option Addr} {n1 c1 : Nat} {A2 : Option Addr} {n2 c2 : Nat} {g : Nat} {l : List Int} {A3 A4 : Option Addr} (h : BkIs w W b T tb sv mb mp A1 n1 c1 A2 n2 c2 g l A3 A4) (hb : Below W.heap.size W V) : BkIs w V b T tb sv mb mp A1 n1 c1 A2 n2 c2 g l A3 A4 :=
  ⟨h.ref.below hb (Nat.le_refl _), blk_below hb (blk_lt h.blk) h.blk, h.ids.below hb (Nat.le_refl _), h.ends.below hb (Nat.le_refl _), h.bl.trans (hb.mono h.bl.size)⟩
set_option maxHeartbeats 8000000 in
theorem cback_small (l : List Nat) (A : Option Addr) (c : Nat) (s : ByteArray) (w : World) (hl : Sl1 w A (fun x : Nat => .int .u16 (x : Int)) l) (hsm : ∀ x ∈ l, x < 65536) (hlen : l.length ≤ 60) (hs : s.size ≤ 1000) :
    Calls Try.prog 5 #[.slice A l.length c, .string s] w (RetTrue w) := by
  have HL := Lib.hid hl
  have h1 : ¬ (60 : Int) < (l.length : Int) := by omega
  have h2 : ¬ (1000 : Int) < (s.size : Int) := by omega
  clear hl
  go_enter Try.func5, Try.ntmps5
  go_wp2_with fail
  refine (awake5_any _).mono ?_
  rintro e w1 ⟨rfl, hb1⟩
  have HB1 := Lib.hid hb1
  replace HL := Lib.hid (HL.out.below hb1 (Nat.le_refl _))
  clear hb1
  go_wp2_with fail
  refine (table_any l A c w1 HL.out hsm hlen).mono ?_
  rintro e w2 ⟨T, tb, sv, mb, mp, A1, n1, c1, A2, n2, c2, rfl, hadds, hgt, hboth⟩
  clear hgt
  have HOK := Lib.hid hadds.1
  have hba := (Below.refl w2.heap.size w2).alloc (Nat.le_refl _) (.cells #[.slice A1 n1 c1, .slice A2 n2 c2] 28)
  have hb2 := HB1.out.trans (hboth.bl.mono HB1.out.size)
  have HB2 := Lib.hid (hb2.trans (hba.mono hb2.size))
  have HBO := Lib.hid (hboth.step hba)
  have HN := Lib.hid (blk_new w2 (.cells #[.slice A1 n1 c1, .slice A2 n2 c2] 28))
  clear hadds hba hb2 hboth
  go_upto_region 4 with fail
  generalize w2.alloc (.cells #[.slice A1 n1 c1, .slice A2 n2 c2] 28) = w3 at *
  generalize w2.heap.size = g8 at *
  go_wp2_with fail
  refine (encode_any HBO.out.tab HOK.out s (by omega)).mono ?_
  rintro e w4 ⟨⟨v, rfl, hv⟩, hb⟩
  obtain ⟨A3, c3, rfl, hs3⟩ := ints_sl hv
  have HS3 := Lib.hid hs3
  replace HB2 := Lib.hid (HB2.out.trans (hb.mono HB2.out.size))
  replace HBO := Lib.hid (HBO.out.step hb)
  replace HN := Lib.hid (blk_below hb (blk_lt HN.out) HN.out)
  have hlen2 := encT_len T T.length s
  have HCAT := Lib.hid (encT_cat HOK.out T.length s.data.toList)
  have HHAS := Lib.hid (encT_has HOK.out T.length s.data.toList)
  have HNO := Lib.hid (fun a b => encT_no HOK.out s.data.toList (a := a) (b := b))
  generalize encT T T.length s.data.toList = ids at *
  have hid5 : ids.length ≤ 1000 := by omega
  have m0 := blk_cell HN.out 0
  have m1 := blk_cell HN.out 1
  simp only [List.getElem?_toArray, List.getElem?_cons_zero, List.getElem?_cons_succ] at m0 m1
  have HRB := Lib.hid (rbytes_any HBO.out.ref HOK.out ids A3 c3 HS3.out (by omega) HHAS.out)
  clear hv hb hs3 hlen2
  go_wp2_with fail
  refine HRB.out.mono ?_
  rintro e w5 ⟨rfl, hb⟩
  have hcs : bs (catT T ids) = s := by rw [HCAT.out, bs_data]
  rw [hcs]
  replace HB2 := Lib.hid (HB2.out.trans (hb.mono HB2.out.size))
  replace HBO := Lib.hid (HBO.out.step hb)
  replace HN := Lib.hid (blk_below hb (blk_lt HN.out) HN.out)
  replace HS3 := Lib.hid (HS3.out.below hb (Nat.le_refl _))
  clear hb hcs HRB m0 m1
  go_wp2_with fail
  refine (spans_any HBO.out.tab HOK.out ids A3 c3 HS3.out (by omega)).mono ?_
  rintro e w6 ⟨⟨v, rfl, hv⟩, hb⟩
  rw [spans_all HHAS.out] at hv
  obtain ⟨A4, c4, rfl, hs4⟩ := ints_sl hv
  have HBK : Hid (BkIs w w6 w1.heap.size T tb sv mb mp A1 n1 c1 A2 n2 c2 g8 ids A3 A4) := Lib.hid ⟨HBO.out.ref.below hb (Nat.le_refl _), blk_below hb (blk_lt HN.out) HN.out, HS3.out.below hb (Nat.le_refl _), hs4, HB2.out.trans (hb.mono HB2.out.size)⟩
  clear hv hb hs4 HS3 HN HBO HB2
  rw [endsT_len]
  go_wp2_with fail
  go_loopg [11, 12] ids.length (fun n u i W => ∃ k, k + n = ids.length ∧ i = .int .i64 ((k : Nat) : Int) ∧ u = .int .i64 (sumT T (ids.take k)) ∧ BkIs w W w1.heap.size T tb sv mb mp A1 n1 c1 A2 n2 c2 g8 ids A3 A4)
  case atStart => exact ⟨0, by omega, rfl, by simp [sumT], HBK.out⟩
  case round =>
    obtain ⟨k, hk, rfl, rfl, hW⟩ := hrel
    clear HBK
    rename World => W
    have HW := Lib.hid hW
    have HK := Lib.hid hk
    clear hW
    by_cases hlt : k < ids.length
    · have p0 : (0 : Int) ≤ (k : Int) := by omega
      have p1 : (k : Int) < (ids.length : Int) := by omega
      have wk : IntKind.i64.wrap ((k : Int) + 1) = (k : Int) + 1 := IntWalk.i64_in _ (by omega)
      obtain ⟨b3, o3, hA, e3⟩ := HW.out.ids.at k hlt
      subst hA
      have HTK := Lib.hid (take_snoc hlt)
      have hel : k < (endsT T 0 ids).length := by rw [endsT_len]; exact hlt
      obtain ⟨b4, o4, hA, e4⟩ := HW.out.ends.at k hel
      subst hA
      have hev : (endsT T 0 ids)[k] = sumT T (ids.take (k + 1)) := by
        have := endsT_at T ids 0 k hlt
        rw [List.getElem?_eq_getElem hel] at this
        rw [Option.some.inj this, Int.zero_add]
      rw [hev] at e4
      have HX := Lib.hid (HHAS.out ids[k] (List.getElem_mem hlt))
      obtain ⟨j, hj, hjl, hje⟩ := hasT_at HX.out
      have HSS := Lib.hid (sumT_snoc T (ids.take k) ids[k])
      have HSL := Lib.hid (sumT_le HOK.out (ids.take k))
      have HPREV : Hid (∀ m, k = m + 1 → ∃ hm : m < ids.length, pairT T (ids[m], ids[k]) = none) := Lib.hid (fun m hm => by subst hm; exact ⟨by omega, HNO.out _ _ (adj_at ids m hlt)⟩)
      have HIDS0 := Lib.hid (fun m (hm : m < ids.length) => HW.out.ids.at m hm)
      generalize ids[k] = x at *
      subst hj
      have p2 : (0 : Int) ≤ (j : Int) := by omega
      have p3 : (j : Int) < (T.length : Int) := by omega
      have hn1 : n1 = T.length := by obtain ⟨_, _, e⟩ := own_slice HW.out.ref.row; injection e
      subst hn1
      have hj2 : j < (bytsT T).length := by unfold bytsT; rw [List.length_map]; exact hjl
      obtain ⟨bb, ob, hAA, cb⟩ := (own_sl1 (enc := strV) (by simpa [bytsT] using HW.out.ref.row)).at j hj2
      subst hAA
      have HBY : Hid ((bytsT T)[j] = bytesT T (j : Int)) := Lib.hid (by unfold bytesT; rw [if_pos HX.out, hje]; simp [bytsT])
      rw [HBY.out] at cb
      have hbl := bytesT_le HOK.out (j : Int)
      have hss : (bs (bytesT T (j : Int))).size = (bytesT T (j : Int)).length := bs_size _
      have hsum : IntKind.i64.wrap (sumT T (ids.take k) + ((bs (bytesT T (j : Int))).size : Int)) = sumT T (ids.take (k + 1)) := by
        rw [hss, HTK.out, HSS.out]
        have h1 := HSL.out
        have h2 : (ids.take k).length ≤ ids.length := by rw [List.length_take]; omega
        exact IntWalk.i64_in _ (by omega)
      have g0 := blk_cell HW.out.blk 0
      have g1 := blk_cell HW.out.blk 1
      simp only [List.getElem?_toArray, List.getElem?_cons_zero, List.getElem?_cons_succ] at g0 g1
      unfold strV at cb
      clear HBY hje hev hel hj2 hk hss hbl
      generalize bs (bytesT T (j : Int)) = Z at *
      obtain ⟨S1, hS1⟩ : ∃ S, sumT T (ids.take (k + 1)) = S := ⟨_, rfl⟩
      have HS1E := Lib.hid hS1
      rw [hS1] at hsum e4
      clear hS1
      generalize sumT T (ids.take k) = S0 at *
      go_upto_region 15 with fail
      refine wp_region_held_drew (S := fun V => V.cell? ⟨g8, 0, none⟩ = some (.slice (some ⟨bb, ob, none⟩) T.length c1) ∧ V.cell? ⟨b3, o3 + k, none⟩ = some (.int .i64 (j : Int)) ∧ V.cell? ⟨bb, ob + j, none⟩ = some (.string Z)) (by kernel_rfl) (by exact ⟨g0, e3, cb⟩) (fun hHeld => ?_)
      refine wpAnyH_takeD (i := 0) (oi := { dst := some 65, op := Op.move (Operand.tmp 11), type := 3, pos := "law.go:60", after := #[], guard := none }) (d := 65) (v := ?_) rfl rfl (by kernel_rfl) (by kernel_rfl) (by kernel_rfl) (fun _ _ _ h => h) (Or.inl ⟨by rfl, ?_⟩) hHeld ?_
      rotate_left
      · (intro w' hSw; (try dsimp only at hSw); go_simp; (try with_reducible rfl))
      simp only [List.setIfInBounds_toArray, List.set_cons_zero, List.set_cons_succ]
      refine wpAnyH_takeD (i := 1) (oi := { dst := some 66, op := Op.fieldAddr 28 (Operand.tmp 6) 0, type := 0, pos := "law.go:60", after := #[], guard := none }) (d := 66) (v := ?_) rfl rfl (by kernel_rfl) (by kernel_rfl) (by kernel_rfl) (fun _ _ _ h => h) (Or.inl ⟨by rfl, ?_⟩) hHeld ?_
      rotate_left
      · (intro w' hSw; (try dsimp only at hSw); go_simp; (try with_reducible rfl))
      simp only [List.setIfInBounds_toArray, List.set_cons_zero, List.set_cons_succ]
      refine wpAnyH_takeD (i := 2) (oi := { dst := some 67, op := Op.load 25 (Operand.tmp 66), type := 25, pos := "law.go:60", after := #[{ on := 1, ground := Ground.data }], guard := none }) (d := 67) (v := ?_) rfl rfl (by kernel_rfl) (by kernel_rfl) (by kernel_rfl) (fun _ _ _ h => h) (Or.inl ⟨by rfl, ?_⟩) hHeld ?_
      rotate_left
      · (intro w' hSw; (try dsimp only at hSw); go_simp; (try with_reducible rfl))
      simp only [List.setIfInBounds_toArray, List.set_cons_zero, List.set_cons_succ]
      refine wpAnyH_takeD (i := 3) (oi := { dst := some 68, op := Op.move (Operand.tmp 7), type := 31, pos := "law.go:60", after := #[], guard := none }) (d := 68) (v := ?_) rfl rfl (by kernel_rfl) (by kernel_rfl) (by kernel_rfl) (fun _ _ _ h => h) (Or.inl ⟨by rfl, ?_⟩) hHeld ?_
      rotate_left
      · (intro w' hSw; (try dsimp only at hSw); go_simp; (try with_reducible rfl))
      simp only [List.setIfInBounds_toArray, List.set_cons_zero, List.set_cons_succ]
      refine wpAnyH_takeD (i := 4) (oi := { dst := some 69, op := Op.move (Operand.tmp 12), type := 3, pos := "law.go:60", after := #[], guard := none }) (d := 69) (v := ?_) rfl rfl (by kernel_rfl) (by kernel_rfl) (by kernel_rfl) (fun _ _ _ h => h) (Or.inl ⟨by rfl, ?_⟩) hHeld ?_
      rotate_left
      · (intro w' hSw; (try dsimp only at hSw); go_simp; (try with_reducible rfl))
      simp only [List.setIfInBounds_toArray, List.set_cons_zero, List.set_cons_succ]
      refine wpAnyH_takeD (i := 5) (oi := { dst := some 70, op := Op.indexAddr 31 (Operand.tmp 68) (Operand.tmp 69), type := 0, pos := "law.go:60", after := #[{ on := 3, ground := Ground.data }, { on := 4, ground := Ground.data }], guard := none }) (d := 70) (v := ?_) rfl rfl (by kernel_rfl) (by kernel_rfl) (by kernel_rfl) (fun _ _ _ h => h) (Or.inl ⟨by rfl, ?_⟩) hHeld ?_
      rotate_left
      · (intro w' hSw; (try dsimp only at hSw); go_simp; (try with_reducible rfl))
      simp only [List.setIfInBounds_toArray, List.set_cons_zero, List.set_cons_succ]
      refine wpAnyH_takeD (i := 6) (oi := { dst := some 71, op := Op.load 3 (Operand.tmp 70), type := 3, pos := "law.go:60", after := #[{ on := 5, ground := Ground.data }], guard := none }) (d := 71) (v := ?_) rfl rfl (by kernel_rfl) (by kernel_rfl) (by kernel_rfl) (fun _ _ _ h => h) (Or.inl ⟨by rfl, ?_⟩) hHeld ?_
      rotate_left
      · (intro w' hSw; (try dsimp only at hSw); go_simp; (try with_reducible rfl))
      simp only [List.setIfInBounds_toArray, List.set_cons_zero, List.set_cons_succ]
      refine wpAnyH_takeD (i := 7) (oi := { dst := some 72, op := Op.indexAddr 25 (Operand.tmp 67) (Operand.tmp 71), type := 0, pos := "law.go:60", after := #[{ on := 2, ground := Ground.data }, { on := 6, ground := Ground.data }], guard := none }) (d := 72) (v := ?_) rfl rfl (by kernel_rfl) (by kernel_rfl) (by kernel_rfl) (fun _ _ _ h => h) (Or.inl ⟨by rfl, ?_⟩) hHeld ?_
      rotate_left
      · (intro w' hSw; (try dsimp only at hSw); go_simp; (try with_reducible rfl))
      simp only [List.setIfInBounds_toArray, List.set_cons_zero, List.set_cons_succ]
      refine wpAnyH_takeD (i := 8) (oi := { dst := some 73, op := Op.load 9 (Operand.tmp 72), type := 9, pos := "law.go:60", after := #[{ on := 7, ground := Ground.data }], guard := none }) (d := 73) (v := ?_) rfl rfl (by kernel_rfl) (by kernel_rfl) (by kernel_rfl) (fun _ _ _ h => h) (Or.inl ⟨by rfl, ?_⟩) hHeld ?_
      rotate_left
      · (intro w' hSw; (try dsimp only at hSw); go_simp; (try with_reducible rfl))
      simp only [List.setIfInBounds_toArray, List.set_cons_zero, List.set_cons_succ]
      refine wpAnyH_takeD (i := 9) (oi := { dst := some 74, op := Op.call { callee := Callee.builtin Builtin.len, args := #[Operand.tmp 73], argTypes := #[9] }, type := 3, pos := "law.go:60", after := #[{ on := 8, ground := Ground.data }], guard := none }) (d := 74) (v := ?_) rfl rfl (by kernel_rfl) (by kernel_rfl) (by kernel_rfl) (fun _ _ _ h => h) (Or.inl ⟨by rfl, ?_⟩) hHeld ?_
      rotate_left
      · (intro w' hSw; (try dsimp only at hSw); go_simp; (try with_reducible rfl))
      simp only [List.setIfInBounds_toArray, List.set_cons_zero, List.set_cons_succ]
      refine wpAnyH_takeD (i := 10) (oi := { dst := some 75, op := Op.binOp BinOp.add 3 (Operand.tmp 65) (Operand.tmp 74) 3, type := 3, pos := "law.go:60", after := #[{ on := 0, ground := Ground.data }, { on := 9, ground := Ground.data }], guard := none }) (d := 75) (v := ?_) rfl rfl (by kernel_rfl) (by kernel_rfl) (by kernel_rfl) (fun _ _ _ h => h) (Or.inl ⟨by rfl, ?_⟩) hHeld ?_
      rotate_left
      · (intro w' hSw; (try dsimp only at hSw); go_simp; (try with_reducible rfl))
      simp only [List.setIfInBounds_toArray, List.set_cons_zero, List.set_cons_succ]
      refine wpAnyH_takeD (i := 11) (oi := { dst := some 11, op := Op.assign (Operand.tmp 75), type := 3, pos := "law.go:60", after := #[{ on := 10, ground := Ground.data }, { on := 0, ground := Ground.phase }, { on := 1, ground := Ground.phase }, { on := 2, ground := Ground.phase }, { on := 3, ground := Ground.phase }, { on := 4, ground := Ground.phase }, { on := 5, ground := Ground.phase }, { on := 6, ground := Ground.phase }, { on := 7, ground := Ground.phase }, { on := 8, ground := Ground.phase }, { on := 9, ground := Ground.phase }, { on := 10, ground := Ground.phase }], guard := none }) (d := 11) (v := ?_) rfl rfl (by kernel_rfl) (by kernel_rfl) (by kernel_rfl) (fun _ _ _ h => h) (Or.inl ⟨by rfl, ?_⟩) hHeld ?_
      rotate_left
      · (intro w' hSw; (try dsimp only at hSw); go_simp; (try with_reducible rfl))
      simp only [List.setIfInBounds_toArray, List.set_cons_zero, List.set_cons_succ]
      refine wpAnyH_done (by kernel_rfl) ?_ _
      clear hHeld
      replace HW := Lib.hid (HW.out.step (below_drew1 W))
      replace e3 : W.drew.cell? ⟨b3, o3 + k, none⟩ = some (.int .i64 (j : Int)) := e3
      replace e4 : W.drew.cell? ⟨b4, o4 + k, none⟩ = some (.int .i64 S1) := e4
      clear g0 g1 cb
      generalize W.drew = W2 at *
      have g0 := blk_cell HW.out.blk 0
      have g1 := blk_cell HW.out.blk 1
      simp only [List.getElem?_toArray, List.getElem?_cons_zero, List.getElem?_cons_succ] at g0 g1
      by_cases hk0 : k = 0
      · have hd1 : decide ((0 : Int) < (k : Int)) = false := by simp; omega
        have hd2 : decide (0 < k) = false := by simp; omega
        clear hk0
        go_upto_region 16 with fail
        refine wp_region_held_drew (S := fun V => V.cell? ⟨b4, o4 + k, none⟩ = some (.int .i64 S1)) (by kernel_rfl) (by exact e4) (fun hHeld => ?_)
        refine wpAnyH_takeD (i := 0) (oi := { dst := some 76, op := Op.move (Operand.tmp 10), type := 31, pos := "law.go:61", after := #[], guard := none }) (d := 76) (v := ?_) rfl rfl (by kernel_rfl) (by kernel_rfl) (by kernel_rfl) (fun _ _ _ h => h) (Or.inl ⟨by rfl, ?_⟩) hHeld ?_
        rotate_left
        · (intro w' hSw; (try dsimp only at hSw); go_simp; (try with_reducible rfl))
        simp only [List.setIfInBounds_toArray, List.set_cons_zero, List.set_cons_succ]
        refine wpAnyH_takeD (i := 1) (oi := { dst := some 77, op := Op.move (Operand.tmp 12), type := 3, pos := "law.go:61", after := #[], guard := none }) (d := 77) (v := ?_) rfl rfl (by kernel_rfl) (by kernel_rfl) (by kernel_rfl) (fun _ _ _ h => h) (Or.inl ⟨by rfl, ?_⟩) hHeld ?_
        rotate_left
        · (intro w' hSw; (try dsimp only at hSw); go_simp; (try with_reducible rfl))
        simp only [List.setIfInBounds_toArray, List.set_cons_zero, List.set_cons_succ]
        refine wpAnyH_takeD (i := 2) (oi := { dst := some 78, op := Op.indexAddr 31 (Operand.tmp 76) (Operand.tmp 77), type := 0, pos := "law.go:61", after := #[{ on := 0, ground := Ground.data }, { on := 1, ground := Ground.data }], guard := none }) (d := 78) (v := ?_) rfl rfl (by kernel_rfl) (by kernel_rfl) (by kernel_rfl) (fun _ _ _ h => h) (Or.inl ⟨by rfl, ?_⟩) hHeld ?_
        rotate_left
        · (intro w' hSw; (try dsimp only at hSw); go_simp; (try with_reducible rfl))
        simp only [List.setIfInBounds_toArray, List.set_cons_zero, List.set_cons_succ]
        refine wpAnyH_takeD (i := 3) (oi := { dst := some 79, op := Op.load 3 (Operand.tmp 78), type := 3, pos := "law.go:61", after := #[{ on := 2, ground := Ground.data }], guard := none }) (d := 79) (v := ?_) rfl rfl (by kernel_rfl) (by kernel_rfl) (by kernel_rfl) (fun _ _ _ h => h) (Or.inl ⟨by rfl, ?_⟩) hHeld ?_
        rotate_left
        · (intro w' hSw; (try dsimp only at hSw); go_simp; (try with_reducible rfl))
        simp only [List.setIfInBounds_toArray, List.set_cons_zero, List.set_cons_succ]
        refine wpAnyH_takeD (i := 4) (oi := { dst := some 80, op := Op.move (Operand.tmp 11), type := 3, pos := "law.go:61", after := #[], guard := none }) (d := 80) (v := ?_) rfl rfl (by kernel_rfl) (by kernel_rfl) (by kernel_rfl) (fun _ _ _ h => h) (Or.inl ⟨by rfl, ?_⟩) hHeld ?_
        rotate_left
        · (intro w' hSw; (try dsimp only at hSw); go_simp; (try with_reducible rfl))
        simp only [List.setIfInBounds_toArray, List.set_cons_zero, List.set_cons_succ]
        refine wpAnyH_takeD (i := 5) (oi := { dst := some 81, op := Op.binOp BinOp.neq 3 (Operand.tmp 79) (Operand.tmp 80) 3, type := 4, pos := "law.go:61", after := #[{ on := 3, ground := Ground.data }, { on := 4, ground := Ground.data }], guard := none }) (d := 81) (v := ?_) rfl rfl (by kernel_rfl) (by kernel_rfl) (by kernel_rfl) (fun _ _ _ h => h) (Or.inl ⟨by rfl, ?_⟩) hHeld ?_
        rotate_left
        · (intro w' hSw; (try dsimp only at hSw); go_simp; (try with_reducible rfl))
        simp only [List.setIfInBounds_toArray, List.set_cons_zero, List.set_cons_succ]
        refine wpAnyH_takeD (i := 6) (oi := { dst := some 82, op := Op.move (Operand.tmp 81), type := 4, pos := "law.go:61", after := #[{ on := 5, ground := Ground.data }], guard := none }) (d := 82) (v := ?_) rfl rfl (by kernel_rfl) (by kernel_rfl) (by kernel_rfl) (fun _ _ _ h => h) (Or.inl ⟨by rfl, ?_⟩) hHeld ?_
        rotate_left
        · (intro w' hSw; (try dsimp only at hSw); go_simp; (try with_reducible rfl))
        simp only [List.setIfInBounds_toArray, List.set_cons_zero, List.set_cons_succ]
        refine wpAnyH_takeD (i := 7) (oi := { dst := some 83, op := Op.move (Operand.tmp 12), type := 3, pos := "law.go:61", after := #[{ on := 6, ground := Ground.guard }], guard := some (6, false) }) (d := 83) (v := ?_) rfl rfl (by kernel_rfl) (by kernel_rfl) (by kernel_rfl) (fun _ _ _ h => h) (Or.inl ⟨by rfl, ?_⟩) hHeld ?_
        rotate_left
        · (intro w' hSw; (try dsimp only at hSw); go_simp; (try with_reducible rfl))
        simp only [List.setIfInBounds_toArray, List.set_cons_zero, List.set_cons_succ]
        refine wpAnyH_takeD (i := 8) (oi := { dst := some 84, op := Op.binOp BinOp.gtr 3 (Operand.tmp 83) (Operand.const (Value.int IntKind.i64 0)) 3, type := 4, pos := "law.go:61", after := #[{ on := 7, ground := Ground.data }, { on := 6, ground := Ground.guard }], guard := some (6, false) }) (d := 84) (v := ?_) rfl rfl (by kernel_rfl) (by kernel_rfl) (by kernel_rfl) (fun _ _ _ h => h) (Or.inl ⟨by rfl, ?_⟩) hHeld ?_
        rotate_left
        · (intro w' hSw; (try dsimp only at hSw); go_simp; (try with_reducible rfl))
        simp only [List.setIfInBounds_toArray, List.set_cons_zero, List.set_cons_succ]
        refine wpAnyH_takeD (i := 9) (oi := { dst := some 85, op := Op.move (Operand.tmp 84), type := 4, pos := "law.go:61", after := #[{ on := 8, ground := Ground.data }, { on := 6, ground := Ground.chain }, { on := 6, ground := Ground.guard }], guard := some (6, false) }) (d := 85) (v := ?_) rfl rfl (by kernel_rfl) (by kernel_rfl) (by kernel_rfl) (fun _ _ _ h => h) (Or.inl ⟨by rfl, ?_⟩) hHeld ?_
        rotate_left
        · (intro w' hSw; (try dsimp only at hSw); go_simp; (try with_reducible rfl))
        simp only [List.setIfInBounds_toArray, List.set_cons_zero, List.set_cons_succ]
        refine wpAnyH_takeD (i := 10) (oi := { dst := some 86, op := Op.load 28 (Operand.tmp 6), type := 28, pos := "law.go:61", after := #[{ on := 9, ground := Ground.guard }], guard := some (9, true) }) (d := 86) (v := undef) rfl rfl (by kernel_rfl) (by kernel_rfl) (by kernel_rfl) (fun _ _ _ h => h) (Or.inr ⟨by rfl, rfl⟩) hHeld ?_
        simp only [List.setIfInBounds_toArray, List.set_cons_zero, List.set_cons_succ]
        refine wpAnyH_takeD (i := 11) (oi := { dst := some 87, op := Op.move (Operand.tmp 7), type := 31, pos := "law.go:61", after := #[{ on := 9, ground := Ground.guard }], guard := some (9, true) }) (d := 87) (v := undef) rfl rfl (by kernel_rfl) (by kernel_rfl) (by kernel_rfl) (fun _ _ _ h => h) (Or.inr ⟨by rfl, rfl⟩) hHeld ?_
        simp only [List.setIfInBounds_toArray, List.set_cons_zero, List.set_cons_succ]
        refine wpAnyH_takeD (i := 12) (oi := { dst := some 88, op := Op.move (Operand.tmp 12), type := 3, pos := "law.go:61", after := #[{ on := 9, ground := Ground.guard }], guard := some (9, true) }) (d := 88) (v := undef) rfl rfl (by kernel_rfl) (by kernel_rfl) (by kernel_rfl) (fun _ _ _ h => h) (Or.inr ⟨by rfl, rfl⟩) hHeld ?_
        simp only [List.setIfInBounds_toArray, List.set_cons_zero, List.set_cons_succ]
        refine wpAnyH_takeD (i := 13) (oi := { dst := some 89, op := Op.binOp BinOp.sub 3 (Operand.tmp 88) (Operand.const (Value.int IntKind.i64 1)) 3, type := 3, pos := "law.go:61", after := #[{ on := 12, ground := Ground.data }, { on := 9, ground := Ground.guard }], guard := some (9, true) }) (d := 89) (v := undef) rfl rfl (by kernel_rfl) (by kernel_rfl) (by kernel_rfl) (fun _ _ _ h => h) (Or.inr ⟨by rfl, rfl⟩) hHeld ?_
        simp only [List.setIfInBounds_toArray, List.set_cons_zero, List.set_cons_succ]
        refine wpAnyH_takeD (i := 14) (oi := { dst := some 90, op := Op.indexAddr 31 (Operand.tmp 87) (Operand.tmp 89), type := 0, pos := "law.go:61", after := #[{ on := 11, ground := Ground.data }, { on := 13, ground := Ground.data }, { on := 9, ground := Ground.guard }], guard := some (9, true) }) (d := 90) (v := undef) rfl rfl (by kernel_rfl) (by kernel_rfl) (by kernel_rfl) (fun _ _ _ h => h) (Or.inr ⟨by rfl, rfl⟩) hHeld ?_
        simp only [List.setIfInBounds_toArray, List.set_cons_zero, List.set_cons_succ]
        refine wpAnyH_takeD (i := 15) (oi := { dst := some 91, op := Op.load 3 (Operand.tmp 90), type := 3, pos := "law.go:61", after := #[{ on := 14, ground := Ground.data }, { on := 9, ground := Ground.guard }], guard := some (9, true) }) (d := 91) (v := undef) rfl rfl (by kernel_rfl) (by kernel_rfl) (by kernel_rfl) (fun _ _ _ h => h) (Or.inr ⟨by rfl, rfl⟩) hHeld ?_
        simp only [List.setIfInBounds_toArray, List.set_cons_zero, List.set_cons_succ]
        refine wpAnyH_takeD (i := 16) (oi := { dst := some 92, op := Op.move (Operand.tmp 7), type := 31, pos := "law.go:61", after := #[{ on := 9, ground := Ground.guard }], guard := some (9, true) }) (d := 92) (v := undef) rfl rfl (by kernel_rfl) (by kernel_rfl) (by kernel_rfl) (fun _ _ _ h => h) (Or.inr ⟨by rfl, rfl⟩) hHeld ?_
        simp only [List.setIfInBounds_toArray, List.set_cons_zero, List.set_cons_succ]
        refine wpAnyH_takeD (i := 17) (oi := { dst := some 93, op := Op.move (Operand.tmp 12), type := 3, pos := "law.go:61", after := #[{ on := 9, ground := Ground.guard }], guard := some (9, true) }) (d := 93) (v := undef) rfl rfl (by kernel_rfl) (by kernel_rfl) (by kernel_rfl) (fun _ _ _ h => h) (Or.inr ⟨by rfl, rfl⟩) hHeld ?_
        simp only [List.setIfInBounds_toArray, List.set_cons_zero, List.set_cons_succ]
        refine wpAnyH_takeD (i := 18) (oi := { dst := some 94, op := Op.indexAddr 31 (Operand.tmp 92) (Operand.tmp 93), type := 0, pos := "law.go:61", after := #[{ on := 16, ground := Ground.data }, { on := 17, ground := Ground.data }, { on := 9, ground := Ground.guard }], guard := some (9, true) }) (d := 94) (v := undef) rfl rfl (by kernel_rfl) (by kernel_rfl) (by kernel_rfl) (fun _ _ _ h => h) (Or.inr ⟨by rfl, rfl⟩) hHeld ?_
        simp only [List.setIfInBounds_toArray, List.set_cons_zero, List.set_cons_succ]
        refine wpAnyH_takeD (i := 19) (oi := { dst := some 95, op := Op.load 3 (Operand.tmp 94), type := 3, pos := "law.go:61", after := #[{ on := 18, ground := Ground.data }, { on := 9, ground := Ground.guard }], guard := some (9, true) }) (d := 95) (v := undef) rfl rfl (by kernel_rfl) (by kernel_rfl) (by kernel_rfl) (fun _ _ _ h => h) (Or.inr ⟨by rfl, rfl⟩) hHeld ?_
        simp only [List.setIfInBounds_toArray, List.set_cons_zero, List.set_cons_succ]
        refine wpAnyH_takeD (i := 20) (oi := { dst := some 96, op := Op.call { callee := Callee.value (Operand.func 21), args := #[Operand.tmp 86, Operand.tmp 91, Operand.tmp 95], argTypes := #[28, 3, 3] }, type := 3, pos := "law.go:61", after := #[{ on := 10, ground := Ground.data }, { on := 15, ground := Ground.data }, { on := 19, ground := Ground.data }, { on := 9, ground := Ground.chain }, { on := 9, ground := Ground.guard }], guard := some (9, true) }) (d := 96) (v := undef) rfl rfl (by kernel_rfl) (by kernel_rfl) (by kernel_rfl) (fun _ _ _ h => h) (Or.inr ⟨by rfl, rfl⟩) hHeld ?_
        simp only [List.setIfInBounds_toArray, List.set_cons_zero, List.set_cons_succ]
        refine wpAnyH_takeD (i := 21) (oi := { dst := some 97, op := Op.binOp BinOp.geq 3 (Operand.tmp 96) (Operand.const (Value.int IntKind.i64 0)) 3, type := 4, pos := "law.go:61", after := #[{ on := 20, ground := Ground.data }, { on := 9, ground := Ground.guard }], guard := some (9, true) }) (d := 97) (v := undef) rfl rfl (by kernel_rfl) (by kernel_rfl) (by kernel_rfl) (fun _ _ _ h => h) (Or.inr ⟨by rfl, rfl⟩) hHeld ?_
        simp only [List.setIfInBounds_toArray, List.set_cons_zero, List.set_cons_succ]
        refine wpAnyH_takeD (i := 22) (oi := { dst := some 98, op := Op.pick (Operand.tmp 85) (Operand.tmp 97) (Operand.const (Value.bool false)), type := 4, pos := "law.go:61", after := #[{ on := 9, ground := Ground.data }, { on := 21, ground := Ground.data }, { on := 6, ground := Ground.guard }], guard := some (6, false) }) (d := 98) (v := ?_) rfl rfl (by kernel_rfl) (by kernel_rfl) (by kernel_rfl) (fun _ _ _ h => h) (Or.inl ⟨by rfl, ?_⟩) hHeld ?_
        rotate_left
        · (intro w' hSw; (try dsimp only at hSw); go_simp; (try with_reducible rfl))
        simp only [List.setIfInBounds_toArray, List.set_cons_zero, List.set_cons_succ]
        refine wpAnyH_takeD (i := 23) (oi := { dst := some 99, op := Op.pick (Operand.tmp 82) (Operand.const (Value.bool true)) (Operand.tmp 98), type := 4, pos := "law.go:61", after := #[{ on := 6, ground := Ground.data }, { on := 22, ground := Ground.data }], guard := none }) (d := 99) (v := ?_) rfl rfl (by kernel_rfl) (by kernel_rfl) (by kernel_rfl) (fun _ _ _ h => h) (Or.inl ⟨by rfl, ?_⟩) hHeld ?_
        rotate_left
        · (intro w' hSw; (try dsimp only at hSw); go_simp; (try with_reducible rfl))
        simp only [List.setIfInBounds_toArray, List.set_cons_zero, List.set_cons_succ]
        refine wpAnyH_done (by kernel_rfl) ?_ _
        replace HW := Lib.hid (HW.out.step (below_drew1 W2))
        clear hHeld g0 g1 e3 e4
        generalize W2.drew = W3 at *
        go_wp2_with fail
        go_roundg (gk - 1)
        case measure => have := HK.out; omega
        case rel => exact ⟨k + 1, by have := HK.out; omega, rfl, by rw [HS1E.out], HW.out⟩
      · have hkp : (0 : Int) < (k : Int) := by omega
        have hkp2 : 0 < k := by omega
        obtain ⟨m, hm⟩ : ∃ m, k = m + 1 := ⟨k - 1, by omega⟩
        obtain ⟨hml, hno⟩ := HPREV.out m hm
        have wm : IntKind.i64.wrap ((k : Int) - 1) = (m : Int) := by rw [IntWalk.i64_in _ (by omega)]; omega
        have p4 : (0 : Int) ≤ (m : Int) := by omega
        have p5 : (m : Int) < (ids.length : Int) := by omega
        obtain ⟨b3', o3', e, e5⟩ := HW.out.ids.at m hml
        injection e with e
        injection e with ea eb
        subst ea; subst eb
        have HPI : Hid (pairI T (ids[m], (j : Int)) = -1) := Lib.hid (by unfold pairI; rw [hno])
        generalize ids[m] = y at *
        clear hm hno hk0
        have HSC : Hid (∀ V, Below W2.heap.size W2 V → V.cell? ⟨g8, 0, none⟩ = some (.slice (some ⟨bb, ob, none⟩) T.length c1) ∧ V.cell? ⟨g8, 1, none⟩ = some (.slice A2 n2 c2) ∧ V.cell? ⟨b4, o4 + k, none⟩ = some (.int .i64 S1) ∧ V.cell? ⟨b3, o3 + m, none⟩ = some (.int .i64 y) ∧ V.cell? ⟨b3, o3 + k, none⟩ = some (.int .i64 (j : Int))) := Lib.hid (fun V hV => ⟨below_cell hV (Nat.le_refl _) g0, below_cell hV (Nat.le_refl _) g1, below_cell hV (Nat.le_refl _) e4, below_cell hV (Nat.le_refl _) e5, below_cell hV (Nat.le_refl _) e3⟩)
        have HBB := Lib.hid (below_drew1 W2)
        clear g0 g1 e3 e4 e5
        go_upto_region 16 with fail
        refine wp_region_D (Ds := []) (S := fun V => V.cell? ⟨g8, 0, none⟩ = some (.slice (some ⟨bb, ob, none⟩) T.length c1) ∧ V.cell? ⟨g8, 1, none⟩ = some (.slice A2 n2 c2) ∧ V.cell? ⟨b4, o4 + k, none⟩ = some (.int .i64 S1) ∧ V.cell? ⟨b3, o3 + m, none⟩ = some (.int .i64 y) ∧ V.cell? ⟨b3, o3 + k, none⟩ = some (.int .i64 (j : Int))) (by kernel_rfl) (by exact HSC.out _ HBB.out) (fun hHeld => ?_)
        refine wpAnyD_takeP (i := 0) (oi := { dst := some 76, op := Op.move (Operand.tmp 10), type := 31, pos := "law.go:61", after := #[], guard := none }) (d := 76) (v := ?_) rfl rfl (by kernel_rfl) (by kernel_rfl) (by kernel_rfl) (fun _ _ _ h => h) (Or.inl ⟨by rfl, ?_⟩) ?_
        rotate_left
        · (intro w' _; go_simp; (try with_reducible rfl))
        simp only [List.setIfInBounds_toArray, List.set_cons_zero, List.set_cons_succ]
        refine wpAnyD_takeP (i := 1) (oi := { dst := some 77, op := Op.move (Operand.tmp 12), type := 3, pos := "law.go:61", after := #[], guard := none }) (d := 77) (v := ?_) rfl rfl (by kernel_rfl) (by kernel_rfl) (by kernel_rfl) (fun _ _ _ h => h) (Or.inl ⟨by rfl, ?_⟩) ?_
        rotate_left
        · (intro w' _; go_simp; (try with_reducible rfl))
        simp only [List.setIfInBounds_toArray, List.set_cons_zero, List.set_cons_succ]
        refine wpAnyD_takeP (i := 2) (oi := { dst := some 78, op := Op.indexAddr 31 (Operand.tmp 76) (Operand.tmp 77), type := 0, pos := "law.go:61", after := #[{ on := 0, ground := Ground.data }, { on := 1, ground := Ground.data }], guard := none }) (d := 78) (v := ?_) rfl rfl (by kernel_rfl) (by kernel_rfl) (by kernel_rfl) (fun _ _ _ h => h) (Or.inl ⟨by rfl, ?_⟩) ?_
        rotate_left
        · (intro w' _; go_simp; (try with_reducible rfl))
        simp only [List.setIfInBounds_toArray, List.set_cons_zero, List.set_cons_succ]
        refine wpAnyD_takeP (i := 4) (oi := { dst := some 80, op := Op.move (Operand.tmp 11), type := 3, pos := "law.go:61", after := #[], guard := none }) (d := 80) (v := ?_) rfl rfl (by kernel_rfl) (by kernel_rfl) (by kernel_rfl) (fun _ _ _ h => h) (Or.inl ⟨by rfl, ?_⟩) ?_
        rotate_left
        · (intro w' _; go_simp; (try with_reducible rfl))
        simp only [List.setIfInBounds_toArray, List.set_cons_zero, List.set_cons_succ]
        refine wpAnyD_takeD (i := 3) (oi := { dst := some 79, op := Op.load 3 (Operand.tmp 78), type := 3, pos := "law.go:61", after := #[{ on := 2, ground := Ground.data }], guard := none }) (d := 79) (v := ?_) rfl rfl (by kernel_rfl) (by kernel_rfl) (by kernel_rfl) (by kernel_rfl) (fun _ _ _ h => h) (Or.inl ⟨by rfl, ?_⟩) hHeld ?_
        rotate_left
        · (intro w' hSw; (try dsimp only at hSw); go_simp; (try with_reducible rfl))
        simp only [List.setIfInBounds_toArray, List.set_cons_zero, List.set_cons_succ]
        refine wpAnyD_takeP (i := 5) (oi := { dst := some 81, op := Op.binOp BinOp.neq 3 (Operand.tmp 79) (Operand.tmp 80) 3, type := 4, pos := "law.go:61", after := #[{ on := 3, ground := Ground.data }, { on := 4, ground := Ground.data }], guard := none }) (d := 81) (v := ?_) rfl rfl (by kernel_rfl) (by kernel_rfl) (by kernel_rfl) (fun _ _ _ h => h) (Or.inl ⟨by rfl, ?_⟩) ?_
        rotate_left
        · (intro w' _; go_simp; (try with_reducible rfl))
        simp only [List.setIfInBounds_toArray, List.set_cons_zero, List.set_cons_succ]
        refine wpAnyD_takeP (i := 6) (oi := { dst := some 82, op := Op.move (Operand.tmp 81), type := 4, pos := "law.go:61", after := #[{ on := 5, ground := Ground.data }], guard := none }) (d := 82) (v := ?_) rfl rfl (by kernel_rfl) (by kernel_rfl) (by kernel_rfl) (fun _ _ _ h => h) (Or.inl ⟨by rfl, ?_⟩) ?_
        rotate_left
        · (intro w' _; go_simp; (try with_reducible rfl))
        simp only [List.setIfInBounds_toArray, List.set_cons_zero, List.set_cons_succ]
        refine wpAnyD_takeP (i := 7) (oi := { dst := some 83, op := Op.move (Operand.tmp 12), type := 3, pos := "law.go:61", after := #[{ on := 6, ground := Ground.guard }], guard := some (6, false) }) (d := 83) (v := ?_) rfl rfl (by kernel_rfl) (by kernel_rfl) (by kernel_rfl) (fun _ _ _ h => h) (Or.inl ⟨by rfl, ?_⟩) ?_
        rotate_left
        · (intro w' _; go_simp; (try with_reducible rfl))
        simp only [List.setIfInBounds_toArray, List.set_cons_zero, List.set_cons_succ]
        refine wpAnyD_takeP (i := 8) (oi := { dst := some 84, op := Op.binOp BinOp.gtr 3 (Operand.tmp 83) (Operand.const (Value.int IntKind.i64 0)) 3, type := 4, pos := "law.go:61", after := #[{ on := 7, ground := Ground.data }, { on := 6, ground := Ground.guard }], guard := some (6, false) }) (d := 84) (v := ?_) rfl rfl (by kernel_rfl) (by kernel_rfl) (by kernel_rfl) (fun _ _ _ h => h) (Or.inl ⟨by rfl, ?_⟩) ?_
        rotate_left
        · (intro w' _; go_simp; (try with_reducible rfl))
        simp only [List.setIfInBounds_toArray, List.set_cons_zero, List.set_cons_succ]
        refine wpAnyD_takeP (i := 9) (oi := { dst := some 85, op := Op.move (Operand.tmp 84), type := 4, pos := "law.go:61", after := #[{ on := 8, ground := Ground.data }, { on := 6, ground := Ground.chain }, { on := 6, ground := Ground.guard }], guard := some (6, false) }) (d := 85) (v := ?_) rfl rfl (by kernel_rfl) (by kernel_rfl) (by kernel_rfl) (fun _ _ _ h => h) (Or.inl ⟨by rfl, ?_⟩) ?_
        rotate_left
        · (intro w' _; go_simp; (try with_reducible rfl))
        simp only [List.setIfInBounds_toArray, List.set_cons_zero, List.set_cons_succ]
        refine wpAnyD_takeP (i := 11) (oi := { dst := some 87, op := Op.move (Operand.tmp 7), type := 31, pos := "law.go:61", after := #[{ on := 9, ground := Ground.guard }], guard := some (9, true) }) (d := 87) (v := ?_) rfl rfl (by kernel_rfl) (by kernel_rfl) (by kernel_rfl) (fun _ _ _ h => h) (Or.inl ⟨by rfl, ?_⟩) ?_
        rotate_left
        · (intro w' _; go_simp; (try with_reducible rfl))
        simp only [List.setIfInBounds_toArray, List.set_cons_zero, List.set_cons_succ]
        refine wpAnyD_takeP (i := 12) (oi := { dst := some 88, op := Op.move (Operand.tmp 12), type := 3, pos := "law.go:61", after := #[{ on := 9, ground := Ground.guard }], guard := some (9, true) }) (d := 88) (v := ?_) rfl rfl (by kernel_rfl) (by kernel_rfl) (by kernel_rfl) (fun _ _ _ h => h) (Or.inl ⟨by rfl, ?_⟩) ?_
        rotate_left
        · (intro w' _; go_simp; (try with_reducible rfl))
        simp only [List.setIfInBounds_toArray, List.set_cons_zero, List.set_cons_succ]
        refine wpAnyD_takeP (i := 13) (oi := { dst := some 89, op := Op.binOp BinOp.sub 3 (Operand.tmp 88) (Operand.const (Value.int IntKind.i64 1)) 3, type := 3, pos := "law.go:61", after := #[{ on := 12, ground := Ground.data }, { on := 9, ground := Ground.guard }], guard := some (9, true) }) (d := 89) (v := ?_) rfl rfl (by kernel_rfl) (by kernel_rfl) (by kernel_rfl) (fun _ _ _ h => h) (Or.inl ⟨by rfl, ?_⟩) ?_
        rotate_left
        · (intro w' _; go_simp; (try with_reducible rfl))
        simp only [List.setIfInBounds_toArray, List.set_cons_zero, List.set_cons_succ]
        refine wpAnyD_takeP (i := 14) (oi := { dst := some 90, op := Op.indexAddr 31 (Operand.tmp 87) (Operand.tmp 89), type := 0, pos := "law.go:61", after := #[{ on := 11, ground := Ground.data }, { on := 13, ground := Ground.data }, { on := 9, ground := Ground.guard }], guard := some (9, true) }) (d := 90) (v := ?_) rfl rfl (by kernel_rfl) (by kernel_rfl) (by kernel_rfl) (fun _ _ _ h => h) (Or.inl ⟨by rfl, ?_⟩) ?_
        rotate_left
        · (intro w' _; go_simp; (try with_reducible rfl))
        simp only [List.setIfInBounds_toArray, List.set_cons_zero, List.set_cons_succ]
        refine wpAnyD_takeP (i := 16) (oi := { dst := some 92, op := Op.move (Operand.tmp 7), type := 31, pos := "law.go:61", after := #[{ on := 9, ground := Ground.guard }], guard := some (9, true) }) (d := 92) (v := ?_) rfl rfl (by kernel_rfl) (by kernel_rfl) (by kernel_rfl) (fun _ _ _ h => h) (Or.inl ⟨by rfl, ?_⟩) ?_
        rotate_left
        · (intro w' _; go_simp; (try with_reducible rfl))
        simp only [List.setIfInBounds_toArray, List.set_cons_zero, List.set_cons_succ]
        refine wpAnyD_takeP (i := 17) (oi := { dst := some 93, op := Op.move (Operand.tmp 12), type := 3, pos := "law.go:61", after := #[{ on := 9, ground := Ground.guard }], guard := some (9, true) }) (d := 93) (v := ?_) rfl rfl (by kernel_rfl) (by kernel_rfl) (by kernel_rfl) (fun _ _ _ h => h) (Or.inl ⟨by rfl, ?_⟩) ?_
        rotate_left
        · (intro w' _; go_simp; (try with_reducible rfl))
        simp only [List.setIfInBounds_toArray, List.set_cons_zero, List.set_cons_succ]
        refine wpAnyD_takeP (i := 18) (oi := { dst := some 94, op := Op.indexAddr 31 (Operand.tmp 92) (Operand.tmp 93), type := 0, pos := "law.go:61", after := #[{ on := 16, ground := Ground.data }, { on := 17, ground := Ground.data }, { on := 9, ground := Ground.guard }], guard := some (9, true) }) (d := 94) (v := ?_) rfl rfl (by kernel_rfl) (by kernel_rfl) (by kernel_rfl) (fun _ _ _ h => h) (Or.inl ⟨by rfl, ?_⟩) ?_
        rotate_left
        · (intro w' _; go_simp; (try with_reducible rfl))
        simp only [List.setIfInBounds_toArray, List.set_cons_zero, List.set_cons_succ]
        refine wpAnyD_takeD (i := 10) (oi := { dst := some 86, op := Op.load 28 (Operand.tmp 6), type := 28, pos := "law.go:61", after := #[{ on := 9, ground := Ground.guard }], guard := some (9, true) }) (d := 86) (v := ?_) rfl rfl (by kernel_rfl) (by kernel_rfl) (by kernel_rfl) (by kernel_rfl) (fun _ _ _ h => h) (Or.inl ⟨by rfl, ?_⟩) hHeld ?_
        rotate_left
        · (intro w' hSw; (try dsimp only at hSw); go_simp; (try with_reducible rfl))
        simp only [List.setIfInBounds_toArray, List.set_cons_zero, List.set_cons_succ]
        refine wpAnyD_takeD (i := 15) (oi := { dst := some 91, op := Op.load 3 (Operand.tmp 90), type := 3, pos := "law.go:61", after := #[{ on := 14, ground := Ground.data }, { on := 9, ground := Ground.guard }], guard := some (9, true) }) (d := 91) (v := ?_) rfl rfl (by kernel_rfl) (by kernel_rfl) (by kernel_rfl) (by kernel_rfl) (fun _ _ _ h => h) (Or.inl ⟨by rfl, ?_⟩) hHeld ?_
        rotate_left
        · (intro w' hSw; (try dsimp only at hSw); go_simp; (try with_reducible rfl))
        simp only [List.setIfInBounds_toArray, List.set_cons_zero, List.set_cons_succ]
        refine wpAnyD_takeD (i := 19) (oi := { dst := some 95, op := Op.load 3 (Operand.tmp 94), type := 3, pos := "law.go:61", after := #[{ on := 18, ground := Ground.data }, { on := 9, ground := Ground.guard }], guard := some (9, true) }) (d := 95) (v := ?_) rfl rfl (by kernel_rfl) (by kernel_rfl) (by kernel_rfl) (by kernel_rfl) (fun _ _ _ h => h) (Or.inl ⟨by rfl, ?_⟩) hHeld ?_
        rotate_left
        · (intro w' hSw; (try dsimp only at hSw); go_simp; (try with_reducible rfl))
        simp only [List.setIfInBounds_toArray, List.set_cons_zero, List.set_cons_succ]
        refine wpAnyD_one (i := 20) (o := { dst := some 96, op := Op.call { callee := Callee.value (Operand.func 21), args := #[Operand.tmp 86, Operand.tmp 91, Operand.tmp 95], argTypes := #[28, 3, 3] }, type := 3, pos := "law.go:61", after := #[{ on := 10, ground := Ground.data }, { on := 15, ground := Ground.data }, { on := 19, ground := Ground.data }, { on := 9, ground := Ground.chain }, { on := 9, ground := Ground.guard }], guard := some (9, true) }) (by kernel_rfl) rfl (by rfl) (fun K hK => ?_)
        go_simp; refine (rpair_any y (j : Int) (HW.out.ref.below HBB.out (Nat.le_refl _)) HOK.out).mono ?_; rintro e V1 ⟨rfl, hb⟩; replace HBB := Lib.hid (HBB.out.trans (hb.mono HBB.out.size)); have h := HSC.out _ HBB.out; clear hb; rw [HPI.out]; go_simp
        refine hK.out _ _ h (fun hHeld => ?_)
        clear hK K
        try simp only [Act.put, List.setIfInBounds_toArray, List.set_cons_zero, List.set_cons_succ]
        refine wpAnyD_takeP (i := 21) (oi := { dst := some 97, op := Op.binOp BinOp.geq 3 (Operand.tmp 96) (Operand.const (Value.int IntKind.i64 0)) 3, type := 4, pos := "law.go:61", after := #[{ on := 20, ground := Ground.data }, { on := 9, ground := Ground.guard }], guard := some (9, true) }) (d := 97) (v := ?_) rfl rfl (by kernel_rfl) (by kernel_rfl) (by kernel_rfl) (fun _ _ _ h => h) (Or.inl ⟨by rfl, ?_⟩) ?_
        rotate_left
        · (intro w' _; go_simp; (try with_reducible rfl))
        simp only [List.setIfInBounds_toArray, List.set_cons_zero, List.set_cons_succ]
        refine wpAnyD_takeP (i := 22) (oi := { dst := some 98, op := Op.pick (Operand.tmp 85) (Operand.tmp 97) (Operand.const (Value.bool false)), type := 4, pos := "law.go:61", after := #[{ on := 9, ground := Ground.data }, { on := 21, ground := Ground.data }, { on := 6, ground := Ground.guard }], guard := some (6, false) }) (d := 98) (v := ?_) rfl rfl (by kernel_rfl) (by kernel_rfl) (by kernel_rfl) (fun _ _ _ h => h) (Or.inl ⟨by rfl, ?_⟩) ?_
        rotate_left
        · (intro w' _; go_simp; (try with_reducible rfl))
        simp only [List.setIfInBounds_toArray, List.set_cons_zero, List.set_cons_succ]
        refine wpAnyD_takeP (i := 23) (oi := { dst := some 99, op := Op.pick (Operand.tmp 82) (Operand.const (Value.bool true)) (Operand.tmp 98), type := 4, pos := "law.go:61", after := #[{ on := 6, ground := Ground.data }, { on := 22, ground := Ground.data }], guard := none }) (d := 99) (v := ?_) rfl rfl (by kernel_rfl) (by kernel_rfl) (by kernel_rfl) (fun _ _ _ h => h) (Or.inl ⟨by rfl, ?_⟩) ?_
        rotate_left
        · (intro w' _; go_simp; (try with_reducible rfl))
        simp only [List.setIfInBounds_toArray, List.set_cons_zero, List.set_cons_succ]
        refine wpAnyD_done (by kernel_rfl) ?_ _
        replace HW := Lib.hid (HW.out.step HBB.out)
        clear hHeld h
        go_wp2_with fail
        go_roundg (gk - 1)
        case measure => have := HK.out; omega
        case rel => exact ⟨k + 1, by have := HK.out; omega, rfl, by rw [HS1E.out], HW.out⟩
    · have hke : k = ids.length := by omega
      have hq : ¬ (k : Int) < (ids.length : Int) := by omega
      clear hk hke HK
      go_wp2_with fail
      go_ret
      exact ⟨rfl, HW.out.bl⟩
theorem cback_law (xs : List Int) (A : Option Addr) (c : Nat) (s : ByteArray) (w : World) (_ : xs.length ≤ c) (_ : c ≤ maxLen) (hw : ∀ y ∈ xs, (Lit.int .u16 y).wf = true) (hs : Sl1 w A (Value.int .u16) xs) (_ : s.size ≤ maxLen) :
    Calls Try.prog 5 #[.slice A xs.length c, .string s] w (RetTrue w) := by
  by_cases h : xs.length ≤ 60
  · by_cases h3 : s.size ≤ 1000
    · obtain ⟨l, e, h1, h2⟩ := nats_of hw hs
      rw [← e]
      exact cback_small l A c s w h2 h1 (by omega) h3
    · have h1 : ¬ (60 : Int) < (xs.length : Int) := by omega
      have h2 : (1000 : Int) < (s.size : Int) := by omega
      go_enter Try.func5, Try.ntmps5
      go_wp2_with fail
      refine (awake5_any _).mono ?_
      rintro e w1 ⟨rfl, hb1⟩
      go_wp2_with fail
      go_ret
      exact ⟨rfl, hb1⟩
  · have h1 : (60 : Int) < (xs.length : Int) := by omega
    go_enter Try.func5, Try.ntmps5
    go_wp2_with fail
    refine (awake5_any _).mono ?_
    rintro e w1 ⟨rfl, hb1⟩
    go_wp2_with fail
    go_ret
    exact ⟨rfl, hb1⟩
end Go.Proofs.Ytpkmcokkapfnmaa
