/- BoundParts: the pieces are the bytes, each whole, with a cut between each two; of two texts together they are those of both, or the last and the first one are one: the walk. -/
import Derived.Test.YtdppdjiigecjoaaBoundLaw0
import Derived.Test.YtdppdjiigecjoaaParts
namespace Go.Proofs.Ytdppdjiigecjoaa
open Go.RowKit
set_option maxRecDepth 100000
set_option linter.unusedVariables false
set_option linter.unusedSimpArgs false

theorem append_data (a b : ByteArray) : (a ++ b).data.toList = a.data.toList ++ b.data.toList := by
  simp
theorem bs_append (a b : List UInt8) : bs a ++ bs b = bs (a ++ b) := by
  apply ByteArray.ext; simp [bs]
theorem bs_size (a : List UInt8) : (bs a).size = a.length := by simp [bs, ByteArray.size]
theorem flatten_take_snoc (ps : List (List UInt8)) (k : Nat) (h : k < ps.length) : (ps.take (k + 1)).flatten = (ps.take k).flatten ++ ps[k] := by
  rw [take_snoc h, List.flatten_append, List.flatten_singleton]
theorem flatten_take_le (ps : List (List UInt8)) (k : Nat) : (ps.take k).flatten.length ≤ ps.flatten.length := by
  conv => rhs; rw [← List.take_append_drop k ps]
  rw [List.flatten_append, List.length_append]; omega
theorem piece_le (ps : List (List UInt8)) (k : Nat) (h : k < ps.length) : (ps[k]).length ≤ ps.flatten.length := by
  have h1 := flatten_take_le ps (k + 1)
  rw [flatten_take_snoc ps k h, List.length_append] at h1
  omega

theorem joined_bet {cut : Nat → Nat → Bool} {a b : List UInt8} (ha : 0 < (pcs cut a).length) (hb : 0 < (pcs cut b).length) : joined cut a b = if betB cut a b then 0 else 1 := by
  have h1 := pcs_empty ha
  have h2 := pcs_empty hb
  unfold joined betB
  rcases snoc_cases a with rfl | ⟨p, x, rfl⟩
  · exact absurd rfl h1
  · cases b with
    | nil => exact absurd rfl h2
    | cons y b => simp

/-- what is known in the loop over all pieces -/
structure LQ (w0 : World) (p : Option Addr) (cut : Nat → Nat → Bool) (A13 : Option Addr) (ps : List (List UInt8)) (w : World) : Prop where
  below : Below w0.heap.size w0 w
  tp : TP w p cut
  sl : Sl1 w A13 strV ps
theorem LQ.step {w0 w w' : World} {cut : Nat → Nat → Bool} {p A13 : Option Addr} {ps : List (List UInt8)} (h : LQ w0 p cut A13 ps w) (hb : Below w.heap.size w w') : LQ w0 p cut A13 ps w' :=
  ⟨below_then h.below h.below.size hb, h.tp.below hb (Nat.le_refl _), h.sl.below hb (Nat.le_refl _)⟩

set_option maxHeartbeats 4000000 in
theorem bpar_right (cs : List Cls) (js : List Jn) (A B : Option Addr) (cA cB : Nat) (s u : ByteArray) (w : World) (hA : Sl w A encCls 3 cs) (hB : Sl w B encJn 2 js) (hcs : cs.length ≤ 100) (hjs : js.length ≤ 100) (hs : s.size ≤ 300) (hu : u.size ≤ 300)
    (hr1 : cs.all spanB = true) (hr2 : js.all jnB = true) :
    Calls Try.prog 4 #[.slice A cs.length cA, .slice B js.length cB, .string s, .string u] w (RetTrue w) := by
  have HR1 := Lib.hid hr1
  have HR2 := Lib.hid hr2
  have H0 := Lib.hid (show RTab w cs js A B w from ⟨Below.refl _ _, hA, hB⟩)
  clear hA hB hr1 hr2
  obtain ⟨cut, hcut⟩ : ∃ cut, cut = cutB (Cof cs) (Jof js) := ⟨_, rfl⟩
  have HCUT := Lib.hid hcut
  clear hcut
  go_enter Try.func4, Try.ntmps4
  go_wp2_with fail
  refine (bawake _).mono ?_
  rintro e w0 ⟨rfl, hb0⟩
  have H00 := Lib.hid (H0.out.step hb0)
  clear H0 hb0
  go_wp2_with fail
  refine (new_ok cs js A B cA cB w0 H00.out.cl H00.out.jn (by omega) (by omega) HR1.out HR2.out).mono ?_
  rintro e w1 ⟨hb1, bk, hbk, rfl, ht⟩
  rw [← HCUT.out] at ht
  have HT := Lib.hid (show LQ w (some ⟨bk, 0, none⟩) cut none [] w1 from ⟨(H00.out.step hb1).below, ht, Sl1.nil _ _ _⟩)
  clear hb1 ht H00 hbk
  have t1 : (9223372036854775807 < s.size + u.size) = False := by rw [eq_iff_iff, iff_false]; omega
  go_wp2_with fail
  refine (pieces_any _ cut s _ HT.out.tp (by omega)).mono ?_
  rintro e w2 ⟨v2, rfl, hb2, ho2⟩
  obtain ⟨A11, c11, rfl⟩ := own_slice ho2
  have HT2 := Lib.hid (HT.out.step hb2)
  clear hb2 ho2 HT
  go_wp2_with fail
  refine (pieces_any _ cut u _ HT2.out.tp (by omega)).mono ?_
  rintro e w3 ⟨v3, rfl, hb3, ho3⟩
  obtain ⟨A12, c12, rfl⟩ := own_slice ho3
  have HT3 := Lib.hid (HT2.out.step hb3)
  clear hb3 ho3 HT2
  go_wp2_with fail
  refine (pieces_any _ cut (s ++ u) _ HT3.out.tp (by simp; omega)).mono ?_
  rintro e w4 ⟨v4, rfl, hb4, ho4⟩
  obtain ⟨A13, c13, rfl⟩ := own_slice ho4
  rw [append_data] at ho4
  have hlen : (pcs cut (s ++ u).data.toList).length = (pcs cut (s.data.toList ++ u.data.toList)).length := by rw [append_data]
  rw [hlen]
  have hp1 := length_pcs_le cut s.data.toList
  have hp2 := length_pcs_le cut u.data.toList
  have hp3 := length_pcs_le cut (s.data.toList ++ u.data.toList)
  rw [data_len] at hp1 hp2
  rw [List.length_append, data_len, data_len] at hp3
  have HT4 := Lib.hid (show LQ w (some ⟨bk, 0, none⟩) cut A13 (pcs cut (s.data.toList ++ u.data.toList)) w4 from ⟨(HT3.out.step hb4).below, (HT3.out.step hb4).tp, own_sl1 ho4⟩)
  have HFL := Lib.hid (pcs_flatten cut (s.data.toList ++ u.data.toList))
  have HGD := Lib.hid (good_pcs cut (s.data.toList ++ u.data.toList))
  have HAL := Lib.hid (pcs_append_len cut s.data.toList u.data.toList)
  have HFLL := Lib.hid (show (pcs cut (s.data.toList ++ u.data.toList)).flatten.length ≤ 600 by rw [HFL.out, List.length_append, data_len, data_len]; omega)
  clear hb4 ho4 HT3 hlen
  generalize hps : pcs cut (s.data.toList ++ u.data.toList) = ps at *
  clear hps
  go_wp2_with fail
  go_loopg [14, 15] ps.length (fun n v i W => ∃ k : Nat, k + n = ps.length ∧ i = .int .i64 (k : Int) ∧ v = .string (bs (ps.take k).flatten) ∧ LQ w (some ⟨bk, 0, none⟩) cut A13 ps W)
  case atStart => exact ⟨0, by omega, rfl, rfl, HT4.out⟩
  case round =>
    obtain ⟨k, hk, rfl, rfl, hW⟩ := hrel
    have HW := Lib.hid hW
    clear hW HT4
    rename World => W
    by_cases hlt : k < ps.length
    · obtain ⟨ba, o, rfl, g0⟩ := HW.out.sl.at k hlt
      have hfull := HGD.out.full ps[k] (List.getElem_mem hlt)
      have hwh := pcs_whole _ ps[k] rfl (HGD.out.whole ps[k] (List.getElem_mem hlt)) hfull
      have hsn := flatten_take_snoc ps k hlt
      have hle1 := flatten_take_le ps k
      have hle2 := piece_le ps k hlt
      have HFU := Lib.hid hfull
      have HWH := Lib.hid hwh
      have HSN := Lib.hid hsn
      obtain ⟨P, hP⟩ : ∃ P, ps[k] = P := ⟨_, rfl⟩
      rw [hP] at g0 hle2
      have HP := Lib.hid hP
      clear hfull hwh hsn hP
      simp only [strV] at g0
      have i1 : (k : Int) < (ps.length : Int) := by omega
      have i0 : 0 ≤ (k : Int) := by omega
      have hne1 : ((bs P).toList == []) = false := by rw [bs_toList, beq_eq_false_iff_ne, ← HP.out]; exact HFU.out
      have hne2 : (bs P).toList.isEmpty = false := by rw [bs_toList]; cases hq : P with | nil => exact absurd (HP.out.trans hq) HFU.out | cons a l => rfl
      have hbig : (9223372036854775807 < (bs (ps.take k).flatten).size + (bs P).size) = False := by rw [eq_iff_iff, iff_false, bs_size, bs_size]; have := HFLL.out; omega
      go_upto_region 11 with fail
      go_cut [96] (fun v U => v = .bool false ∧ LQ w (some ⟨bk, 0, none⟩) cut (some ⟨ba, o, none⟩) ps U ∧ U.cell? ⟨ba, o + k, none⟩ = some (.string (bs P)))
      case first =>
        have HC21 : ∀ U : World, U.cell? ⟨ba, o + k, none⟩ = some (.string (bs P)) ∧ LQ w (some ⟨bk, 0, none⟩) cut (some ⟨ba, o, none⟩) ps U →
            Calls Try.prog 21 #[.pointer (some ⟨bk, 0, none⟩), .string (bs P)] U fun e U' => e = .returned (.bool true) ∧ U'.cell? ⟨ba, o + k, none⟩ = some (.string (bs P)) ∧ LQ w (some ⟨bk, 0, none⟩) cut (some ⟨ba, o, none⟩) ps U' := by
          rintro U ⟨h1, h2⟩
          refine (whole_any _ cut (bs P) U h2.tp (by rw [bs_size]; have := HFLL.out; omega)).mono ?_
          rintro e U' ⟨rfl, hbU⟩
          refine ⟨ret_bool ?_, below_cell hbU (Nat.le_refl _) h1, h2.step hbU⟩
          have : pcs cut (bs P).data.toList = [P] := by rw [← HP.out]; exact HWH.out
          rw [this]; rfl
        have K21 := Lib.hid HC21
        clear HC21
        rcases Nat.eq_zero_or_pos k with hk0 | hk0
        · subst hk0
          rw [show ((0 : Nat) : Int) = 0 from rfl]
          simp only [Nat.add_zero] at g0 K21
          refine wp_region_held_drew (S := fun U => U.cell? ⟨ba, o, none⟩ = some (.string (bs P)) ∧ LQ w (some ⟨bk, 0, none⟩) cut (some ⟨ba, o, none⟩) ps U) (by kernel_rfl) (by exact ⟨g0, HW.out.step (Below.refl _ _).drew⟩) (fun hHeld => ?_)
          refine wpAnyH_takeD (i := 0) (oi := { dst := some 65, op := Op.move (Operand.tmp 13), type := 32, pos := "law.go:58", after := #[], guard := none }) (d := 65) (v := ?_) rfl rfl (by kernel_rfl) (by kernel_rfl) (by kernel_rfl) (fun _ _ _ h => h) (Or.inl ⟨by rfl, ?_⟩) hHeld ?_
          rotate_left
          · (intro w' hSw; (try dsimp only at hSw); go_simp; (try with_reducible rfl))
          simp only [List.setIfInBounds_toArray, List.set_cons_zero, List.set_cons_succ]
          refine wpAnyH_takeD (i := 1) (oi := { dst := some 66, op := Op.move (Operand.tmp 15), type := 3, pos := "law.go:58", after := #[], guard := none }) (d := 66) (v := ?_) rfl rfl (by kernel_rfl) (by kernel_rfl) (by kernel_rfl) (fun _ _ _ h => h) (Or.inl ⟨by rfl, ?_⟩) hHeld ?_
          rotate_left
          · (intro w' hSw; (try dsimp only at hSw); go_simp; (try with_reducible rfl))
          simp only [List.setIfInBounds_toArray, List.set_cons_zero, List.set_cons_succ]
          refine wpAnyH_takeD (i := 2) (oi := { dst := some 67, op := Op.indexAddr 32 (Operand.tmp 65) (Operand.tmp 66), type := 0, pos := "law.go:58", after := #[{ on := 0, ground := Ground.data }, { on := 1, ground := Ground.data }], guard := none }) (d := 67) (v := ?_) rfl rfl (by kernel_rfl) (by kernel_rfl) (by kernel_rfl) (fun _ _ _ h => h) (Or.inl ⟨by rfl, ?_⟩) hHeld ?_
          rotate_left
          · (intro w' hSw; (try dsimp only at hSw); go_simp; (try with_reducible rfl))
          simp only [List.setIfInBounds_toArray, List.set_cons_zero, List.set_cons_succ]
          refine wpAnyH_takeD (i := 3) (oi := { dst := some 68, op := Op.load 9 (Operand.tmp 67), type := 9, pos := "law.go:58", after := #[{ on := 2, ground := Ground.data }], guard := none }) (d := 68) (v := ?_) rfl rfl (by kernel_rfl) (by kernel_rfl) (by kernel_rfl) (fun _ _ _ h => h) (Or.inl ⟨by rfl, ?_⟩) hHeld ?_
          rotate_left
          · (intro w' hSw; (try dsimp only at hSw); go_simp; (try with_reducible rfl))
          simp only [List.setIfInBounds_toArray, List.set_cons_zero, List.set_cons_succ]
          refine wpAnyH_takeD (i := 4) (oi := { dst := some 69, op := Op.binOp BinOp.eql 9 (Operand.tmp 68) (Operand.const (Value.string { data := #[] })) 9, type := 4, pos := "law.go:58", after := #[{ on := 3, ground := Ground.data }], guard := none }) (d := 69) (v := ?_) rfl rfl (by kernel_rfl) (by kernel_rfl) (by kernel_rfl) (fun _ _ _ h => h) (Or.inl ⟨by rfl, ?_⟩) hHeld ?_
          rotate_left
          · (intro w' hSw; (try dsimp only at hSw); go_simp; (try with_reducible rfl))
          simp only [List.setIfInBounds_toArray, List.set_cons_zero, List.set_cons_succ]
          refine wpAnyH_takeD (i := 5) (oi := { dst := some 70, op := Op.move (Operand.tmp 69), type := 4, pos := "law.go:58", after := #[{ on := 4, ground := Ground.data }], guard := none }) (d := 70) (v := ?_) rfl rfl (by kernel_rfl) (by kernel_rfl) (by kernel_rfl) (fun _ _ _ h => h) (Or.inl ⟨by rfl, ?_⟩) hHeld ?_
          rotate_left
          · (intro w' hSw; (try dsimp only at hSw); go_simp; (try with_reducible rfl))
          simp only [List.setIfInBounds_toArray, List.set_cons_zero, List.set_cons_succ]
          refine wpAnyH_takeD (i := 6) (oi := { dst := some 71, op := Op.move (Operand.tmp 9), type := 25, pos := "law.go:58", after := #[{ on := 5, ground := Ground.guard }], guard := some (5, false) }) (d := 71) (v := ?_) rfl rfl (by kernel_rfl) (by kernel_rfl) (by kernel_rfl) (fun _ _ _ h => h) (Or.inl ⟨by rfl, ?_⟩) hHeld ?_
          rotate_left
          · (intro w' hSw; (try dsimp only at hSw); go_simp; (try with_reducible rfl))
          simp only [List.setIfInBounds_toArray, List.set_cons_zero, List.set_cons_succ]
          refine wpAnyH_takeD (i := 7) (oi := { dst := some 72, op := Op.move (Operand.tmp 13), type := 32, pos := "law.go:58", after := #[{ on := 5, ground := Ground.guard }], guard := some (5, false) }) (d := 72) (v := ?_) rfl rfl (by kernel_rfl) (by kernel_rfl) (by kernel_rfl) (fun _ _ _ h => h) (Or.inl ⟨by rfl, ?_⟩) hHeld ?_
          rotate_left
          · (intro w' hSw; (try dsimp only at hSw); go_simp; (try with_reducible rfl))
          simp only [List.setIfInBounds_toArray, List.set_cons_zero, List.set_cons_succ]
          refine wpAnyH_takeD (i := 8) (oi := { dst := some 73, op := Op.move (Operand.tmp 15), type := 3, pos := "law.go:58", after := #[{ on := 5, ground := Ground.guard }], guard := some (5, false) }) (d := 73) (v := ?_) rfl rfl (by kernel_rfl) (by kernel_rfl) (by kernel_rfl) (fun _ _ _ h => h) (Or.inl ⟨by rfl, ?_⟩) hHeld ?_
          rotate_left
          · (intro w' hSw; (try dsimp only at hSw); go_simp; (try with_reducible rfl))
          simp only [List.setIfInBounds_toArray, List.set_cons_zero, List.set_cons_succ]
          refine wpAnyH_takeD (i := 9) (oi := { dst := some 74, op := Op.indexAddr 32 (Operand.tmp 72) (Operand.tmp 73), type := 0, pos := "law.go:58", after := #[{ on := 7, ground := Ground.data }, { on := 8, ground := Ground.data }, { on := 5, ground := Ground.guard }], guard := some (5, false) }) (d := 74) (v := ?_) rfl rfl (by kernel_rfl) (by kernel_rfl) (by kernel_rfl) (fun _ _ _ h => h) (Or.inl ⟨by rfl, ?_⟩) hHeld ?_
          rotate_left
          · (intro w' hSw; (try dsimp only at hSw); go_simp; (try with_reducible rfl))
          simp only [List.setIfInBounds_toArray, List.set_cons_zero, List.set_cons_succ]
          refine wpAnyH_takeD (i := 10) (oi := { dst := some 75, op := Op.load 9 (Operand.tmp 74), type := 9, pos := "law.go:58", after := #[{ on := 9, ground := Ground.data }, { on := 5, ground := Ground.guard }], guard := some (5, false) }) (d := 75) (v := ?_) rfl rfl (by kernel_rfl) (by kernel_rfl) (by kernel_rfl) (fun _ _ _ h => h) (Or.inl ⟨by rfl, ?_⟩) hHeld ?_
          rotate_left
          · (intro w' hSw; (try dsimp only at hSw); go_simp; (try with_reducible rfl))
          simp only [List.setIfInBounds_toArray, List.set_cons_zero, List.set_cons_succ]
          refine wpAnyH_ready (rs := [11]) (by kernel_rfl) (by simp) ?_
          refine AllReadyH.cons (o := { dst := some 76, op := Op.call { callee := Callee.value (Operand.func 21), args := #[Operand.tmp 71, Operand.tmp 75], argTypes := #[25, 9] }, type := 4, pos := "law.go:58", after := #[{ on := 6, ground := Ground.data }, { on := 10, ground := Ground.data }, { on := 5, ground := Ground.chain }, { on := 5, ground := Ground.guard }], guard := some (5, false) }) rfl (fun K hK => ?_) AllReadyH.nil
          (try go_simp)
          refine (K21.out _ hHeld).mono ?_; rintro e w' ⟨rfl, h⟩
          go_wp2_with fail
          refine hK.out _ _ h (fun hHeld => ?_)
          clear hK K
          try simp only [Act.put, List.setIfInBounds_toArray, List.set_cons_zero, List.set_cons_succ]
          refine wpAnyH_takeD (i := 12) (oi := { dst := some 77, op := Op.unOp UnOp.not 4 (Operand.tmp 76), type := 4, pos := "law.go:58", after := #[{ on := 11, ground := Ground.data }, { on := 5, ground := Ground.guard }], guard := some (5, false) }) (d := 77) (v := ?_) rfl rfl (by kernel_rfl) (by kernel_rfl) (by kernel_rfl) (fun _ _ _ h => h) (Or.inl ⟨by rfl, ?_⟩) hHeld ?_
          rotate_left
          · (intro w' hSw; (try dsimp only at hSw); go_simp; (try with_reducible rfl))
          simp only [List.setIfInBounds_toArray, List.set_cons_zero, List.set_cons_succ]
          refine wpAnyH_takeD (i := 13) (oi := { dst := some 78, op := Op.pick (Operand.tmp 70) (Operand.const (Value.bool true)) (Operand.tmp 77), type := 4, pos := "law.go:58", after := #[{ on := 5, ground := Ground.data }, { on := 12, ground := Ground.data }], guard := none }) (d := 78) (v := ?_) rfl rfl (by kernel_rfl) (by kernel_rfl) (by kernel_rfl) (fun _ _ _ h => h) (Or.inl ⟨by rfl, ?_⟩) hHeld ?_
          rotate_left
          · (intro w' hSw; (try dsimp only at hSw); go_simp; (try with_reducible rfl))
          simp only [List.setIfInBounds_toArray, List.set_cons_zero, List.set_cons_succ]
          refine wpAnyH_takeD (i := 14) (oi := { dst := some 79, op := Op.move (Operand.tmp 78), type := 4, pos := "law.go:58", after := #[{ on := 13, ground := Ground.data }, { on := 11, ground := Ground.chain }], guard := none }) (d := 79) (v := ?_) rfl rfl (by kernel_rfl) (by kernel_rfl) (by kernel_rfl) (fun _ _ _ h => h) (Or.inl ⟨by rfl, ?_⟩) hHeld ?_
          rotate_left
          · (intro w' hSw; (try dsimp only at hSw); go_simp; (try with_reducible rfl))
          simp only [List.setIfInBounds_toArray, List.set_cons_zero, List.set_cons_succ]
          refine wpAnyH_takeD (i := 15) (oi := { dst := some 80, op := Op.move (Operand.tmp 15), type := 3, pos := "law.go:58", after := #[{ on := 14, ground := Ground.guard }], guard := some (14, false) }) (d := 80) (v := ?_) rfl rfl (by kernel_rfl) (by kernel_rfl) (by kernel_rfl) (fun _ _ _ h => h) (Or.inl ⟨by rfl, ?_⟩) hHeld ?_
          rotate_left
          · (intro w' hSw; (try dsimp only at hSw); go_simp; (try with_reducible rfl))
          simp only [List.setIfInBounds_toArray, List.set_cons_zero, List.set_cons_succ]
          refine wpAnyH_takeD (i := 16) (oi := { dst := some 81, op := Op.binOp BinOp.gtr 3 (Operand.tmp 80) (Operand.const (Value.int IntKind.i64 0)) 3, type := 4, pos := "law.go:58", after := #[{ on := 15, ground := Ground.data }, { on := 14, ground := Ground.guard }], guard := some (14, false) }) (d := 81) (v := ?_) rfl rfl (by kernel_rfl) (by kernel_rfl) (by kernel_rfl) (fun _ _ _ h => h) (Or.inl ⟨by rfl, ?_⟩) hHeld ?_
          rotate_left
          · (intro w' hSw; (try dsimp only at hSw); go_simp; (try with_reducible rfl))
          simp only [List.setIfInBounds_toArray, List.set_cons_zero, List.set_cons_succ]
          refine wpAnyH_takeD (i := 17) (oi := { dst := some 82, op := Op.move (Operand.tmp 81), type := 4, pos := "law.go:58", after := #[{ on := 16, ground := Ground.data }, { on := 14, ground := Ground.chain }, { on := 14, ground := Ground.guard }], guard := some (14, false) }) (d := 82) (v := ?_) rfl rfl (by kernel_rfl) (by kernel_rfl) (by kernel_rfl) (fun _ _ _ h => h) (Or.inl ⟨by rfl, ?_⟩) hHeld ?_
          rotate_left
          · (intro w' hSw; (try dsimp only at hSw); go_simp; (try with_reducible rfl))
          simp only [List.setIfInBounds_toArray, List.set_cons_zero, List.set_cons_succ]
          refine wpAnyH_takeD (i := 18) (oi := { dst := some 83, op := Op.move (Operand.tmp 9), type := 25, pos := "law.go:58", after := #[{ on := 17, ground := Ground.guard }], guard := some (17, true) }) (d := 83) (v := undef) rfl rfl (by kernel_rfl) (by kernel_rfl) (by kernel_rfl) (fun _ _ _ h => h) (Or.inr ⟨by rfl, rfl⟩) hHeld ?_
          simp only [List.setIfInBounds_toArray, List.set_cons_zero, List.set_cons_succ]
          refine wpAnyH_takeD (i := 19) (oi := { dst := some 84, op := Op.move (Operand.tmp 13), type := 32, pos := "law.go:58", after := #[{ on := 17, ground := Ground.guard }], guard := some (17, true) }) (d := 84) (v := undef) rfl rfl (by kernel_rfl) (by kernel_rfl) (by kernel_rfl) (fun _ _ _ h => h) (Or.inr ⟨by rfl, rfl⟩) hHeld ?_
          simp only [List.setIfInBounds_toArray, List.set_cons_zero, List.set_cons_succ]
          refine wpAnyH_takeD (i := 20) (oi := { dst := some 85, op := Op.move (Operand.tmp 15), type := 3, pos := "law.go:58", after := #[{ on := 17, ground := Ground.guard }], guard := some (17, true) }) (d := 85) (v := undef) rfl rfl (by kernel_rfl) (by kernel_rfl) (by kernel_rfl) (fun _ _ _ h => h) (Or.inr ⟨by rfl, rfl⟩) hHeld ?_
          simp only [List.setIfInBounds_toArray, List.set_cons_zero, List.set_cons_succ]
          refine wpAnyH_takeD (i := 21) (oi := { dst := some 86, op := Op.binOp BinOp.sub 3 (Operand.tmp 85) (Operand.const (Value.int IntKind.i64 1)) 3, type := 3, pos := "law.go:58", after := #[{ on := 20, ground := Ground.data }, { on := 17, ground := Ground.guard }], guard := some (17, true) }) (d := 86) (v := undef) rfl rfl (by kernel_rfl) (by kernel_rfl) (by kernel_rfl) (fun _ _ _ h => h) (Or.inr ⟨by rfl, rfl⟩) hHeld ?_
          simp only [List.setIfInBounds_toArray, List.set_cons_zero, List.set_cons_succ]
          refine wpAnyH_takeD (i := 22) (oi := { dst := some 87, op := Op.indexAddr 32 (Operand.tmp 84) (Operand.tmp 86), type := 0, pos := "law.go:58", after := #[{ on := 19, ground := Ground.data }, { on := 21, ground := Ground.data }, { on := 17, ground := Ground.guard }], guard := some (17, true) }) (d := 87) (v := undef) rfl rfl (by kernel_rfl) (by kernel_rfl) (by kernel_rfl) (fun _ _ _ h => h) (Or.inr ⟨by rfl, rfl⟩) hHeld ?_
          simp only [List.setIfInBounds_toArray, List.set_cons_zero, List.set_cons_succ]
          refine wpAnyH_takeD (i := 23) (oi := { dst := some 88, op := Op.load 9 (Operand.tmp 87), type := 9, pos := "law.go:58", after := #[{ on := 22, ground := Ground.data }, { on := 17, ground := Ground.guard }], guard := some (17, true) }) (d := 88) (v := undef) rfl rfl (by kernel_rfl) (by kernel_rfl) (by kernel_rfl) (fun _ _ _ h => h) (Or.inr ⟨by rfl, rfl⟩) hHeld ?_
          simp only [List.setIfInBounds_toArray, List.set_cons_zero, List.set_cons_succ]
          refine wpAnyH_takeD (i := 24) (oi := { dst := some 89, op := Op.move (Operand.tmp 13), type := 32, pos := "law.go:58", after := #[{ on := 17, ground := Ground.guard }], guard := some (17, true) }) (d := 89) (v := undef) rfl rfl (by kernel_rfl) (by kernel_rfl) (by kernel_rfl) (fun _ _ _ h => h) (Or.inr ⟨by rfl, rfl⟩) hHeld ?_
          simp only [List.setIfInBounds_toArray, List.set_cons_zero, List.set_cons_succ]
          refine wpAnyH_takeD (i := 25) (oi := { dst := some 90, op := Op.move (Operand.tmp 15), type := 3, pos := "law.go:58", after := #[{ on := 17, ground := Ground.guard }], guard := some (17, true) }) (d := 90) (v := undef) rfl rfl (by kernel_rfl) (by kernel_rfl) (by kernel_rfl) (fun _ _ _ h => h) (Or.inr ⟨by rfl, rfl⟩) hHeld ?_
          simp only [List.setIfInBounds_toArray, List.set_cons_zero, List.set_cons_succ]
          refine wpAnyH_takeD (i := 26) (oi := { dst := some 91, op := Op.indexAddr 32 (Operand.tmp 89) (Operand.tmp 90), type := 0, pos := "law.go:58", after := #[{ on := 24, ground := Ground.data }, { on := 25, ground := Ground.data }, { on := 17, ground := Ground.guard }], guard := some (17, true) }) (d := 91) (v := undef) rfl rfl (by kernel_rfl) (by kernel_rfl) (by kernel_rfl) (fun _ _ _ h => h) (Or.inr ⟨by rfl, rfl⟩) hHeld ?_
          simp only [List.setIfInBounds_toArray, List.set_cons_zero, List.set_cons_succ]
          refine wpAnyH_takeD (i := 27) (oi := { dst := some 92, op := Op.load 9 (Operand.tmp 91), type := 9, pos := "law.go:58", after := #[{ on := 26, ground := Ground.data }, { on := 17, ground := Ground.guard }], guard := some (17, true) }) (d := 92) (v := undef) rfl rfl (by kernel_rfl) (by kernel_rfl) (by kernel_rfl) (fun _ _ _ h => h) (Or.inr ⟨by rfl, rfl⟩) hHeld ?_
          simp only [List.setIfInBounds_toArray, List.set_cons_zero, List.set_cons_succ]
          refine wpAnyH_takeD (i := 28) (oi := { dst := some 93, op := Op.call { callee := Callee.value (Operand.func 22), args := #[Operand.tmp 83, Operand.tmp 88, Operand.tmp 92], argTypes := #[25, 9, 9] }, type := 4, pos := "law.go:58", after := #[{ on := 18, ground := Ground.data }, { on := 23, ground := Ground.data }, { on := 27, ground := Ground.data }, { on := 17, ground := Ground.chain }, { on := 17, ground := Ground.guard }], guard := some (17, true) }) (d := 93) (v := undef) rfl rfl (by kernel_rfl) (by kernel_rfl) (by kernel_rfl) (fun _ _ _ h => h) (Or.inr ⟨by rfl, rfl⟩) hHeld ?_
          simp only [List.setIfInBounds_toArray, List.set_cons_zero, List.set_cons_succ]
          refine wpAnyH_takeD (i := 29) (oi := { dst := some 94, op := Op.unOp UnOp.not 4 (Operand.tmp 93), type := 4, pos := "law.go:58", after := #[{ on := 28, ground := Ground.data }, { on := 17, ground := Ground.guard }], guard := some (17, true) }) (d := 94) (v := undef) rfl rfl (by kernel_rfl) (by kernel_rfl) (by kernel_rfl) (fun _ _ _ h => h) (Or.inr ⟨by rfl, rfl⟩) hHeld ?_
          simp only [List.setIfInBounds_toArray, List.set_cons_zero, List.set_cons_succ]
          refine wpAnyH_takeD (i := 30) (oi := { dst := some 95, op := Op.pick (Operand.tmp 82) (Operand.tmp 94) (Operand.const (Value.bool false)), type := 4, pos := "law.go:58", after := #[{ on := 17, ground := Ground.data }, { on := 29, ground := Ground.data }, { on := 14, ground := Ground.guard }], guard := some (14, false) }) (d := 95) (v := ?_) rfl rfl (by kernel_rfl) (by kernel_rfl) (by kernel_rfl) (fun _ _ _ h => h) (Or.inl ⟨by rfl, ?_⟩) hHeld ?_
          rotate_left
          · (intro w' hSw; (try dsimp only at hSw); go_simp; (try with_reducible rfl))
          simp only [List.setIfInBounds_toArray, List.set_cons_zero, List.set_cons_succ]
          refine wpAnyH_takeD (i := 31) (oi := { dst := some 96, op := Op.pick (Operand.tmp 79) (Operand.const (Value.bool true)) (Operand.tmp 95), type := 4, pos := "law.go:58", after := #[{ on := 14, ground := Ground.data }, { on := 30, ground := Ground.data }], guard := none }) (d := 96) (v := ?_) rfl rfl (by kernel_rfl) (by kernel_rfl) (by kernel_rfl) (fun _ _ _ h => h) (Or.inl ⟨by rfl, ?_⟩) hHeld ?_
          rotate_left
          · (intro w' hSw; (try dsimp only at hSw); go_simp; (try with_reducible rfl))
          simp only [List.setIfInBounds_toArray, List.set_cons_zero, List.set_cons_succ]
          refine wpAnyH_done (by kernel_rfl) ?_ _
          go_wp2_with fail
          go_meet
          case rel => exact ⟨rfl, hHeld.2, hHeld.1⟩
        · obtain ⟨j, rfl⟩ : ∃ j, k = j + 1 := ⟨k - 1, by omega⟩
          have hjlt : j < ps.length := by omega
          obtain ⟨ba', o', hA', g1⟩ := HW.out.sl.at j hjlt
          cases hA'
          obtain ⟨d, c, hd, hc, hdc⟩ := HGD.out.cuts j ps[j] ps[j + 1] (by simp) (by simp)
          obtain ⟨Q, hQ⟩ : ∃ Q, ps[j] = Q := ⟨_, rfl⟩
          rw [hQ] at g1 hd
          rw [HP.out] at hc
          have hbt : betB cut Q P = true := by simp only [betB, hd, hc]; exact hdc
          have HBT := Lib.hid hbt
          have hqle := piece_le ps j hjlt
          rw [hQ] at hqle
          clear hQ hd hc hdc hbt
          simp only [strV] at g1
          have i2 : (j : Int) < (ps.length : Int) := by omega
          have i3 : 0 ≤ (j : Int) := by omega
          have i4 : (0 : Int) < (j : Int) + 1 := by omega
          have i5 : 0 ≤ (j : Int) + 1 := by omega
          have i6 : ((j : Int) + 1).toNat = j + 1 := by omega
          have i7 : (j : Int) + 1 < (ps.length : Int) := by omega
          have q1 : IntKind.i64.wrap (j : Int) = j := IntWalk.i64_in _ (by omega)
          have HC22 : ∀ U : World, U.cell? ⟨ba, o + (j + 1), none⟩ = some (.string (bs P)) ∧ U.cell? ⟨ba, o + j, none⟩ = some (.string (bs Q)) ∧ LQ w (some ⟨bk, 0, none⟩) cut (some ⟨ba, o, none⟩) ps U →
              Calls Try.prog 22 #[.pointer (some ⟨bk, 0, none⟩), .string (bs Q), .string (bs P)] U fun e U' => e = .returned (.bool true) ∧ U'.cell? ⟨ba, o + (j + 1), none⟩ = some (.string (bs P)) ∧ U'.cell? ⟨ba, o + j, none⟩ = some (.string (bs Q)) ∧ LQ w (some ⟨bk, 0, none⟩) cut (some ⟨ba, o, none⟩) ps U' := by
            rintro U ⟨h1, h2, h3⟩
            refine (between_any _ cut (bs Q) (bs P) U h3.tp (by rw [bs_size]; have := HFLL.out; omega)).mono ?_
            rintro e U' ⟨rfl, m, rfl⟩
            exact ⟨ret_bool HBT.out, h1, h2, h3.step (below_drewN (Below.refl _ _) m)⟩
          have HC21' : ∀ U : World, U.cell? ⟨ba, o + (j + 1), none⟩ = some (.string (bs P)) ∧ U.cell? ⟨ba, o + j, none⟩ = some (.string (bs Q)) ∧ LQ w (some ⟨bk, 0, none⟩) cut (some ⟨ba, o, none⟩) ps U →
              Calls Try.prog 21 #[.pointer (some ⟨bk, 0, none⟩), .string (bs P)] U fun e U' => e = .returned (.bool true) ∧ U'.cell? ⟨ba, o + (j + 1), none⟩ = some (.string (bs P)) ∧ U'.cell? ⟨ba, o + j, none⟩ = some (.string (bs Q)) ∧ LQ w (some ⟨bk, 0, none⟩) cut (some ⟨ba, o, none⟩) ps U' := by
            rintro U ⟨h1, h2, h3⟩
            refine (whole_any _ cut (bs P) U h3.tp (by rw [bs_size]; have := HFLL.out; omega)).mono ?_
            rintro e U' ⟨rfl, hbU⟩
            refine ⟨ret_bool ?_, below_cell hbU (Nat.le_refl _) h1, below_cell hbU (Nat.le_refl _) h2, h3.step hbU⟩
            have : pcs cut (bs P).data.toList = [P] := by rw [← HP.out]; exact HWH.out
            rw [this]; rfl
          have K22 := Lib.hid HC22
          have K21' := Lib.hid HC21'
          clear HC22 HC21'
          refine wp_region_held_drew (S := fun U => U.cell? ⟨ba, o + (j + 1), none⟩ = some (.string (bs P)) ∧ U.cell? ⟨ba, o + j, none⟩ = some (.string (bs Q)) ∧ LQ w (some ⟨bk, 0, none⟩) cut (some ⟨ba, o, none⟩) ps U) (by kernel_rfl) (by exact ⟨g0, g1, HW.out.step (Below.refl _ _).drew⟩) (fun hHeld => ?_)
          refine wpAnyH_takeD (i := 0) (oi := { dst := some 65, op := Op.move (Operand.tmp 13), type := 32, pos := "law.go:58", after := #[], guard := none }) (d := 65) (v := ?_) rfl rfl (by kernel_rfl) (by kernel_rfl) (by kernel_rfl) (fun _ _ _ h => h) (Or.inl ⟨by rfl, ?_⟩) hHeld ?_
          rotate_left
          · (intro w' hSw; (try dsimp only at hSw); go_simp; (try with_reducible rfl))
          simp only [List.setIfInBounds_toArray, List.set_cons_zero, List.set_cons_succ]
          refine wpAnyH_takeD (i := 1) (oi := { dst := some 66, op := Op.move (Operand.tmp 15), type := 3, pos := "law.go:58", after := #[], guard := none }) (d := 66) (v := ?_) rfl rfl (by kernel_rfl) (by kernel_rfl) (by kernel_rfl) (fun _ _ _ h => h) (Or.inl ⟨by rfl, ?_⟩) hHeld ?_
          rotate_left
          · (intro w' hSw; (try dsimp only at hSw); go_simp; (try with_reducible rfl))
          simp only [List.setIfInBounds_toArray, List.set_cons_zero, List.set_cons_succ]
          refine wpAnyH_takeD (i := 2) (oi := { dst := some 67, op := Op.indexAddr 32 (Operand.tmp 65) (Operand.tmp 66), type := 0, pos := "law.go:58", after := #[{ on := 0, ground := Ground.data }, { on := 1, ground := Ground.data }], guard := none }) (d := 67) (v := ?_) rfl rfl (by kernel_rfl) (by kernel_rfl) (by kernel_rfl) (fun _ _ _ h => h) (Or.inl ⟨by rfl, ?_⟩) hHeld ?_
          rotate_left
          · (intro w' hSw; (try dsimp only at hSw); go_simp; (try with_reducible rfl))
          simp only [List.setIfInBounds_toArray, List.set_cons_zero, List.set_cons_succ]
          refine wpAnyH_takeD (i := 3) (oi := { dst := some 68, op := Op.load 9 (Operand.tmp 67), type := 9, pos := "law.go:58", after := #[{ on := 2, ground := Ground.data }], guard := none }) (d := 68) (v := ?_) rfl rfl (by kernel_rfl) (by kernel_rfl) (by kernel_rfl) (fun _ _ _ h => h) (Or.inl ⟨by rfl, ?_⟩) hHeld ?_
          rotate_left
          · (intro w' hSw; (try dsimp only at hSw); go_simp; (try with_reducible rfl))
          simp only [List.setIfInBounds_toArray, List.set_cons_zero, List.set_cons_succ]
          refine wpAnyH_takeD (i := 4) (oi := { dst := some 69, op := Op.binOp BinOp.eql 9 (Operand.tmp 68) (Operand.const (Value.string { data := #[] })) 9, type := 4, pos := "law.go:58", after := #[{ on := 3, ground := Ground.data }], guard := none }) (d := 69) (v := ?_) rfl rfl (by kernel_rfl) (by kernel_rfl) (by kernel_rfl) (fun _ _ _ h => h) (Or.inl ⟨by rfl, ?_⟩) hHeld ?_
          rotate_left
          · (intro w' hSw; (try dsimp only at hSw); go_simp; (try with_reducible rfl))
          simp only [List.setIfInBounds_toArray, List.set_cons_zero, List.set_cons_succ]
          refine wpAnyH_takeD (i := 5) (oi := { dst := some 70, op := Op.move (Operand.tmp 69), type := 4, pos := "law.go:58", after := #[{ on := 4, ground := Ground.data }], guard := none }) (d := 70) (v := ?_) rfl rfl (by kernel_rfl) (by kernel_rfl) (by kernel_rfl) (fun _ _ _ h => h) (Or.inl ⟨by rfl, ?_⟩) hHeld ?_
          rotate_left
          · (intro w' hSw; (try dsimp only at hSw); go_simp; (try with_reducible rfl))
          simp only [List.setIfInBounds_toArray, List.set_cons_zero, List.set_cons_succ]
          refine wpAnyH_takeD (i := 6) (oi := { dst := some 71, op := Op.move (Operand.tmp 9), type := 25, pos := "law.go:58", after := #[{ on := 5, ground := Ground.guard }], guard := some (5, false) }) (d := 71) (v := ?_) rfl rfl (by kernel_rfl) (by kernel_rfl) (by kernel_rfl) (fun _ _ _ h => h) (Or.inl ⟨by rfl, ?_⟩) hHeld ?_
          rotate_left
          · (intro w' hSw; (try dsimp only at hSw); go_simp; (try with_reducible rfl))
          simp only [List.setIfInBounds_toArray, List.set_cons_zero, List.set_cons_succ]
          refine wpAnyH_takeD (i := 7) (oi := { dst := some 72, op := Op.move (Operand.tmp 13), type := 32, pos := "law.go:58", after := #[{ on := 5, ground := Ground.guard }], guard := some (5, false) }) (d := 72) (v := ?_) rfl rfl (by kernel_rfl) (by kernel_rfl) (by kernel_rfl) (fun _ _ _ h => h) (Or.inl ⟨by rfl, ?_⟩) hHeld ?_
          rotate_left
          · (intro w' hSw; (try dsimp only at hSw); go_simp; (try with_reducible rfl))
          simp only [List.setIfInBounds_toArray, List.set_cons_zero, List.set_cons_succ]
          refine wpAnyH_takeD (i := 8) (oi := { dst := some 73, op := Op.move (Operand.tmp 15), type := 3, pos := "law.go:58", after := #[{ on := 5, ground := Ground.guard }], guard := some (5, false) }) (d := 73) (v := ?_) rfl rfl (by kernel_rfl) (by kernel_rfl) (by kernel_rfl) (fun _ _ _ h => h) (Or.inl ⟨by rfl, ?_⟩) hHeld ?_
          rotate_left
          · (intro w' hSw; (try dsimp only at hSw); go_simp; (try with_reducible rfl))
          simp only [List.setIfInBounds_toArray, List.set_cons_zero, List.set_cons_succ]
          refine wpAnyH_takeD (i := 9) (oi := { dst := some 74, op := Op.indexAddr 32 (Operand.tmp 72) (Operand.tmp 73), type := 0, pos := "law.go:58", after := #[{ on := 7, ground := Ground.data }, { on := 8, ground := Ground.data }, { on := 5, ground := Ground.guard }], guard := some (5, false) }) (d := 74) (v := ?_) rfl rfl (by kernel_rfl) (by kernel_rfl) (by kernel_rfl) (fun _ _ _ h => h) (Or.inl ⟨by rfl, ?_⟩) hHeld ?_
          rotate_left
          · (intro w' hSw; (try dsimp only at hSw); go_simp; (try with_reducible rfl))
          simp only [List.setIfInBounds_toArray, List.set_cons_zero, List.set_cons_succ]
          refine wpAnyH_takeD (i := 10) (oi := { dst := some 75, op := Op.load 9 (Operand.tmp 74), type := 9, pos := "law.go:58", after := #[{ on := 9, ground := Ground.data }, { on := 5, ground := Ground.guard }], guard := some (5, false) }) (d := 75) (v := ?_) rfl rfl (by kernel_rfl) (by kernel_rfl) (by kernel_rfl) (fun _ _ _ h => h) (Or.inl ⟨by rfl, ?_⟩) hHeld ?_
          rotate_left
          · (intro w' hSw; (try dsimp only at hSw); go_simp; (try with_reducible rfl))
          simp only [List.setIfInBounds_toArray, List.set_cons_zero, List.set_cons_succ]
          refine wpAnyH_ready (rs := [11]) (by kernel_rfl) (by simp) ?_
          refine AllReadyH.cons (o := { dst := some 76, op := Op.call { callee := Callee.value (Operand.func 21), args := #[Operand.tmp 71, Operand.tmp 75], argTypes := #[25, 9] }, type := 4, pos := "law.go:58", after := #[{ on := 6, ground := Ground.data }, { on := 10, ground := Ground.data }, { on := 5, ground := Ground.chain }, { on := 5, ground := Ground.guard }], guard := some (5, false) }) rfl (fun K hK => ?_) AllReadyH.nil
          (try go_simp)
          refine (K21'.out _ hHeld).mono ?_; rintro e w' ⟨rfl, h⟩
          go_wp2_with fail
          refine hK.out _ _ h (fun hHeld => ?_)
          clear hK K
          try simp only [Act.put, List.setIfInBounds_toArray, List.set_cons_zero, List.set_cons_succ]
          refine wpAnyH_takeD (i := 12) (oi := { dst := some 77, op := Op.unOp UnOp.not 4 (Operand.tmp 76), type := 4, pos := "law.go:58", after := #[{ on := 11, ground := Ground.data }, { on := 5, ground := Ground.guard }], guard := some (5, false) }) (d := 77) (v := ?_) rfl rfl (by kernel_rfl) (by kernel_rfl) (by kernel_rfl) (fun _ _ _ h => h) (Or.inl ⟨by rfl, ?_⟩) hHeld ?_
          rotate_left
          · (intro w' hSw; (try dsimp only at hSw); go_simp; (try with_reducible rfl))
          simp only [List.setIfInBounds_toArray, List.set_cons_zero, List.set_cons_succ]
          refine wpAnyH_takeD (i := 13) (oi := { dst := some 78, op := Op.pick (Operand.tmp 70) (Operand.const (Value.bool true)) (Operand.tmp 77), type := 4, pos := "law.go:58", after := #[{ on := 5, ground := Ground.data }, { on := 12, ground := Ground.data }], guard := none }) (d := 78) (v := ?_) rfl rfl (by kernel_rfl) (by kernel_rfl) (by kernel_rfl) (fun _ _ _ h => h) (Or.inl ⟨by rfl, ?_⟩) hHeld ?_
          rotate_left
          · (intro w' hSw; (try dsimp only at hSw); go_simp; (try with_reducible rfl))
          simp only [List.setIfInBounds_toArray, List.set_cons_zero, List.set_cons_succ]
          refine wpAnyH_takeD (i := 14) (oi := { dst := some 79, op := Op.move (Operand.tmp 78), type := 4, pos := "law.go:58", after := #[{ on := 13, ground := Ground.data }, { on := 11, ground := Ground.chain }], guard := none }) (d := 79) (v := ?_) rfl rfl (by kernel_rfl) (by kernel_rfl) (by kernel_rfl) (fun _ _ _ h => h) (Or.inl ⟨by rfl, ?_⟩) hHeld ?_
          rotate_left
          · (intro w' hSw; (try dsimp only at hSw); go_simp; (try with_reducible rfl))
          simp only [List.setIfInBounds_toArray, List.set_cons_zero, List.set_cons_succ]
          refine wpAnyH_takeD (i := 15) (oi := { dst := some 80, op := Op.move (Operand.tmp 15), type := 3, pos := "law.go:58", after := #[{ on := 14, ground := Ground.guard }], guard := some (14, false) }) (d := 80) (v := ?_) rfl rfl (by kernel_rfl) (by kernel_rfl) (by kernel_rfl) (fun _ _ _ h => h) (Or.inl ⟨by rfl, ?_⟩) hHeld ?_
          rotate_left
          · (intro w' hSw; (try dsimp only at hSw); go_simp; (try with_reducible rfl))
          simp only [List.setIfInBounds_toArray, List.set_cons_zero, List.set_cons_succ]
          refine wpAnyH_takeD (i := 16) (oi := { dst := some 81, op := Op.binOp BinOp.gtr 3 (Operand.tmp 80) (Operand.const (Value.int IntKind.i64 0)) 3, type := 4, pos := "law.go:58", after := #[{ on := 15, ground := Ground.data }, { on := 14, ground := Ground.guard }], guard := some (14, false) }) (d := 81) (v := ?_) rfl rfl (by kernel_rfl) (by kernel_rfl) (by kernel_rfl) (fun _ _ _ h => h) (Or.inl ⟨by rfl, ?_⟩) hHeld ?_
          rotate_left
          · (intro w' hSw; (try dsimp only at hSw); go_simp; (try with_reducible rfl))
          simp only [List.setIfInBounds_toArray, List.set_cons_zero, List.set_cons_succ]
          refine wpAnyH_takeD (i := 17) (oi := { dst := some 82, op := Op.move (Operand.tmp 81), type := 4, pos := "law.go:58", after := #[{ on := 16, ground := Ground.data }, { on := 14, ground := Ground.chain }, { on := 14, ground := Ground.guard }], guard := some (14, false) }) (d := 82) (v := ?_) rfl rfl (by kernel_rfl) (by kernel_rfl) (by kernel_rfl) (fun _ _ _ h => h) (Or.inl ⟨by rfl, ?_⟩) hHeld ?_
          rotate_left
          · (intro w' hSw; (try dsimp only at hSw); go_simp; (try with_reducible rfl))
          simp only [List.setIfInBounds_toArray, List.set_cons_zero, List.set_cons_succ]
          refine wpAnyH_takeD (i := 18) (oi := { dst := some 83, op := Op.move (Operand.tmp 9), type := 25, pos := "law.go:58", after := #[{ on := 17, ground := Ground.guard }], guard := some (17, true) }) (d := 83) (v := ?_) rfl rfl (by kernel_rfl) (by kernel_rfl) (by kernel_rfl) (fun _ _ _ h => h) (Or.inl ⟨by rfl, ?_⟩) hHeld ?_
          rotate_left
          · (intro w' hSw; (try dsimp only at hSw); go_simp; (try with_reducible rfl))
          simp only [List.setIfInBounds_toArray, List.set_cons_zero, List.set_cons_succ]
          refine wpAnyH_takeD (i := 19) (oi := { dst := some 84, op := Op.move (Operand.tmp 13), type := 32, pos := "law.go:58", after := #[{ on := 17, ground := Ground.guard }], guard := some (17, true) }) (d := 84) (v := ?_) rfl rfl (by kernel_rfl) (by kernel_rfl) (by kernel_rfl) (fun _ _ _ h => h) (Or.inl ⟨by rfl, ?_⟩) hHeld ?_
          rotate_left
          · (intro w' hSw; (try dsimp only at hSw); go_simp; (try with_reducible rfl))
          simp only [List.setIfInBounds_toArray, List.set_cons_zero, List.set_cons_succ]
          refine wpAnyH_takeD (i := 20) (oi := { dst := some 85, op := Op.move (Operand.tmp 15), type := 3, pos := "law.go:58", after := #[{ on := 17, ground := Ground.guard }], guard := some (17, true) }) (d := 85) (v := ?_) rfl rfl (by kernel_rfl) (by kernel_rfl) (by kernel_rfl) (fun _ _ _ h => h) (Or.inl ⟨by rfl, ?_⟩) hHeld ?_
          rotate_left
          · (intro w' hSw; (try dsimp only at hSw); go_simp; (try with_reducible rfl))
          simp only [List.setIfInBounds_toArray, List.set_cons_zero, List.set_cons_succ]
          refine wpAnyH_takeD (i := 21) (oi := { dst := some 86, op := Op.binOp BinOp.sub 3 (Operand.tmp 85) (Operand.const (Value.int IntKind.i64 1)) 3, type := 3, pos := "law.go:58", after := #[{ on := 20, ground := Ground.data }, { on := 17, ground := Ground.guard }], guard := some (17, true) }) (d := 86) (v := ?_) rfl rfl (by kernel_rfl) (by kernel_rfl) (by kernel_rfl) (fun _ _ _ h => h) (Or.inl ⟨by rfl, ?_⟩) hHeld ?_
          rotate_left
          · (intro w' hSw; (try dsimp only at hSw); go_simp; (try with_reducible rfl))
          simp only [List.setIfInBounds_toArray, List.set_cons_zero, List.set_cons_succ]
          refine wpAnyH_takeD (i := 22) (oi := { dst := some 87, op := Op.indexAddr 32 (Operand.tmp 84) (Operand.tmp 86), type := 0, pos := "law.go:58", after := #[{ on := 19, ground := Ground.data }, { on := 21, ground := Ground.data }, { on := 17, ground := Ground.guard }], guard := some (17, true) }) (d := 87) (v := ?_) rfl rfl (by kernel_rfl) (by kernel_rfl) (by kernel_rfl) (fun _ _ _ h => h) (Or.inl ⟨by rfl, ?_⟩) hHeld ?_
          rotate_left
          · (intro w' hSw; (try dsimp only at hSw); go_simp; (try with_reducible rfl))
          simp only [List.setIfInBounds_toArray, List.set_cons_zero, List.set_cons_succ]
          refine wpAnyH_takeD (i := 23) (oi := { dst := some 88, op := Op.load 9 (Operand.tmp 87), type := 9, pos := "law.go:58", after := #[{ on := 22, ground := Ground.data }, { on := 17, ground := Ground.guard }], guard := some (17, true) }) (d := 88) (v := ?_) rfl rfl (by kernel_rfl) (by kernel_rfl) (by kernel_rfl) (fun _ _ _ h => h) (Or.inl ⟨by rfl, ?_⟩) hHeld ?_
          rotate_left
          · (intro w' hSw; (try dsimp only at hSw); go_simp; (try with_reducible rfl))
          simp only [List.setIfInBounds_toArray, List.set_cons_zero, List.set_cons_succ]
          refine wpAnyH_takeD (i := 24) (oi := { dst := some 89, op := Op.move (Operand.tmp 13), type := 32, pos := "law.go:58", after := #[{ on := 17, ground := Ground.guard }], guard := some (17, true) }) (d := 89) (v := ?_) rfl rfl (by kernel_rfl) (by kernel_rfl) (by kernel_rfl) (fun _ _ _ h => h) (Or.inl ⟨by rfl, ?_⟩) hHeld ?_
          rotate_left
          · (intro w' hSw; (try dsimp only at hSw); go_simp; (try with_reducible rfl))
          simp only [List.setIfInBounds_toArray, List.set_cons_zero, List.set_cons_succ]
          refine wpAnyH_takeD (i := 25) (oi := { dst := some 90, op := Op.move (Operand.tmp 15), type := 3, pos := "law.go:58", after := #[{ on := 17, ground := Ground.guard }], guard := some (17, true) }) (d := 90) (v := ?_) rfl rfl (by kernel_rfl) (by kernel_rfl) (by kernel_rfl) (fun _ _ _ h => h) (Or.inl ⟨by rfl, ?_⟩) hHeld ?_
          rotate_left
          · (intro w' hSw; (try dsimp only at hSw); go_simp; (try with_reducible rfl))
          simp only [List.setIfInBounds_toArray, List.set_cons_zero, List.set_cons_succ]
          refine wpAnyH_takeD (i := 26) (oi := { dst := some 91, op := Op.indexAddr 32 (Operand.tmp 89) (Operand.tmp 90), type := 0, pos := "law.go:58", after := #[{ on := 24, ground := Ground.data }, { on := 25, ground := Ground.data }, { on := 17, ground := Ground.guard }], guard := some (17, true) }) (d := 91) (v := ?_) rfl rfl (by kernel_rfl) (by kernel_rfl) (by kernel_rfl) (fun _ _ _ h => h) (Or.inl ⟨by rfl, ?_⟩) hHeld ?_
          rotate_left
          · (intro w' hSw; (try dsimp only at hSw); go_simp; (try with_reducible rfl))
          simp only [List.setIfInBounds_toArray, List.set_cons_zero, List.set_cons_succ]
          refine wpAnyH_takeD (i := 27) (oi := { dst := some 92, op := Op.load 9 (Operand.tmp 91), type := 9, pos := "law.go:58", after := #[{ on := 26, ground := Ground.data }, { on := 17, ground := Ground.guard }], guard := some (17, true) }) (d := 92) (v := ?_) rfl rfl (by kernel_rfl) (by kernel_rfl) (by kernel_rfl) (fun _ _ _ h => h) (Or.inl ⟨by rfl, ?_⟩) hHeld ?_
          rotate_left
          · (intro w' hSw; (try dsimp only at hSw); go_simp; (try with_reducible rfl))
          simp only [List.setIfInBounds_toArray, List.set_cons_zero, List.set_cons_succ]
          refine wpAnyH_ready (rs := [28]) (by kernel_rfl) (by simp) ?_
          refine AllReadyH.cons (o := { dst := some 93, op := Op.call { callee := Callee.value (Operand.func 22), args := #[Operand.tmp 83, Operand.tmp 88, Operand.tmp 92], argTypes := #[25, 9, 9] }, type := 4, pos := "law.go:58", after := #[{ on := 18, ground := Ground.data }, { on := 23, ground := Ground.data }, { on := 27, ground := Ground.data }, { on := 17, ground := Ground.chain }, { on := 17, ground := Ground.guard }], guard := some (17, true) }) rfl (fun K hK => ?_) AllReadyH.nil
          (try go_simp)
          refine (K22.out _ hHeld).mono ?_; rintro e w' ⟨rfl, h⟩
          go_wp2_with fail
          refine hK.out _ _ h (fun hHeld => ?_)
          clear hK K
          try simp only [Act.put, List.setIfInBounds_toArray, List.set_cons_zero, List.set_cons_succ]
          refine wpAnyH_takeD (i := 29) (oi := { dst := some 94, op := Op.unOp UnOp.not 4 (Operand.tmp 93), type := 4, pos := "law.go:58", after := #[{ on := 28, ground := Ground.data }, { on := 17, ground := Ground.guard }], guard := some (17, true) }) (d := 94) (v := ?_) rfl rfl (by kernel_rfl) (by kernel_rfl) (by kernel_rfl) (fun _ _ _ h => h) (Or.inl ⟨by rfl, ?_⟩) hHeld ?_
          rotate_left
          · (intro w' hSw; (try dsimp only at hSw); go_simp; (try with_reducible rfl))
          simp only [List.setIfInBounds_toArray, List.set_cons_zero, List.set_cons_succ]
          refine wpAnyH_takeD (i := 30) (oi := { dst := some 95, op := Op.pick (Operand.tmp 82) (Operand.tmp 94) (Operand.const (Value.bool false)), type := 4, pos := "law.go:58", after := #[{ on := 17, ground := Ground.data }, { on := 29, ground := Ground.data }, { on := 14, ground := Ground.guard }], guard := some (14, false) }) (d := 95) (v := ?_) rfl rfl (by kernel_rfl) (by kernel_rfl) (by kernel_rfl) (fun _ _ _ h => h) (Or.inl ⟨by rfl, ?_⟩) hHeld ?_
          rotate_left
          · (intro w' hSw; (try dsimp only at hSw); go_simp; (try with_reducible rfl))
          simp only [List.setIfInBounds_toArray, List.set_cons_zero, List.set_cons_succ]
          refine wpAnyH_takeD (i := 31) (oi := { dst := some 96, op := Op.pick (Operand.tmp 79) (Operand.const (Value.bool true)) (Operand.tmp 95), type := 4, pos := "law.go:58", after := #[{ on := 14, ground := Ground.data }, { on := 30, ground := Ground.data }], guard := none }) (d := 96) (v := ?_) rfl rfl (by kernel_rfl) (by kernel_rfl) (by kernel_rfl) (fun _ _ _ h => h) (Or.inl ⟨by rfl, ?_⟩) hHeld ?_
          rotate_left
          · (intro w' hSw; (try dsimp only at hSw); go_simp; (try with_reducible rfl))
          simp only [List.setIfInBounds_toArray, List.set_cons_zero, List.set_cons_succ]
          refine wpAnyH_done (by kernel_rfl) ?_ _
          go_wp2_with fail
          go_meet
          case rel => exact ⟨rfl, hHeld.2.2, hHeld.1⟩
      case rest =>
        obtain ⟨rfl, hU, gU⟩ := hcut
        have HU := Lib.hid hU
        clear hU HW g0
        go_wp2_with fail
        go_roundg (gk - 1)
        case measure => omega
        case rel =>
          refine ⟨k + 1, by omega, by go_num, ?_, HU.out⟩
          rw [HSN.out, HP.out, bs_append]
    · have hkk : k = ps.length := by omega
      have hfin : (ps.take k).flatten = s.data.toList ++ u.data.toList := by rw [hkk, List.take_length]; exact HFL.out
      rw [hfin]
      have hbb : bs (s.data.toList ++ u.data.toList) = s ++ u := by rw [← append_data, bs_data]
      rw [hbb]
      clear hfin hbb
      have heq : ((s ++ u).toList == (s ++ u).toList) = true := by rw [beq_iff_eq]
      have hal := HAL.out
      have HALL := Lib.hid hal
      clear hlt hal hk
      go_wp2_with fail
      · have p1 : 0 < (pcs cut s.data.toList).length := by assumption
        have p2 : 0 < (pcs cut u.data.toList).length := by assumption
        have hj := HALL.out
        rw [joined_bet p1 p2] at hj
        have HJ := Lib.hid hj
        clear hj
        refine (between_any _ cut s u _ HW.out.tp (by omega)).mono ?_
        rintro e w6 ⟨rfl, m6, rfl⟩
        cases hbt : betB cut s.data.toList u.data.toList with
        | true =>
          have HBT := Lib.hid hbt
          clear hbt
          go_wp2_with fail
          go_ret
          refine ⟨ret_bool ?_, below_drewN HW.out.below _⟩
          have hj := HJ.out
          rw [HBT.out, if_pos rfl] at hj
          simp
          omega
        | false =>
          have HBT := Lib.hid hbt
          clear hbt
          go_wp2_with fail
          go_ret
          refine ⟨ret_bool ?_, below_drewN HW.out.below _⟩
          have hj := HJ.out
          rw [HBT.out, if_neg (by simp)] at hj
          simp
          omega
      all_goals
        go_ret
        refine ⟨ret_bool ?_, HW.out.below⟩
        have hj := HALL.out
        rw [joined_zero (by omega)] at hj
        simp
        omega

set_option maxHeartbeats 2000000 in
theorem bpar_wrong (cs : List Cls) (js : List Jn) (A B : Option Addr) (cA cB : Nat) (s u : ByteArray) (w : World) (hA : Sl w A encCls 3 cs) (hB : Sl w B encJn 2 js) (hcs : cs.length ≤ 100) (hjs : js.length ≤ 100) (hs : s.size ≤ 300) (hu : u.size ≤ 300)
    (hr : (cs.all spanB && js.all jnB) = false) :
    Calls Try.prog 4 #[.slice A cs.length cA, .slice B js.length cB, .string s, .string u] w (RetTrue w) := by
  have HR := Lib.hid hr
  have H0 := Lib.hid (show RTab w cs js A B w from ⟨Below.refl _ _, hA, hB⟩)
  clear hA hB hr
  go_enter Try.func4, Try.ntmps4
  go_wp2_with fail
  refine (bawake _).mono ?_
  rintro e w0 ⟨rfl, hb0⟩
  have H00 := Lib.hid (H0.out.step hb0)
  clear H0 hb0
  go_wp2_with fail
  refine (new_any cs js A B cA cB w0 H00.out.cl H00.out.jn (by omega) (by omega)).mono ?_
  rintro e w1 ⟨hb1, h⟩
  rw [if_neg (by rw [HR.out]; simp)] at h
  obtain rfl := h
  have HT := Lib.hid (H00.out.step hb1)
  clear H00 hb1
  go_wp2_with fail
  go_ret
  exact ⟨by simp, HT.out.below⟩

set_option maxHeartbeats 2000000 in
theorem bpar_large (A B : Option Addr) (nA nB cA cB : Nat) (s u : ByteArray) (w : World) (h : ¬ (nA ≤ 100 ∧ nB ≤ 100 ∧ s.size ≤ 300 ∧ u.size ≤ 300)) :
    Calls Try.prog 4 #[.slice A nA cA, .slice B nB cB, .string s, .string u] w (RetTrue w) := by
  have H : ∀ W : World, Calls Try.prog 14 #[] W (fun e W' => e = .returned (.bool true) ∧ Below W.heap.size W W') := bawake
  by_cases h1 : (nA : Int) ≤ 100
  · by_cases h2 : (nB : Int) ≤ 100
    · by_cases h3 : (s.size : Int) ≤ 300
      · have h4 : (300 : Int) < (u.size : Int) := by omega
        clear h
        go_enter Try.func4, Try.ntmps4
        go_wp2_with fail
        refine (bawake _).mono ?_
        rintro e w3 ⟨rfl, hb3⟩
        go_wp2_with fail
        go_ret
        exact ⟨by simp, hb3⟩
      · have h4 : (300 : Int) < (s.size : Int) := by omega
        clear h h3
        go_enter Try.func4, Try.ntmps4
        go_wp2_with fail
        refine (bawake _).mono ?_
        rintro e w3 ⟨rfl, hb3⟩
        go_wp2_with fail
        go_ret
        exact ⟨by simp, hb3⟩
    · have h4 : (100 : Int) < (nB : Int) := by omega
      clear h h2
      go_enter Try.func4, Try.ntmps4
      go_wp2_with fail
      refine (bawake _).mono ?_
      rintro e w3 ⟨rfl, hb3⟩
      go_wp2_with fail
      go_ret
      exact ⟨by simp, hb3⟩
  · have h4 : (100 : Int) < (nA : Int) := by omega
    clear h h1
    go_enter Try.func4, Try.ntmps4
    go_wp2_with fail
    refine (bawake _).mono ?_
    rintro e w3 ⟨rfl, hb3⟩
    go_wp2_with fail
    go_ret
    exact ⟨by simp, hb3⟩

theorem bpar_law (x0 : List (List Int)) (A : Option Addr) (cA : Nat) (x1 : List (List Int)) (B : Option Addr) (cB : Nat) (s u : ByteArray) (w : World)
    (_ : x0.length ≤ cA) (_ : cA ≤ maxLen) (h0 : ∀ y ∈ x0, y.length = 3 ∧ ∀ z ∈ y, (Lit.int .i64 z).wf = true) (hA : Sl w A (encInts .i64) 3 x0)
    (_ : x1.length ≤ cB) (_ : cB ≤ maxLen) (h1 : ∀ y ∈ x1, y.length = 2 ∧ ∀ z ∈ y, (Lit.int .i64 z).wf = true) (hB : Sl w B (encInts .i64) 2 x1)
    (_ : s.size ≤ maxLen) (_ : u.size ≤ maxLen) :
    Calls Try.prog 4 #[.slice A x0.length cA, .slice B x1.length cB, .string s, .string u] w (RetTrue w) := by
  by_cases h : x0.length ≤ 100 ∧ x1.length ≤ 100 ∧ s.size ≤ 300 ∧ u.size ≤ 300
  · have hA' := sl_map toCls hA (fun x hx => enc_toCls x (h0 x hx).1)
    have hB' := sl_map toJn hB (fun x hx => enc_toJn x (h1 x hx).1)
    have e0 : x0.length = (x0.map toCls).length := by simp
    have e1 : x1.length = (x1.map toJn).length := by simp
    rw [e0, e1]
    rw [e0, e1] at h
    obtain ⟨g1, g2, g3, g4⟩ := h
    cases hr : ((x0.map toCls).all spanB && (x1.map toJn).all jnB) with
    | true =>
      rw [Bool.and_eq_true] at hr
      exact bpar_right _ _ A B cA cB s u w hA' hB' g1 g2 g3 g4 hr.1 hr.2
    | false => exact bpar_wrong _ _ A B cA cB s u w hA' hB' g1 g2 g3 g4 hr
  · exact bpar_large A B _ _ cA cB s u w h
end Go.Proofs.Ytdppdjiigecjoaa
