/- Layer 5 (chain): the document's answer: Encode, All. -/
import Derived.Test.YtpkmcokkapfnmaaChainD
namespace Go.Proofs.Ytpkmcokkapfnmaa
open Go.RowKit Go.Maps Go.WideMaps
set_option maxRecDepth 100000
set_option linter.unusedVariables false
set_option linter.unusedSimpArgs false

theorem rep_two {a b c : Int} {L : List Int} {i : Nat} (h : i + 1 < L.length) (h1 : L[i] = a) (h2 : L[i + 1] = b) : rep a b c (L.drop i) = c :: rep a b c (L.drop (i + 2)) := by
  rw [List.drop_eq_getElem_cons (by omega), List.drop_eq_getElem_cons (i := i + 1) h, rep, if_pos ⟨h1, h2⟩]
theorem rep_one {a b c : Int} {L : List Int} {i : Nat} (h : i < L.length) (hn : ¬ ∃ h2 : i + 1 < L.length, L[i] = a ∧ L[i + 1] = b) : rep a b c (L.drop i) = L[i] :: rep a b c (L.drop (i + 1)) := by
  rw [List.drop_eq_getElem_cons h]
  by_cases h2 : i + 1 < L.length
  · rw [List.drop_eq_getElem_cons (i := i + 1) h2, rep, if_neg (fun e => hn ⟨h2, e⟩)]
  · have : L.drop (i + 1) = [] := List.drop_eq_nil_of_le (by omega)
    rw [this]; rfl
theorem bysI_take {l : List UInt8} {k : Nat} (h : k < l.length) : (bysI l).take (k + 1) = (bysI l).take k ++ [byI l k] := by
  have h' : k < (bysI l).length := by simpa [bysI] using h
  rw [take_snoc h']
  congr 2
  simp [bysI, byI, h]
theorem mrgsB_drop {T : List Ent} {bel : Int} {k : Nat} {a b : Int} {L : List Int} (h1 : k < (mrgsT T).length) (h2 : 256 + (k : Int) < bel) (hm : (mrgsT T)[k] = (a, b)) :
    seqE ((mrgsB T bel).drop k) (256 + k) L = seqE ((mrgsB T bel).drop (k + 1)) (256 + ((k + 1 : Nat) : Int)) (rep a b (256 + k) L) := by
  have h3 : k < (mrgsB T bel).length := by unfold mrgsB; rw [List.length_take]; omega
  rw [List.drop_eq_getElem_cons h3]
  have h4 : (mrgsB T bel)[k] = (a, b) := by
    have : (mrgsB T bel)[k]? = some (a, b) := by unfold mrgsB; rw [List.getElem?_take, if_pos (by omega), List.getElem?_eq_getElem h1, hm]
    rw [List.getElem?_eq_getElem h3] at this
    exact Option.some.inj this
  rw [h4, seqE]
  have e : 256 + (k : Int) + 1 = 256 + ((k + 1 : Nat) : Int) := by omega
  rw [e]
theorem mrgsB_all {T : List Ent} {bel : Int} {k : Nat} {L : List Int} (h : (mrgsT T).length ≤ k ∨ bel ≤ 256 + (k : Int)) : seqE ((mrgsB T bel).drop k) (256 + k) L = L := by
  rw [List.drop_eq_nil_of_le (by unfold mrgsB; rw [List.length_take]; omega)]
  rfl

structure REn (W0 W : World) (v : Value) (L : List Int) : Prop where
  row : IntsIs W W0.heap.size v L
  bl : Below W0.heap.size W0 W
section
variable {w w' : World} {base : Nat} {T : List Ent} {vb vm : Value}
set_option maxHeartbeats 8000000 in
theorem renc_any (h : RefIs w base T vb vm) (hT : OkT T) (s : ByteArray) (hs : s.size ≤ 100000000) (bel : Int) :
    Calls Try.prog 17 #[.agg #[vb, vm], .string s, .int .i64 bel] w fun e w' => (∃ v, e = .returned v ∧ IntsIs w' w.heap.size v (encT T bel s.data.toList)) ∧ Below w.heap.size w w' := by
  obtain ⟨A, c, rfl⟩ := own_slice h.row
  obtain ⟨A2, c2, hvm⟩ := own_slice h.mrg
  subst hvm
  have hb0 := (Below.refl w.heap.size w).alloc (Nat.le_refl _) (.cells #[.slice A T.length c, .slice A2 (mrgsT T).length c2] 28)
  have n0 := blk_cell (blk_new w (.cells #[.slice A T.length c, .slice A2 (mrgsT T).length c2] 28)) 1
  simp only [List.getElem?_toArray, List.getElem?_cons_zero, List.getElem?_cons_succ] at n0
  have HSL := Lib.hid ((own_sl (enc := encM) (fun _ => rfl) h.mrg (by decide)).below hb0 (Nat.le_refl _))
  have HB := Lib.hid hb0
  have hsm := hT.small
  have hml : (mrgsT T).length ≤ 1000 := by rw [mrgs_len]; omega
  have HN0 := Lib.hid n0
  have HDL := Lib.hid (dataLen s)
  have HSEQ : Hid (∀ k L a b (h1 : k < (mrgsT T).length), 256 + (k : Int) < bel → (mrgsT T)[k] = (a, b) → seqE ((mrgsB T bel).drop k) (256 + k) L = seqE ((mrgsB T bel).drop (k + 1)) (256 + ((k + 1 : Nat) : Int)) (rep a b (256 + k) L)) := Lib.hid (fun k L a b h1 h2 h3 => mrgsB_drop h1 h2 h3)
  have HALL : Hid (∀ (k : Nat) L, ((mrgsT T).length ≤ k ∨ bel ≤ 256 + (k : Int)) → seqE ((mrgsB T bel).drop k) (256 + k) L = L) := Lib.hid (fun k L h => mrgsB_all h)
  have HE0 : Hid (encT T bel s.data.toList = seqE ((mrgsB T bel).drop 0) (256 + ((0 : Nat) : Int)) (bysI s.data.toList)) := Lib.hid (by rw [List.drop_zero]; rfl)
  clear hb0 h n0 hT
  go_enter Try.func17, Try.ntmps17
  go_wp2_with fail
  generalize hW : w.alloc (.cells #[.slice A T.length c, .slice A2 (mrgsT T).length c2] 28) = W0 at *
  clear hW
  obtain ⟨E0, hE⟩ : ∃ E, encT T bel s.data.toList = E := ⟨_, rfl⟩
  have HEE := Lib.hid hE
  rw [hE] at HE0
  clear hE
  generalize mrgsB T bel = MB at *
  generalize mrgsT T = M at *
  have HG0 := Lib.hid (show w.heap.size < W0.heap.size from World.block_lt_of_cell? W0 ⟨w.heap.size, 1, none⟩ HN0.out)
  have HS : Hid (W0.ownsRow W0.heap.size 3 1 (.slice none 0 0) 0 ([] : List Value)) := Lib.hid (own_nil _ _ _ _)
  go_loopg [7, 8] s.size (fun n u i W => ∃ k A c, k + n = s.size ∧ i = .int .i64 ((k : Nat) : Int) ∧ u = .slice A k c ∧ W.ownsRow W0.heap.size 3 1 (.slice A k c) k (((bysI s.data.toList).take k).map (Value.int .i64)) ∧ Below W0.heap.size W0 W)
  case atStart => exact ⟨0, none, 0, by omega, rfl, rfl, by simpa using HS.out, Below.refl _ _⟩
  case round =>
    obtain ⟨k, A1, c1, hk, rfl, rfl, hrow, hbl⟩ := hrel
    rename World => W
    have HK := Lib.hid hk
    have HROW := Lib.hid hrow
    have HBL := Lib.hid hbl
    clear hrow hbl
    by_cases hlt : k < s.size
    · have p0 : (0 : Int) ≤ (k : Int) := by omega
      have p1 : (k : Int) < (s.size : Int) := by omega
      have w2 : IntKind.i64.wrap ((k : Int) + 1) = (k : Int) + 1 := IntWalk.i64_in _ (by omega)
      have h8 : IntKind.i64.wrap ((s[k]'hlt).toNat : Int) = ((s[k]'hlt).toNat : Int) := by have := (s[k]'hlt).toNat_lt; exact IntWalk.i64_in _ (by omega)
      have HBY := Lib.hid (byI_at s k hlt)
      have HTK := Lib.hid (bysI_take (l := s.data.toList) (k := k) (by rw [dataLen]; exact hlt))
      clear hk
      go_wp2_with (at_builtin; refine app_one W0.heap.size 31 3 (.int .i64 0) 1 8 [_] 1 _ _ rfl rfl Try.underlying31 info_int5 rfl (by decide) _ _ _ rfl rfl rfl (by intro u hu; simp at hu; subst hu; rfl) HROW.out (by omega) (by omega) HBL.out.size ?_)
      intro v' w6 hown hg6
      obtain ⟨A3, c3, rfl⟩ := own_slice hown
      have hk6 : Below W0.heap.size W w6 := Keep.below (Keep.of_grown (F := fun g => (Value.slice A1 k c1).ownBlock = some g) hg6 (fun g hg => hg)) HBL.out.size (fun x hx => own_base HROW.out x hx)
      have HR6 : Hid (w6.ownsRow W0.heap.size 3 1 (.slice A3 (k + 1) c3) (k + 1) (((bysI s.data.toList).take (k + 1)).map (Value.int .i64))) := Lib.hid (by rw [HTK.out, List.map_append, HBY.out]; first | exact hown | (rw [List.map_take]; exact hown))
      have HB6 := Lib.hid (HBL.out.trans hk6)
      clear hown hg6 hk6
      go_wp2_with fail
      go_roundg (gk - 1)
      case measure => have := HK.out; omega
      case rel => exact ⟨k + 1, A3, c3, by have := HK.out; omega, rfl, rfl, HR6.out, HB6.out⟩
    · have hke : k = s.size := by omega
      subst hke
      have HREN : Hid (REn W0 W (.slice A1 s.size c1) (bysI s.data.toList)) := Lib.hid (by
        have e1 : (bysI s.data.toList).length = s.size := by unfold bysI; rw [List.length_map]; exact HDL.out
        refine ⟨⟨A1, c1, by rw [e1], ?_⟩, HBL.out⟩
        have := HROW.out
        rw [List.take_of_length_le (by rw [e1]; exact Nat.le_refl _)] at this
        rw [e1]
        exact this)
      have HZ : Hid (s.size ≤ 100000000) := Lib.hid hs
      clear HROW HBL hk HK HS
      go_wp2_with fail
      go_loopg [7, 9] M.length (fun n u i W => ∃ k L A c, k + n = M.length ∧ i = .int .i64 ((k : Nat) : Int) ∧ u = .slice A (L : List Int).length c ∧ REn W0 W (.slice A L.length c) L ∧ seqE (MB.drop k) (256 + (k : Int)) L = E0 ∧ L.length ≤ s.size)
      case atStart =>
        obtain ⟨⟨A', c', e, hr⟩, hb⟩ := HREN.out
        injection e with e1 e2 e3
        subst e1; subst e3
        refine ⟨0, bysI s.data.toList, A1, c1, by omega, rfl, by rw [e2], ⟨⟨A1, c1, rfl, hr⟩, hb⟩, HE0.out.symm, by rw [e2]; exact Nat.le_refl _⟩
      case round =>
        obtain ⟨k, L, A1, c1, hk, rfl, rfl, hren, hseq, hll⟩ := hrel
        clear HREN
        rename World => W
        have HREN := Lib.hid hren
        have HK := Lib.hid hk
        have HSQ := Lib.hid hseq
        have HLL := Lib.hid (Nat.le_trans hll HZ.out)
        have HLS := Lib.hid hll
        have m1 := below_cell hren.bl (Nat.le_refl _) HN0.out
        clear hren hseq hll
        have w1 : IntKind.i64.wrap (256 + (k : Int)) = 256 + (k : Int) := IntWalk.i64_in _ (by omega)
        by_cases h1 : k < M.length
        · have q1 : (k : Int) < (M.length : Int) := by omega
          by_cases h2 : 256 + (k : Int) < bel
          · obtain ⟨⟨a, b⟩, hab⟩ : ∃ m, M[k] = m := ⟨_, rfl⟩
            have HNX := Lib.hid (HSEQ.out k L a b h1 h2 hab)
            have hab2 := List.getElem?_eq_getElem h1
            rw [hab] at hab2
            obtain ⟨ba, o, hA2, hcc⟩ := HSL.out k (a, b) hab2
            subst hA2
            have HMA : Hid (W.cell? ⟨ba, o + k * 2, none⟩ = some (.int .i64 a)) := Lib.hid (below_cell HREN.out.bl (Nat.le_refl _) (hcc 0 _ rfl))
            have HMB : Hid (W.cell? ⟨ba, o + k * 2 + 1, none⟩ = some (.int .i64 b)) := Lib.hid (below_cell HREN.out.bl (Nat.le_refl _) (hcc 1 _ rfl))
            clear hcc hab hab2 hk
            go_wp2_with fail
            have HM1 := Lib.hid m1
            clear m1
            go_loopg [10, 11] L.length (fun n u j W2 => ∃ i O A3 c3, i + n = L.length ∧ j = .int .i64 ((i : Nat) : Int) ∧ u = .slice A3 (O : List Int).length c3 ∧ W2.ownsRow W.heap.size 3 1 (.slice A3 O.length c3) O.length (O.map (Value.int .i64)) ∧ Below W.heap.size W W2 ∧ O ++ rep a b (256 + (k : Int)) (L.drop i) = rep a b (256 + (k : Int)) L ∧ O.length ≤ i)
            case atStart => exact ⟨0, [], none, 0, by omega, rfl, rfl, own_nil _ _ _ _, Below.refl _ _, rfl, Nat.le_refl _⟩
            case round =>
              obtain ⟨i, O, A3, c3, hi, rfl, rfl, hO, hbO, hrep, hol⟩ := hrel
              rename World => W2
              have HO := Lib.hid hO
              have HBO := Lib.hid hbO
              have HREP0 := Lib.hid hrep
              have HI := Lib.hid hi
              have hll := HLL.out
              clear hO hbO hrep
              have w2 : IntKind.i64.wrap ((i : Int) + 1) = (i : Int) + 1 := IntWalk.i64_in _ (by omega)
              have w3 : IntKind.i64.wrap ((i : Int) + 1 + 1) = (i : Int) + 1 + 1 := IntWalk.i64_in _ (by omega)
              by_cases hlt : i < L.length
              · have p0 : (0 : Int) ≤ (i : Int) := by omega
                have p1 : (i : Int) < (L.length : Int) := by omega
                have q0 : (0 : Int) ≤ (k : Int) := by omega
                obtain ⟨⟨A', c', e, hr⟩, _⟩ := HREN.out
                injection e with e1 e2 e3
                subst e1; subst e3
                have hsl := (own_sl1 hr).below HBO.out (Nat.le_refl _)
                have HSLL := Lib.hid hsl
                obtain ⟨b1, o1, hA1, l0⟩ := hsl.at i hlt
                subst hA1
                have m0 := below_cell HBO.out (Nat.le_refl _) HMA.out
                have m1 := below_cell HBO.out (Nat.le_refl _) HM1.out
                have mb := below_cell HBO.out (Nat.le_refl _) HMB.out
                clear hr hsl hi
                by_cases hn : i + 1 < L.length
                · have p2 : (i : Int) + 1 < (L.length : Int) := by omega
                  have p3 : (0 : Int) ≤ (i : Int) + 1 := by omega
                  have p4 : ((i : Int) + 1).toNat = i + 1 := by omega
                  obtain ⟨b1', o1', e, l1⟩ := HSLL.out.at (i + 1) hn
                  injection e with e
                  injection e with e1 e2
                  subst e1; subst e2
                  have HX : Hid (∀ x y, L[i] = x → L[i + 1] = y → (x = a → y = b → O ++ [256 + (k : Int)] ++ rep a b (256 + (k : Int)) (L.drop (i + 2)) = rep a b (256 + (k : Int)) L) ∧ (¬ (x = a ∧ y = b) → O ++ [x] ++ rep a b (256 + (k : Int)) (L.drop (i + 1)) = rep a b (256 + (k : Int)) L)) := Lib.hid (fun x y hx hy => ⟨fun e1 e2 => by rw [← HREP0.out, rep_two hn (hx.trans e1) (hy.trans e2)]; simp, fun e1 => by rw [← HREP0.out, rep_one hlt (fun ⟨_, e2, e3⟩ => e1 ⟨hx.symm.trans e2, hy.symm.trans e3⟩), hx]; simp⟩)
                  replace HX := Lib.hid (HX.out L[i] L[i + 1] rfl rfl)
                  generalize L[i] = x at *
                  generalize L[i + 1] = y at *
                  by_cases hx : x = a
                  · subst hx
                    by_cases hy : y = b
                    · subst hy
                      have HREP := Lib.hid (HX.out.1 rfl rfl)
                      go_upto_region 13 with fail
                      refine wp_region_held_drew (S := fun V => V.cell? ⟨w.heap.size, 1, none⟩ = some (.slice (some ⟨ba, o, none⟩) M.length c2) ∧ V.cell? ⟨ba, o + k * 2, none⟩ = some (.int .i64 x) ∧ V.cell? ⟨ba, o + k * 2 + 1, none⟩ = some (.int .i64 y) ∧ V.cell? ⟨b1, o1 + i, none⟩ = some (.int .i64 x) ∧ V.cell? ⟨b1, o1 + (i + 1), none⟩ = some (.int .i64 y)) (by kernel_rfl) (by exact ⟨m1, m0, mb, l0, l1⟩) (fun hHeld => ?_)
                      refine wpAnyH_takeD (i := 0) (oi := { dst := some 44, op := Op.move (Operand.tmp 11), type := 3, pos := "ref.go:15", after := #[], guard := none }) (d := 44) (v := ?_) rfl rfl (by kernel_rfl) (by kernel_rfl) (by kernel_rfl) (fun _ _ _ h => h) (Or.inl ⟨by rfl, ?_⟩) hHeld ?_
                      rotate_left
                      · (intro w' hSw; (try dsimp only at hSw); go_simp; (try with_reducible rfl))
                      simp only [List.setIfInBounds_toArray, List.set_cons_zero, List.set_cons_succ]
                      refine wpAnyH_takeD (i := 1) (oi := { dst := some 45, op := Op.binOp BinOp.add 3 (Operand.tmp 44) (Operand.const (Value.int IntKind.i64 1)) 3, type := 3, pos := "ref.go:15", after := #[{ on := 0, ground := Ground.data }], guard := none }) (d := 45) (v := ?_) rfl rfl (by kernel_rfl) (by kernel_rfl) (by kernel_rfl) (fun _ _ _ h => h) (Or.inl ⟨by rfl, ?_⟩) hHeld ?_
                      rotate_left
                      · (intro w' hSw; (try dsimp only at hSw); go_simp; (try with_reducible rfl))
                      simp only [List.setIfInBounds_toArray, List.set_cons_zero, List.set_cons_succ]
                      refine wpAnyH_takeD (i := 2) (oi := { dst := some 46, op := Op.move (Operand.tmp 7), type := 31, pos := "ref.go:15", after := #[], guard := none }) (d := 46) (v := ?_) rfl rfl (by kernel_rfl) (by kernel_rfl) (by kernel_rfl) (fun _ _ _ h => h) (Or.inl ⟨by rfl, ?_⟩) hHeld ?_
                      rotate_left
                      · (intro w' hSw; (try dsimp only at hSw); go_simp; (try with_reducible rfl))
                      simp only [List.setIfInBounds_toArray, List.set_cons_zero, List.set_cons_succ]
                      refine wpAnyH_takeD (i := 3) (oi := { dst := some 47, op := Op.call { callee := Callee.builtin Builtin.len, args := #[Operand.tmp 46], argTypes := #[31] }, type := 3, pos := "ref.go:15", after := #[{ on := 2, ground := Ground.data }], guard := none }) (d := 47) (v := ?_) rfl rfl (by kernel_rfl) (by kernel_rfl) (by kernel_rfl) (fun _ _ _ h => h) (Or.inl ⟨by rfl, ?_⟩) hHeld ?_
                      rotate_left
                      · (intro w' hSw; (try dsimp only at hSw); go_simp; (try with_reducible rfl))
                      simp only [List.setIfInBounds_toArray, List.set_cons_zero, List.set_cons_succ]
                      refine wpAnyH_takeD (i := 4) (oi := { dst := some 48, op := Op.binOp BinOp.lss 3 (Operand.tmp 45) (Operand.tmp 47) 3, type := 4, pos := "ref.go:15", after := #[{ on := 1, ground := Ground.data }, { on := 3, ground := Ground.data }], guard := none }) (d := 48) (v := ?_) rfl rfl (by kernel_rfl) (by kernel_rfl) (by kernel_rfl) (fun _ _ _ h => h) (Or.inl ⟨by rfl, ?_⟩) hHeld ?_
                      rotate_left
                      · (intro w' hSw; (try dsimp only at hSw); go_simp; (try with_reducible rfl))
                      simp only [List.setIfInBounds_toArray, List.set_cons_zero, List.set_cons_succ]
                      refine wpAnyH_takeD (i := 5) (oi := { dst := some 49, op := Op.move (Operand.tmp 48), type := 4, pos := "ref.go:15", after := #[{ on := 4, ground := Ground.data }], guard := none }) (d := 49) (v := ?_) rfl rfl (by kernel_rfl) (by kernel_rfl) (by kernel_rfl) (fun _ _ _ h => h) (Or.inl ⟨by rfl, ?_⟩) hHeld ?_
                      rotate_left
                      · (intro w' hSw; (try dsimp only at hSw); go_simp; (try with_reducible rfl))
                      simp only [List.setIfInBounds_toArray, List.set_cons_zero, List.set_cons_succ]
                      refine wpAnyH_takeD (i := 6) (oi := { dst := some 50, op := Op.move (Operand.tmp 7), type := 31, pos := "ref.go:15", after := #[{ on := 5, ground := Ground.guard }], guard := some (5, true) }) (d := 50) (v := ?_) rfl rfl (by kernel_rfl) (by kernel_rfl) (by kernel_rfl) (fun _ _ _ h => h) (Or.inl ⟨by rfl, ?_⟩) hHeld ?_
                      rotate_left
                      · (intro w' hSw; (try dsimp only at hSw); go_simp; (try with_reducible rfl))
                      simp only [List.setIfInBounds_toArray, List.set_cons_zero, List.set_cons_succ]
                      refine wpAnyH_takeD (i := 7) (oi := { dst := some 51, op := Op.move (Operand.tmp 11), type := 3, pos := "ref.go:15", after := #[{ on := 5, ground := Ground.guard }], guard := some (5, true) }) (d := 51) (v := ?_) rfl rfl (by kernel_rfl) (by kernel_rfl) (by kernel_rfl) (fun _ _ _ h => h) (Or.inl ⟨by rfl, ?_⟩) hHeld ?_
                      rotate_left
                      · (intro w' hSw; (try dsimp only at hSw); go_simp; (try with_reducible rfl))
                      simp only [List.setIfInBounds_toArray, List.set_cons_zero, List.set_cons_succ]
                      refine wpAnyH_takeD (i := 8) (oi := { dst := some 52, op := Op.indexAddr 31 (Operand.tmp 50) (Operand.tmp 51), type := 0, pos := "ref.go:15", after := #[{ on := 6, ground := Ground.data }, { on := 7, ground := Ground.data }, { on := 5, ground := Ground.guard }], guard := some (5, true) }) (d := 52) (v := ?_) rfl rfl (by kernel_rfl) (by kernel_rfl) (by kernel_rfl) (fun _ _ _ h => h) (Or.inl ⟨by rfl, ?_⟩) hHeld ?_
                      rotate_left
                      · (intro w' hSw; (try dsimp only at hSw); go_simp; (try with_reducible rfl))
                      simp only [List.setIfInBounds_toArray, List.set_cons_zero, List.set_cons_succ]
                      refine wpAnyH_takeD (i := 9) (oi := { dst := some 53, op := Op.load 3 (Operand.tmp 52), type := 3, pos := "ref.go:15", after := #[{ on := 8, ground := Ground.data }, { on := 5, ground := Ground.guard }], guard := some (5, true) }) (d := 53) (v := ?_) rfl rfl (by kernel_rfl) (by kernel_rfl) (by kernel_rfl) (fun _ _ _ h => h) (Or.inl ⟨by rfl, ?_⟩) hHeld ?_
                      rotate_left
                      · (intro w' hSw; (try dsimp only at hSw); go_simp; (try with_reducible rfl))
                      simp only [List.setIfInBounds_toArray, List.set_cons_zero, List.set_cons_succ]
                      refine wpAnyH_takeD (i := 10) (oi := { dst := some 54, op := Op.fieldAddr 28 (Operand.tmp 3) 1, type := 0, pos := "ref.go:15", after := #[{ on := 5, ground := Ground.guard }], guard := some (5, true) }) (d := 54) (v := ?_) rfl rfl (by kernel_rfl) (by kernel_rfl) (by kernel_rfl) (fun _ _ _ h => h) (Or.inl ⟨by rfl, ?_⟩) hHeld ?_
                      rotate_left
                      · (intro w' hSw; (try dsimp only at hSw); go_simp; (try with_reducible rfl))
                      simp only [List.setIfInBounds_toArray, List.set_cons_zero, List.set_cons_succ]
                      refine wpAnyH_takeD (i := 11) (oi := { dst := some 55, op := Op.load 26 (Operand.tmp 54), type := 26, pos := "ref.go:15", after := #[{ on := 10, ground := Ground.data }, { on := 5, ground := Ground.guard }], guard := some (5, true) }) (d := 55) (v := ?_) rfl rfl (by kernel_rfl) (by kernel_rfl) (by kernel_rfl) (fun _ _ _ h => h) (Or.inl ⟨by rfl, ?_⟩) hHeld ?_
                      rotate_left
                      · (intro w' hSw; (try dsimp only at hSw); go_simp; (try with_reducible rfl))
                      simp only [List.setIfInBounds_toArray, List.set_cons_zero, List.set_cons_succ]
                      refine wpAnyH_takeD (i := 12) (oi := { dst := some 56, op := Op.move (Operand.tmp 9), type := 3, pos := "ref.go:15", after := #[{ on := 5, ground := Ground.guard }], guard := some (5, true) }) (d := 56) (v := ?_) rfl rfl (by kernel_rfl) (by kernel_rfl) (by kernel_rfl) (fun _ _ _ h => h) (Or.inl ⟨by rfl, ?_⟩) hHeld ?_
                      rotate_left
                      · (intro w' hSw; (try dsimp only at hSw); go_simp; (try with_reducible rfl))
                      simp only [List.setIfInBounds_toArray, List.set_cons_zero, List.set_cons_succ]
                      refine wpAnyH_takeD (i := 13) (oi := { dst := some 57, op := Op.indexAddr 26 (Operand.tmp 55) (Operand.tmp 56), type := 0, pos := "ref.go:15", after := #[{ on := 11, ground := Ground.data }, { on := 12, ground := Ground.data }, { on := 5, ground := Ground.guard }], guard := some (5, true) }) (d := 57) (v := ?_) rfl rfl (by kernel_rfl) (by kernel_rfl) (by kernel_rfl) (fun _ _ _ h => h) (Or.inl ⟨by rfl, ?_⟩) hHeld ?_
                      rotate_left
                      · (intro w' hSw; (try dsimp only at hSw); go_simp; (try with_reducible rfl))
                      simp only [List.setIfInBounds_toArray, List.set_cons_zero, List.set_cons_succ]
                      refine wpAnyH_takeD (i := 14) (oi := { dst := some 58, op := Op.fieldAddr 71 (Operand.tmp 57) 0, type := 0, pos := "ref.go:15", after := #[{ on := 13, ground := Ground.data }, { on := 5, ground := Ground.guard }], guard := some (5, true) }) (d := 58) (v := ?_) rfl rfl (by kernel_rfl) (by kernel_rfl) (by kernel_rfl) (fun _ _ _ h => h) (Or.inl ⟨by rfl, ?_⟩) hHeld ?_
                      rotate_left
                      · (intro w' hSw; (try dsimp only at hSw); go_simp; (try with_reducible rfl))
                      simp only [List.setIfInBounds_toArray, List.set_cons_zero, List.set_cons_succ]
                      refine wpAnyH_takeD (i := 15) (oi := { dst := some 59, op := Op.load 3 (Operand.tmp 58), type := 3, pos := "ref.go:15", after := #[{ on := 14, ground := Ground.data }, { on := 5, ground := Ground.guard }], guard := some (5, true) }) (d := 59) (v := ?_) rfl rfl (by kernel_rfl) (by kernel_rfl) (by kernel_rfl) (fun _ _ _ h => h) (Or.inl ⟨by rfl, ?_⟩) hHeld ?_
                      rotate_left
                      · (intro w' hSw; (try dsimp only at hSw); go_simp; (try with_reducible rfl))
                      simp only [List.setIfInBounds_toArray, List.set_cons_zero, List.set_cons_succ]
                      refine wpAnyH_takeD (i := 16) (oi := { dst := some 60, op := Op.binOp BinOp.eql 3 (Operand.tmp 53) (Operand.tmp 59) 3, type := 4, pos := "ref.go:15", after := #[{ on := 9, ground := Ground.data }, { on := 15, ground := Ground.data }, { on := 5, ground := Ground.guard }], guard := some (5, true) }) (d := 60) (v := ?_) rfl rfl (by kernel_rfl) (by kernel_rfl) (by kernel_rfl) (fun _ _ _ h => h) (Or.inl ⟨by rfl, ?_⟩) hHeld ?_
                      rotate_left
                      · (intro w' hSw; (try dsimp only at hSw); go_simp; (try with_reducible rfl))
                      simp only [List.setIfInBounds_toArray, List.set_cons_zero, List.set_cons_succ]
                      refine wpAnyH_takeD (i := 17) (oi := { dst := some 61, op := Op.pick (Operand.tmp 49) (Operand.tmp 60) (Operand.const (Value.bool false)), type := 4, pos := "ref.go:15", after := #[{ on := 5, ground := Ground.data }, { on := 16, ground := Ground.data }], guard := none }) (d := 61) (v := ?_) rfl rfl (by kernel_rfl) (by kernel_rfl) (by kernel_rfl) (fun _ _ _ h => h) (Or.inl ⟨by rfl, ?_⟩) hHeld ?_
                      rotate_left
                      · (intro w' hSw; (try dsimp only at hSw); go_simp; (try with_reducible rfl))
                      simp only [List.setIfInBounds_toArray, List.set_cons_zero, List.set_cons_succ]
                      refine wpAnyH_takeD (i := 18) (oi := { dst := some 62, op := Op.move (Operand.tmp 61), type := 4, pos := "ref.go:15", after := #[{ on := 17, ground := Ground.data }, { on := 5, ground := Ground.chain }], guard := none }) (d := 62) (v := ?_) rfl rfl (by kernel_rfl) (by kernel_rfl) (by kernel_rfl) (fun _ _ _ h => h) (Or.inl ⟨by rfl, ?_⟩) hHeld ?_
                      rotate_left
                      · (intro w' hSw; (try dsimp only at hSw); go_simp; (try with_reducible rfl))
                      simp only [List.setIfInBounds_toArray, List.set_cons_zero, List.set_cons_succ]
                      refine wpAnyH_takeD (i := 19) (oi := { dst := some 63, op := Op.move (Operand.tmp 7), type := 31, pos := "ref.go:15", after := #[{ on := 18, ground := Ground.guard }], guard := some (18, true) }) (d := 63) (v := ?_) rfl rfl (by kernel_rfl) (by kernel_rfl) (by kernel_rfl) (fun _ _ _ h => h) (Or.inl ⟨by rfl, ?_⟩) hHeld ?_
                      rotate_left
                      · (intro w' hSw; (try dsimp only at hSw); go_simp; (try with_reducible rfl))
                      simp only [List.setIfInBounds_toArray, List.set_cons_zero, List.set_cons_succ]
                      refine wpAnyH_takeD (i := 20) (oi := { dst := some 64, op := Op.move (Operand.tmp 11), type := 3, pos := "ref.go:15", after := #[{ on := 18, ground := Ground.guard }], guard := some (18, true) }) (d := 64) (v := ?_) rfl rfl (by kernel_rfl) (by kernel_rfl) (by kernel_rfl) (fun _ _ _ h => h) (Or.inl ⟨by rfl, ?_⟩) hHeld ?_
                      rotate_left
                      · (intro w' hSw; (try dsimp only at hSw); go_simp; (try with_reducible rfl))
                      simp only [List.setIfInBounds_toArray, List.set_cons_zero, List.set_cons_succ]
                      refine wpAnyH_takeD (i := 21) (oi := { dst := some 65, op := Op.binOp BinOp.add 3 (Operand.tmp 64) (Operand.const (Value.int IntKind.i64 1)) 3, type := 3, pos := "ref.go:15", after := #[{ on := 20, ground := Ground.data }, { on := 18, ground := Ground.guard }], guard := some (18, true) }) (d := 65) (v := ?_) rfl rfl (by kernel_rfl) (by kernel_rfl) (by kernel_rfl) (fun _ _ _ h => h) (Or.inl ⟨by rfl, ?_⟩) hHeld ?_
                      rotate_left
                      · (intro w' hSw; (try dsimp only at hSw); go_simp; (try with_reducible rfl))
                      simp only [List.setIfInBounds_toArray, List.set_cons_zero, List.set_cons_succ]
                      refine wpAnyH_takeD (i := 22) (oi := { dst := some 66, op := Op.indexAddr 31 (Operand.tmp 63) (Operand.tmp 65), type := 0, pos := "ref.go:15", after := #[{ on := 19, ground := Ground.data }, { on := 21, ground := Ground.data }, { on := 18, ground := Ground.guard }], guard := some (18, true) }) (d := 66) (v := ?_) rfl rfl (by kernel_rfl) (by kernel_rfl) (by kernel_rfl) (fun _ _ _ h => h) (Or.inl ⟨by rfl, ?_⟩) hHeld ?_
                      rotate_left
                      · (intro w' hSw; (try dsimp only at hSw); go_simp; (try with_reducible rfl))
                      simp only [List.setIfInBounds_toArray, List.set_cons_zero, List.set_cons_succ]
                      refine wpAnyH_takeD (i := 23) (oi := { dst := some 67, op := Op.load 3 (Operand.tmp 66), type := 3, pos := "ref.go:15", after := #[{ on := 22, ground := Ground.data }, { on := 18, ground := Ground.guard }], guard := some (18, true) }) (d := 67) (v := ?_) rfl rfl (by kernel_rfl) (by kernel_rfl) (by kernel_rfl) (fun _ _ _ h => h) (Or.inl ⟨by rfl, ?_⟩) hHeld ?_
                      rotate_left
                      · (intro w' hSw; (try dsimp only at hSw); go_simp; (try with_reducible rfl))
                      simp only [List.setIfInBounds_toArray, List.set_cons_zero, List.set_cons_succ]
                      refine wpAnyH_takeD (i := 24) (oi := { dst := some 68, op := Op.fieldAddr 28 (Operand.tmp 3) 1, type := 0, pos := "ref.go:15", after := #[{ on := 18, ground := Ground.guard }], guard := some (18, true) }) (d := 68) (v := ?_) rfl rfl (by kernel_rfl) (by kernel_rfl) (by kernel_rfl) (fun _ _ _ h => h) (Or.inl ⟨by rfl, ?_⟩) hHeld ?_
                      rotate_left
                      · (intro w' hSw; (try dsimp only at hSw); go_simp; (try with_reducible rfl))
                      simp only [List.setIfInBounds_toArray, List.set_cons_zero, List.set_cons_succ]
                      refine wpAnyH_takeD (i := 25) (oi := { dst := some 69, op := Op.load 26 (Operand.tmp 68), type := 26, pos := "ref.go:15", after := #[{ on := 24, ground := Ground.data }, { on := 18, ground := Ground.guard }], guard := some (18, true) }) (d := 69) (v := ?_) rfl rfl (by kernel_rfl) (by kernel_rfl) (by kernel_rfl) (fun _ _ _ h => h) (Or.inl ⟨by rfl, ?_⟩) hHeld ?_
                      rotate_left
                      · (intro w' hSw; (try dsimp only at hSw); go_simp; (try with_reducible rfl))
                      simp only [List.setIfInBounds_toArray, List.set_cons_zero, List.set_cons_succ]
                      refine wpAnyH_takeD (i := 26) (oi := { dst := some 70, op := Op.move (Operand.tmp 9), type := 3, pos := "ref.go:15", after := #[{ on := 18, ground := Ground.guard }], guard := some (18, true) }) (d := 70) (v := ?_) rfl rfl (by kernel_rfl) (by kernel_rfl) (by kernel_rfl) (fun _ _ _ h => h) (Or.inl ⟨by rfl, ?_⟩) hHeld ?_
                      rotate_left
                      · (intro w' hSw; (try dsimp only at hSw); go_simp; (try with_reducible rfl))
                      simp only [List.setIfInBounds_toArray, List.set_cons_zero, List.set_cons_succ]
                      refine wpAnyH_takeD (i := 27) (oi := { dst := some 71, op := Op.indexAddr 26 (Operand.tmp 69) (Operand.tmp 70), type := 0, pos := "ref.go:15", after := #[{ on := 25, ground := Ground.data }, { on := 26, ground := Ground.data }, { on := 18, ground := Ground.guard }], guard := some (18, true) }) (d := 71) (v := ?_) rfl rfl (by kernel_rfl) (by kernel_rfl) (by kernel_rfl) (fun _ _ _ h => h) (Or.inl ⟨by rfl, ?_⟩) hHeld ?_
                      rotate_left
                      · (intro w' hSw; (try dsimp only at hSw); go_simp; (try with_reducible rfl))
                      simp only [List.setIfInBounds_toArray, List.set_cons_zero, List.set_cons_succ]
                      refine wpAnyH_takeD (i := 28) (oi := { dst := some 72, op := Op.fieldAddr 71 (Operand.tmp 71) 1, type := 0, pos := "ref.go:15", after := #[{ on := 27, ground := Ground.data }, { on := 18, ground := Ground.guard }], guard := some (18, true) }) (d := 72) (v := ?_) rfl rfl (by kernel_rfl) (by kernel_rfl) (by kernel_rfl) (fun _ _ _ h => h) (Or.inl ⟨by rfl, ?_⟩) hHeld ?_
                      rotate_left
                      · (intro w' hSw; (try dsimp only at hSw); go_simp; (try with_reducible rfl))
                      simp only [List.setIfInBounds_toArray, List.set_cons_zero, List.set_cons_succ]
                      refine wpAnyH_takeD (i := 29) (oi := { dst := some 73, op := Op.load 3 (Operand.tmp 72), type := 3, pos := "ref.go:15", after := #[{ on := 28, ground := Ground.data }, { on := 18, ground := Ground.guard }], guard := some (18, true) }) (d := 73) (v := ?_) rfl rfl (by kernel_rfl) (by kernel_rfl) (by kernel_rfl) (fun _ _ _ h => h) (Or.inl ⟨by rfl, ?_⟩) hHeld ?_
                      rotate_left
                      · (intro w' hSw; (try dsimp only at hSw); go_simp; (try with_reducible rfl))
                      simp only [List.setIfInBounds_toArray, List.set_cons_zero, List.set_cons_succ]
                      refine wpAnyH_takeD (i := 30) (oi := { dst := some 74, op := Op.binOp BinOp.eql 3 (Operand.tmp 67) (Operand.tmp 73) 3, type := 4, pos := "ref.go:15", after := #[{ on := 23, ground := Ground.data }, { on := 29, ground := Ground.data }, { on := 18, ground := Ground.guard }], guard := some (18, true) }) (d := 74) (v := ?_) rfl rfl (by kernel_rfl) (by kernel_rfl) (by kernel_rfl) (fun _ _ _ h => h) (Or.inl ⟨by rfl, ?_⟩) hHeld ?_
                      rotate_left
                      · (intro w' hSw; (try dsimp only at hSw); go_simp; (try with_reducible rfl))
                      simp only [List.setIfInBounds_toArray, List.set_cons_zero, List.set_cons_succ]
                      refine wpAnyH_takeD (i := 31) (oi := { dst := some 75, op := Op.pick (Operand.tmp 62) (Operand.tmp 74) (Operand.const (Value.bool false)), type := 4, pos := "ref.go:15", after := #[{ on := 18, ground := Ground.data }, { on := 30, ground := Ground.data }], guard := none }) (d := 75) (v := ?_) rfl rfl (by kernel_rfl) (by kernel_rfl) (by kernel_rfl) (fun _ _ _ h => h) (Or.inl ⟨by rfl, ?_⟩) hHeld ?_
                      rotate_left
                      · (intro w' hSw; (try dsimp only at hSw); go_simp; (try with_reducible rfl))
                      simp only [List.setIfInBounds_toArray, List.set_cons_zero, List.set_cons_succ]
                      refine wpAnyH_done (by kernel_rfl) ?_ _
                      clear hHeld m0 m1 mb l1
                      replace l0 : W2.drew.cell? ⟨b1, o1 + i, none⟩ = some (.int .i64 x) := l0
                      replace HO : Hid (W2.drew.ownsRow W.heap.size 3 1 (.slice A3 O.length c3) O.length (O.map (Value.int .i64))) := Lib.hid (own_drew HO.out)
                      replace HBO := Lib.hid HBO.out.drew
                      generalize W2.drew = W2 at *
                      go_wp2_with (at_builtin; refine app_one W.heap.size 31 3 (.int .i64 0) 1 8 [_] 1 _ _ rfl rfl Try.underlying31 info_int5 rfl (by decide) _ _ _ rfl rfl rfl (by intro u hu; simp at hu; subst hu; rfl) HO.out (by omega) (by omega) HBO.out.size ?_)
                      intro v' w6 hown hg6
                      obtain ⟨A4, c4, rfl⟩ := own_slice hown
                      have hk6 : Below W.heap.size W2 w6 := Keep.below (Keep.of_grown (F := fun g => (Value.slice A3 O.length c3).ownBlock = some g) hg6 (fun g hg => hg)) HBO.out.size (fun x hx => own_base HO.out x hx)
                      have HO6 : Hid (w6.ownsRow W.heap.size 3 1 (.slice A4 (O ++ [256 + (k : Int)]).length c4) (O ++ [256 + (k : Int)]).length ((O ++ [256 + (k : Int)]).map (Value.int .i64))) := Lib.hid (by rw [List.length_append, List.map_append]; exact hown)
                      have HB6 := Lib.hid (HBO.out.trans hk6)
                      have HL6 : Hid ((O ++ [256 + (k : Int)]).length = O.length + 1) := Lib.hid (by simp)
                      clear hown hg6 hk6
                      go_wp2_with fail
                      go_roundg (gk - 2)
                      case measure => have := HI.out; omega
                      case rel => exact ⟨i + 2, O ++ [256 + (k : Int)], A4, c4, by have := HI.out; omega, by rw [show ((i + 2 : Nat) : Int) = (i : Int) + 1 + 1 by omega], by rw [HL6.out], HO6.out, HB6.out, HREP.out, by rw [HL6.out]; omega⟩
                    · have hyb : (y == b) = false := by simpa using hy
                      have HREP := Lib.hid (HX.out.2 (fun e => hy e.2))
                      clear hy
                      go_upto_region 13 with fail
                      refine wp_region_held_drew (S := fun V => V.cell? ⟨w.heap.size, 1, none⟩ = some (.slice (some ⟨ba, o, none⟩) M.length c2) ∧ V.cell? ⟨ba, o + k * 2, none⟩ = some (.int .i64 x) ∧ V.cell? ⟨ba, o + k * 2 + 1, none⟩ = some (.int .i64 b) ∧ V.cell? ⟨b1, o1 + i, none⟩ = some (.int .i64 x) ∧ V.cell? ⟨b1, o1 + (i + 1), none⟩ = some (.int .i64 y)) (by kernel_rfl) (by exact ⟨m1, m0, mb, l0, l1⟩) (fun hHeld => ?_)
                      refine wpAnyH_takeD (i := 0) (oi := { dst := some 44, op := Op.move (Operand.tmp 11), type := 3, pos := "ref.go:15", after := #[], guard := none }) (d := 44) (v := ?_) rfl rfl (by kernel_rfl) (by kernel_rfl) (by kernel_rfl) (fun _ _ _ h => h) (Or.inl ⟨by rfl, ?_⟩) hHeld ?_
                      rotate_left
                      · (intro w' hSw; (try dsimp only at hSw); go_simp; (try with_reducible rfl))
                      simp only [List.setIfInBounds_toArray, List.set_cons_zero, List.set_cons_succ]
                      refine wpAnyH_takeD (i := 1) (oi := { dst := some 45, op := Op.binOp BinOp.add 3 (Operand.tmp 44) (Operand.const (Value.int IntKind.i64 1)) 3, type := 3, pos := "ref.go:15", after := #[{ on := 0, ground := Ground.data }], guard := none }) (d := 45) (v := ?_) rfl rfl (by kernel_rfl) (by kernel_rfl) (by kernel_rfl) (fun _ _ _ h => h) (Or.inl ⟨by rfl, ?_⟩) hHeld ?_
                      rotate_left
                      · (intro w' hSw; (try dsimp only at hSw); go_simp; (try with_reducible rfl))
                      simp only [List.setIfInBounds_toArray, List.set_cons_zero, List.set_cons_succ]
                      refine wpAnyH_takeD (i := 2) (oi := { dst := some 46, op := Op.move (Operand.tmp 7), type := 31, pos := "ref.go:15", after := #[], guard := none }) (d := 46) (v := ?_) rfl rfl (by kernel_rfl) (by kernel_rfl) (by kernel_rfl) (fun _ _ _ h => h) (Or.inl ⟨by rfl, ?_⟩) hHeld ?_
                      rotate_left
                      · (intro w' hSw; (try dsimp only at hSw); go_simp; (try with_reducible rfl))
                      simp only [List.setIfInBounds_toArray, List.set_cons_zero, List.set_cons_succ]
                      refine wpAnyH_takeD (i := 3) (oi := { dst := some 47, op := Op.call { callee := Callee.builtin Builtin.len, args := #[Operand.tmp 46], argTypes := #[31] }, type := 3, pos := "ref.go:15", after := #[{ on := 2, ground := Ground.data }], guard := none }) (d := 47) (v := ?_) rfl rfl (by kernel_rfl) (by kernel_rfl) (by kernel_rfl) (fun _ _ _ h => h) (Or.inl ⟨by rfl, ?_⟩) hHeld ?_
                      rotate_left
                      · (intro w' hSw; (try dsimp only at hSw); go_simp; (try with_reducible rfl))
                      simp only [List.setIfInBounds_toArray, List.set_cons_zero, List.set_cons_succ]
                      refine wpAnyH_takeD (i := 4) (oi := { dst := some 48, op := Op.binOp BinOp.lss 3 (Operand.tmp 45) (Operand.tmp 47) 3, type := 4, pos := "ref.go:15", after := #[{ on := 1, ground := Ground.data }, { on := 3, ground := Ground.data }], guard := none }) (d := 48) (v := ?_) rfl rfl (by kernel_rfl) (by kernel_rfl) (by kernel_rfl) (fun _ _ _ h => h) (Or.inl ⟨by rfl, ?_⟩) hHeld ?_
                      rotate_left
                      · (intro w' hSw; (try dsimp only at hSw); go_simp; (try with_reducible rfl))
                      simp only [List.setIfInBounds_toArray, List.set_cons_zero, List.set_cons_succ]
                      refine wpAnyH_takeD (i := 5) (oi := { dst := some 49, op := Op.move (Operand.tmp 48), type := 4, pos := "ref.go:15", after := #[{ on := 4, ground := Ground.data }], guard := none }) (d := 49) (v := ?_) rfl rfl (by kernel_rfl) (by kernel_rfl) (by kernel_rfl) (fun _ _ _ h => h) (Or.inl ⟨by rfl, ?_⟩) hHeld ?_
                      rotate_left
                      · (intro w' hSw; (try dsimp only at hSw); go_simp; (try with_reducible rfl))
                      simp only [List.setIfInBounds_toArray, List.set_cons_zero, List.set_cons_succ]
                      refine wpAnyH_takeD (i := 6) (oi := { dst := some 50, op := Op.move (Operand.tmp 7), type := 31, pos := "ref.go:15", after := #[{ on := 5, ground := Ground.guard }], guard := some (5, true) }) (d := 50) (v := ?_) rfl rfl (by kernel_rfl) (by kernel_rfl) (by kernel_rfl) (fun _ _ _ h => h) (Or.inl ⟨by rfl, ?_⟩) hHeld ?_
                      rotate_left
                      · (intro w' hSw; (try dsimp only at hSw); go_simp; (try with_reducible rfl))
                      simp only [List.setIfInBounds_toArray, List.set_cons_zero, List.set_cons_succ]
                      refine wpAnyH_takeD (i := 7) (oi := { dst := some 51, op := Op.move (Operand.tmp 11), type := 3, pos := "ref.go:15", after := #[{ on := 5, ground := Ground.guard }], guard := some (5, true) }) (d := 51) (v := ?_) rfl rfl (by kernel_rfl) (by kernel_rfl) (by kernel_rfl) (fun _ _ _ h => h) (Or.inl ⟨by rfl, ?_⟩) hHeld ?_
                      rotate_left
                      · (intro w' hSw; (try dsimp only at hSw); go_simp; (try with_reducible rfl))
                      simp only [List.setIfInBounds_toArray, List.set_cons_zero, List.set_cons_succ]
                      refine wpAnyH_takeD (i := 8) (oi := { dst := some 52, op := Op.indexAddr 31 (Operand.tmp 50) (Operand.tmp 51), type := 0, pos := "ref.go:15", after := #[{ on := 6, ground := Ground.data }, { on := 7, ground := Ground.data }, { on := 5, ground := Ground.guard }], guard := some (5, true) }) (d := 52) (v := ?_) rfl rfl (by kernel_rfl) (by kernel_rfl) (by kernel_rfl) (fun _ _ _ h => h) (Or.inl ⟨by rfl, ?_⟩) hHeld ?_
                      rotate_left
                      · (intro w' hSw; (try dsimp only at hSw); go_simp; (try with_reducible rfl))
                      simp only [List.setIfInBounds_toArray, List.set_cons_zero, List.set_cons_succ]
                      refine wpAnyH_takeD (i := 9) (oi := { dst := some 53, op := Op.load 3 (Operand.tmp 52), type := 3, pos := "ref.go:15", after := #[{ on := 8, ground := Ground.data }, { on := 5, ground := Ground.guard }], guard := some (5, true) }) (d := 53) (v := ?_) rfl rfl (by kernel_rfl) (by kernel_rfl) (by kernel_rfl) (fun _ _ _ h => h) (Or.inl ⟨by rfl, ?_⟩) hHeld ?_
                      rotate_left
                      · (intro w' hSw; (try dsimp only at hSw); go_simp; (try with_reducible rfl))
                      simp only [List.setIfInBounds_toArray, List.set_cons_zero, List.set_cons_succ]
                      refine wpAnyH_takeD (i := 10) (oi := { dst := some 54, op := Op.fieldAddr 28 (Operand.tmp 3) 1, type := 0, pos := "ref.go:15", after := #[{ on := 5, ground := Ground.guard }], guard := some (5, true) }) (d := 54) (v := ?_) rfl rfl (by kernel_rfl) (by kernel_rfl) (by kernel_rfl) (fun _ _ _ h => h) (Or.inl ⟨by rfl, ?_⟩) hHeld ?_
                      rotate_left
                      · (intro w' hSw; (try dsimp only at hSw); go_simp; (try with_reducible rfl))
                      simp only [List.setIfInBounds_toArray, List.set_cons_zero, List.set_cons_succ]
                      refine wpAnyH_takeD (i := 11) (oi := { dst := some 55, op := Op.load 26 (Operand.tmp 54), type := 26, pos := "ref.go:15", after := #[{ on := 10, ground := Ground.data }, { on := 5, ground := Ground.guard }], guard := some (5, true) }) (d := 55) (v := ?_) rfl rfl (by kernel_rfl) (by kernel_rfl) (by kernel_rfl) (fun _ _ _ h => h) (Or.inl ⟨by rfl, ?_⟩) hHeld ?_
                      rotate_left
                      · (intro w' hSw; (try dsimp only at hSw); go_simp; (try with_reducible rfl))
                      simp only [List.setIfInBounds_toArray, List.set_cons_zero, List.set_cons_succ]
                      refine wpAnyH_takeD (i := 12) (oi := { dst := some 56, op := Op.move (Operand.tmp 9), type := 3, pos := "ref.go:15", after := #[{ on := 5, ground := Ground.guard }], guard := some (5, true) }) (d := 56) (v := ?_) rfl rfl (by kernel_rfl) (by kernel_rfl) (by kernel_rfl) (fun _ _ _ h => h) (Or.inl ⟨by rfl, ?_⟩) hHeld ?_
                      rotate_left
                      · (intro w' hSw; (try dsimp only at hSw); go_simp; (try with_reducible rfl))
                      simp only [List.setIfInBounds_toArray, List.set_cons_zero, List.set_cons_succ]
                      refine wpAnyH_takeD (i := 13) (oi := { dst := some 57, op := Op.indexAddr 26 (Operand.tmp 55) (Operand.tmp 56), type := 0, pos := "ref.go:15", after := #[{ on := 11, ground := Ground.data }, { on := 12, ground := Ground.data }, { on := 5, ground := Ground.guard }], guard := some (5, true) }) (d := 57) (v := ?_) rfl rfl (by kernel_rfl) (by kernel_rfl) (by kernel_rfl) (fun _ _ _ h => h) (Or.inl ⟨by rfl, ?_⟩) hHeld ?_
                      rotate_left
                      · (intro w' hSw; (try dsimp only at hSw); go_simp; (try with_reducible rfl))
                      simp only [List.setIfInBounds_toArray, List.set_cons_zero, List.set_cons_succ]
                      refine wpAnyH_takeD (i := 14) (oi := { dst := some 58, op := Op.fieldAddr 71 (Operand.tmp 57) 0, type := 0, pos := "ref.go:15", after := #[{ on := 13, ground := Ground.data }, { on := 5, ground := Ground.guard }], guard := some (5, true) }) (d := 58) (v := ?_) rfl rfl (by kernel_rfl) (by kernel_rfl) (by kernel_rfl) (fun _ _ _ h => h) (Or.inl ⟨by rfl, ?_⟩) hHeld ?_
                      rotate_left
                      · (intro w' hSw; (try dsimp only at hSw); go_simp; (try with_reducible rfl))
                      simp only [List.setIfInBounds_toArray, List.set_cons_zero, List.set_cons_succ]
                      refine wpAnyH_takeD (i := 15) (oi := { dst := some 59, op := Op.load 3 (Operand.tmp 58), type := 3, pos := "ref.go:15", after := #[{ on := 14, ground := Ground.data }, { on := 5, ground := Ground.guard }], guard := some (5, true) }) (d := 59) (v := ?_) rfl rfl (by kernel_rfl) (by kernel_rfl) (by kernel_rfl) (fun _ _ _ h => h) (Or.inl ⟨by rfl, ?_⟩) hHeld ?_
                      rotate_left
                      · (intro w' hSw; (try dsimp only at hSw); go_simp; (try with_reducible rfl))
                      simp only [List.setIfInBounds_toArray, List.set_cons_zero, List.set_cons_succ]
                      refine wpAnyH_takeD (i := 16) (oi := { dst := some 60, op := Op.binOp BinOp.eql 3 (Operand.tmp 53) (Operand.tmp 59) 3, type := 4, pos := "ref.go:15", after := #[{ on := 9, ground := Ground.data }, { on := 15, ground := Ground.data }, { on := 5, ground := Ground.guard }], guard := some (5, true) }) (d := 60) (v := ?_) rfl rfl (by kernel_rfl) (by kernel_rfl) (by kernel_rfl) (fun _ _ _ h => h) (Or.inl ⟨by rfl, ?_⟩) hHeld ?_
                      rotate_left
                      · (intro w' hSw; (try dsimp only at hSw); go_simp; (try with_reducible rfl))
                      simp only [List.setIfInBounds_toArray, List.set_cons_zero, List.set_cons_succ]
                      refine wpAnyH_takeD (i := 17) (oi := { dst := some 61, op := Op.pick (Operand.tmp 49) (Operand.tmp 60) (Operand.const (Value.bool false)), type := 4, pos := "ref.go:15", after := #[{ on := 5, ground := Ground.data }, { on := 16, ground := Ground.data }], guard := none }) (d := 61) (v := ?_) rfl rfl (by kernel_rfl) (by kernel_rfl) (by kernel_rfl) (fun _ _ _ h => h) (Or.inl ⟨by rfl, ?_⟩) hHeld ?_
                      rotate_left
                      · (intro w' hSw; (try dsimp only at hSw); go_simp; (try with_reducible rfl))
                      simp only [List.setIfInBounds_toArray, List.set_cons_zero, List.set_cons_succ]
                      refine wpAnyH_takeD (i := 18) (oi := { dst := some 62, op := Op.move (Operand.tmp 61), type := 4, pos := "ref.go:15", after := #[{ on := 17, ground := Ground.data }, { on := 5, ground := Ground.chain }], guard := none }) (d := 62) (v := ?_) rfl rfl (by kernel_rfl) (by kernel_rfl) (by kernel_rfl) (fun _ _ _ h => h) (Or.inl ⟨by rfl, ?_⟩) hHeld ?_
                      rotate_left
                      · (intro w' hSw; (try dsimp only at hSw); go_simp; (try with_reducible rfl))
                      simp only [List.setIfInBounds_toArray, List.set_cons_zero, List.set_cons_succ]
                      refine wpAnyH_takeD (i := 19) (oi := { dst := some 63, op := Op.move (Operand.tmp 7), type := 31, pos := "ref.go:15", after := #[{ on := 18, ground := Ground.guard }], guard := some (18, true) }) (d := 63) (v := ?_) rfl rfl (by kernel_rfl) (by kernel_rfl) (by kernel_rfl) (fun _ _ _ h => h) (Or.inl ⟨by rfl, ?_⟩) hHeld ?_
                      rotate_left
                      · (intro w' hSw; (try dsimp only at hSw); go_simp; (try with_reducible rfl))
                      simp only [List.setIfInBounds_toArray, List.set_cons_zero, List.set_cons_succ]
                      refine wpAnyH_takeD (i := 20) (oi := { dst := some 64, op := Op.move (Operand.tmp 11), type := 3, pos := "ref.go:15", after := #[{ on := 18, ground := Ground.guard }], guard := some (18, true) }) (d := 64) (v := ?_) rfl rfl (by kernel_rfl) (by kernel_rfl) (by kernel_rfl) (fun _ _ _ h => h) (Or.inl ⟨by rfl, ?_⟩) hHeld ?_
                      rotate_left
                      · (intro w' hSw; (try dsimp only at hSw); go_simp; (try with_reducible rfl))
                      simp only [List.setIfInBounds_toArray, List.set_cons_zero, List.set_cons_succ]
                      refine wpAnyH_takeD (i := 21) (oi := { dst := some 65, op := Op.binOp BinOp.add 3 (Operand.tmp 64) (Operand.const (Value.int IntKind.i64 1)) 3, type := 3, pos := "ref.go:15", after := #[{ on := 20, ground := Ground.data }, { on := 18, ground := Ground.guard }], guard := some (18, true) }) (d := 65) (v := ?_) rfl rfl (by kernel_rfl) (by kernel_rfl) (by kernel_rfl) (fun _ _ _ h => h) (Or.inl ⟨by rfl, ?_⟩) hHeld ?_
                      rotate_left
                      · (intro w' hSw; (try dsimp only at hSw); go_simp; (try with_reducible rfl))
                      simp only [List.setIfInBounds_toArray, List.set_cons_zero, List.set_cons_succ]
                      refine wpAnyH_takeD (i := 22) (oi := { dst := some 66, op := Op.indexAddr 31 (Operand.tmp 63) (Operand.tmp 65), type := 0, pos := "ref.go:15", after := #[{ on := 19, ground := Ground.data }, { on := 21, ground := Ground.data }, { on := 18, ground := Ground.guard }], guard := some (18, true) }) (d := 66) (v := ?_) rfl rfl (by kernel_rfl) (by kernel_rfl) (by kernel_rfl) (fun _ _ _ h => h) (Or.inl ⟨by rfl, ?_⟩) hHeld ?_
                      rotate_left
                      · (intro w' hSw; (try dsimp only at hSw); go_simp; (try with_reducible rfl))
                      simp only [List.setIfInBounds_toArray, List.set_cons_zero, List.set_cons_succ]
                      refine wpAnyH_takeD (i := 23) (oi := { dst := some 67, op := Op.load 3 (Operand.tmp 66), type := 3, pos := "ref.go:15", after := #[{ on := 22, ground := Ground.data }, { on := 18, ground := Ground.guard }], guard := some (18, true) }) (d := 67) (v := ?_) rfl rfl (by kernel_rfl) (by kernel_rfl) (by kernel_rfl) (fun _ _ _ h => h) (Or.inl ⟨by rfl, ?_⟩) hHeld ?_
                      rotate_left
                      · (intro w' hSw; (try dsimp only at hSw); go_simp; (try with_reducible rfl))
                      simp only [List.setIfInBounds_toArray, List.set_cons_zero, List.set_cons_succ]
                      refine wpAnyH_takeD (i := 24) (oi := { dst := some 68, op := Op.fieldAddr 28 (Operand.tmp 3) 1, type := 0, pos := "ref.go:15", after := #[{ on := 18, ground := Ground.guard }], guard := some (18, true) }) (d := 68) (v := ?_) rfl rfl (by kernel_rfl) (by kernel_rfl) (by kernel_rfl) (fun _ _ _ h => h) (Or.inl ⟨by rfl, ?_⟩) hHeld ?_
                      rotate_left
                      · (intro w' hSw; (try dsimp only at hSw); go_simp; (try with_reducible rfl))
                      simp only [List.setIfInBounds_toArray, List.set_cons_zero, List.set_cons_succ]
                      refine wpAnyH_takeD (i := 25) (oi := { dst := some 69, op := Op.load 26 (Operand.tmp 68), type := 26, pos := "ref.go:15", after := #[{ on := 24, ground := Ground.data }, { on := 18, ground := Ground.guard }], guard := some (18, true) }) (d := 69) (v := ?_) rfl rfl (by kernel_rfl) (by kernel_rfl) (by kernel_rfl) (fun _ _ _ h => h) (Or.inl ⟨by rfl, ?_⟩) hHeld ?_
                      rotate_left
                      · (intro w' hSw; (try dsimp only at hSw); go_simp; (try with_reducible rfl))
                      simp only [List.setIfInBounds_toArray, List.set_cons_zero, List.set_cons_succ]
                      refine wpAnyH_takeD (i := 26) (oi := { dst := some 70, op := Op.move (Operand.tmp 9), type := 3, pos := "ref.go:15", after := #[{ on := 18, ground := Ground.guard }], guard := some (18, true) }) (d := 70) (v := ?_) rfl rfl (by kernel_rfl) (by kernel_rfl) (by kernel_rfl) (fun _ _ _ h => h) (Or.inl ⟨by rfl, ?_⟩) hHeld ?_
                      rotate_left
                      · (intro w' hSw; (try dsimp only at hSw); go_simp; (try with_reducible rfl))
                      simp only [List.setIfInBounds_toArray, List.set_cons_zero, List.set_cons_succ]
                      refine wpAnyH_takeD (i := 27) (oi := { dst := some 71, op := Op.indexAddr 26 (Operand.tmp 69) (Operand.tmp 70), type := 0, pos := "ref.go:15", after := #[{ on := 25, ground := Ground.data }, { on := 26, ground := Ground.data }, { on := 18, ground := Ground.guard }], guard := some (18, true) }) (d := 71) (v := ?_) rfl rfl (by kernel_rfl) (by kernel_rfl) (by kernel_rfl) (fun _ _ _ h => h) (Or.inl ⟨by rfl, ?_⟩) hHeld ?_
                      rotate_left
                      · (intro w' hSw; (try dsimp only at hSw); go_simp; (try with_reducible rfl))
                      simp only [List.setIfInBounds_toArray, List.set_cons_zero, List.set_cons_succ]
                      refine wpAnyH_takeD (i := 28) (oi := { dst := some 72, op := Op.fieldAddr 71 (Operand.tmp 71) 1, type := 0, pos := "ref.go:15", after := #[{ on := 27, ground := Ground.data }, { on := 18, ground := Ground.guard }], guard := some (18, true) }) (d := 72) (v := ?_) rfl rfl (by kernel_rfl) (by kernel_rfl) (by kernel_rfl) (fun _ _ _ h => h) (Or.inl ⟨by rfl, ?_⟩) hHeld ?_
                      rotate_left
                      · (intro w' hSw; (try dsimp only at hSw); go_simp; (try with_reducible rfl))
                      simp only [List.setIfInBounds_toArray, List.set_cons_zero, List.set_cons_succ]
                      refine wpAnyH_takeD (i := 29) (oi := { dst := some 73, op := Op.load 3 (Operand.tmp 72), type := 3, pos := "ref.go:15", after := #[{ on := 28, ground := Ground.data }, { on := 18, ground := Ground.guard }], guard := some (18, true) }) (d := 73) (v := ?_) rfl rfl (by kernel_rfl) (by kernel_rfl) (by kernel_rfl) (fun _ _ _ h => h) (Or.inl ⟨by rfl, ?_⟩) hHeld ?_
                      rotate_left
                      · (intro w' hSw; (try dsimp only at hSw); go_simp; (try with_reducible rfl))
                      simp only [List.setIfInBounds_toArray, List.set_cons_zero, List.set_cons_succ]
                      refine wpAnyH_takeD (i := 30) (oi := { dst := some 74, op := Op.binOp BinOp.eql 3 (Operand.tmp 67) (Operand.tmp 73) 3, type := 4, pos := "ref.go:15", after := #[{ on := 23, ground := Ground.data }, { on := 29, ground := Ground.data }, { on := 18, ground := Ground.guard }], guard := some (18, true) }) (d := 74) (v := ?_) rfl rfl (by kernel_rfl) (by kernel_rfl) (by kernel_rfl) (fun _ _ _ h => h) (Or.inl ⟨by rfl, ?_⟩) hHeld ?_
                      rotate_left
                      · (intro w' hSw; (try dsimp only at hSw); go_simp; (try with_reducible rfl))
                      simp only [List.setIfInBounds_toArray, List.set_cons_zero, List.set_cons_succ]
                      refine wpAnyH_takeD (i := 31) (oi := { dst := some 75, op := Op.pick (Operand.tmp 62) (Operand.tmp 74) (Operand.const (Value.bool false)), type := 4, pos := "ref.go:15", after := #[{ on := 18, ground := Ground.data }, { on := 30, ground := Ground.data }], guard := none }) (d := 75) (v := ?_) rfl rfl (by kernel_rfl) (by kernel_rfl) (by kernel_rfl) (fun _ _ _ h => h) (Or.inl ⟨by rfl, ?_⟩) hHeld ?_
                      rotate_left
                      · (intro w' hSw; (try dsimp only at hSw); go_simp; (try with_reducible rfl))
                      simp only [List.setIfInBounds_toArray, List.set_cons_zero, List.set_cons_succ]
                      refine wpAnyH_done (by kernel_rfl) ?_ _
                      clear hHeld m0 m1 mb l1
                      replace l0 : W2.drew.cell? ⟨b1, o1 + i, none⟩ = some (.int .i64 x) := l0
                      replace HO : Hid (W2.drew.ownsRow W.heap.size 3 1 (.slice A3 O.length c3) O.length (O.map (Value.int .i64))) := Lib.hid (own_drew HO.out)
                      replace HBO := Lib.hid HBO.out.drew
                      generalize W2.drew = W2 at *
                      go_wp2_with (at_builtin; refine app_one W.heap.size 31 3 (.int .i64 0) 1 8 [_] 1 _ _ rfl rfl Try.underlying31 info_int5 rfl (by decide) _ _ _ rfl rfl rfl (by intro u hu; simp at hu; subst hu; rfl) HO.out (by omega) (by omega) HBO.out.size ?_)
                      intro v' w6 hown hg6
                      obtain ⟨A4, c4, rfl⟩ := own_slice hown
                      have hk6 : Below W.heap.size W2 w6 := Keep.below (Keep.of_grown (F := fun g => (Value.slice A3 O.length c3).ownBlock = some g) hg6 (fun g hg => hg)) HBO.out.size (fun x hx => own_base HO.out x hx)
                      have HO6 : Hid (w6.ownsRow W.heap.size 3 1 (.slice A4 (O ++ [x]).length c4) (O ++ [x]).length ((O ++ [x]).map (Value.int .i64))) := Lib.hid (by rw [List.length_append, List.map_append]; exact hown)
                      have HB6 := Lib.hid (HBO.out.trans hk6)
                      have HL6 : Hid ((O ++ [x]).length = O.length + 1) := Lib.hid (by simp)
                      clear hown hg6 hk6
                      go_wp2_with fail
                      go_roundg (gk - 1)
                      case measure => have := HI.out; omega
                      case rel => exact ⟨i + 1, O ++ [x], A4, c4, by have := HI.out; omega, by go_num, by rw [HL6.out], HO6.out, HB6.out, HREP.out, by rw [HL6.out]; omega⟩
                  · have hxa : (x == a) = false := by simpa using hx
                    have HREP := Lib.hid (HX.out.2 (fun e => hx e.1))
                    clear hx
                    go_upto_region 13 with fail
                    refine wp_region_held_drew (S := fun V => V.cell? ⟨w.heap.size, 1, none⟩ = some (.slice (some ⟨ba, o, none⟩) M.length c2) ∧ V.cell? ⟨ba, o + k * 2, none⟩ = some (.int .i64 a) ∧ V.cell? ⟨ba, o + k * 2 + 1, none⟩ = some (.int .i64 b) ∧ V.cell? ⟨b1, o1 + i, none⟩ = some (.int .i64 x) ∧ V.cell? ⟨b1, o1 + (i + 1), none⟩ = some (.int .i64 y)) (by kernel_rfl) (by exact ⟨m1, m0, mb, l0, l1⟩) (fun hHeld => ?_)
                    refine wpAnyH_takeD (i := 0) (oi := { dst := some 44, op := Op.move (Operand.tmp 11), type := 3, pos := "ref.go:15", after := #[], guard := none }) (d := 44) (v := ?_) rfl rfl (by kernel_rfl) (by kernel_rfl) (by kernel_rfl) (fun _ _ _ h => h) (Or.inl ⟨by rfl, ?_⟩) hHeld ?_
                    rotate_left
                    · (intro w' hSw; (try dsimp only at hSw); go_simp; (try with_reducible rfl))
                    simp only [List.setIfInBounds_toArray, List.set_cons_zero, List.set_cons_succ]
                    refine wpAnyH_takeD (i := 1) (oi := { dst := some 45, op := Op.binOp BinOp.add 3 (Operand.tmp 44) (Operand.const (Value.int IntKind.i64 1)) 3, type := 3, pos := "ref.go:15", after := #[{ on := 0, ground := Ground.data }], guard := none }) (d := 45) (v := ?_) rfl rfl (by kernel_rfl) (by kernel_rfl) (by kernel_rfl) (fun _ _ _ h => h) (Or.inl ⟨by rfl, ?_⟩) hHeld ?_
                    rotate_left
                    · (intro w' hSw; (try dsimp only at hSw); go_simp; (try with_reducible rfl))
                    simp only [List.setIfInBounds_toArray, List.set_cons_zero, List.set_cons_succ]
                    refine wpAnyH_takeD (i := 2) (oi := { dst := some 46, op := Op.move (Operand.tmp 7), type := 31, pos := "ref.go:15", after := #[], guard := none }) (d := 46) (v := ?_) rfl rfl (by kernel_rfl) (by kernel_rfl) (by kernel_rfl) (fun _ _ _ h => h) (Or.inl ⟨by rfl, ?_⟩) hHeld ?_
                    rotate_left
                    · (intro w' hSw; (try dsimp only at hSw); go_simp; (try with_reducible rfl))
                    simp only [List.setIfInBounds_toArray, List.set_cons_zero, List.set_cons_succ]
                    refine wpAnyH_takeD (i := 3) (oi := { dst := some 47, op := Op.call { callee := Callee.builtin Builtin.len, args := #[Operand.tmp 46], argTypes := #[31] }, type := 3, pos := "ref.go:15", after := #[{ on := 2, ground := Ground.data }], guard := none }) (d := 47) (v := ?_) rfl rfl (by kernel_rfl) (by kernel_rfl) (by kernel_rfl) (fun _ _ _ h => h) (Or.inl ⟨by rfl, ?_⟩) hHeld ?_
                    rotate_left
                    · (intro w' hSw; (try dsimp only at hSw); go_simp; (try with_reducible rfl))
                    simp only [List.setIfInBounds_toArray, List.set_cons_zero, List.set_cons_succ]
                    refine wpAnyH_takeD (i := 4) (oi := { dst := some 48, op := Op.binOp BinOp.lss 3 (Operand.tmp 45) (Operand.tmp 47) 3, type := 4, pos := "ref.go:15", after := #[{ on := 1, ground := Ground.data }, { on := 3, ground := Ground.data }], guard := none }) (d := 48) (v := ?_) rfl rfl (by kernel_rfl) (by kernel_rfl) (by kernel_rfl) (fun _ _ _ h => h) (Or.inl ⟨by rfl, ?_⟩) hHeld ?_
                    rotate_left
                    · (intro w' hSw; (try dsimp only at hSw); go_simp; (try with_reducible rfl))
                    simp only [List.setIfInBounds_toArray, List.set_cons_zero, List.set_cons_succ]
                    refine wpAnyH_takeD (i := 5) (oi := { dst := some 49, op := Op.move (Operand.tmp 48), type := 4, pos := "ref.go:15", after := #[{ on := 4, ground := Ground.data }], guard := none }) (d := 49) (v := ?_) rfl rfl (by kernel_rfl) (by kernel_rfl) (by kernel_rfl) (fun _ _ _ h => h) (Or.inl ⟨by rfl, ?_⟩) hHeld ?_
                    rotate_left
                    · (intro w' hSw; (try dsimp only at hSw); go_simp; (try with_reducible rfl))
                    simp only [List.setIfInBounds_toArray, List.set_cons_zero, List.set_cons_succ]
                    refine wpAnyH_takeD (i := 6) (oi := { dst := some 50, op := Op.move (Operand.tmp 7), type := 31, pos := "ref.go:15", after := #[{ on := 5, ground := Ground.guard }], guard := some (5, true) }) (d := 50) (v := ?_) rfl rfl (by kernel_rfl) (by kernel_rfl) (by kernel_rfl) (fun _ _ _ h => h) (Or.inl ⟨by rfl, ?_⟩) hHeld ?_
                    rotate_left
                    · (intro w' hSw; (try dsimp only at hSw); go_simp; (try with_reducible rfl))
                    simp only [List.setIfInBounds_toArray, List.set_cons_zero, List.set_cons_succ]
                    refine wpAnyH_takeD (i := 7) (oi := { dst := some 51, op := Op.move (Operand.tmp 11), type := 3, pos := "ref.go:15", after := #[{ on := 5, ground := Ground.guard }], guard := some (5, true) }) (d := 51) (v := ?_) rfl rfl (by kernel_rfl) (by kernel_rfl) (by kernel_rfl) (fun _ _ _ h => h) (Or.inl ⟨by rfl, ?_⟩) hHeld ?_
                    rotate_left
                    · (intro w' hSw; (try dsimp only at hSw); go_simp; (try with_reducible rfl))
                    simp only [List.setIfInBounds_toArray, List.set_cons_zero, List.set_cons_succ]
                    refine wpAnyH_takeD (i := 8) (oi := { dst := some 52, op := Op.indexAddr 31 (Operand.tmp 50) (Operand.tmp 51), type := 0, pos := "ref.go:15", after := #[{ on := 6, ground := Ground.data }, { on := 7, ground := Ground.data }, { on := 5, ground := Ground.guard }], guard := some (5, true) }) (d := 52) (v := ?_) rfl rfl (by kernel_rfl) (by kernel_rfl) (by kernel_rfl) (fun _ _ _ h => h) (Or.inl ⟨by rfl, ?_⟩) hHeld ?_
                    rotate_left
                    · (intro w' hSw; (try dsimp only at hSw); go_simp; (try with_reducible rfl))
                    simp only [List.setIfInBounds_toArray, List.set_cons_zero, List.set_cons_succ]
                    refine wpAnyH_takeD (i := 9) (oi := { dst := some 53, op := Op.load 3 (Operand.tmp 52), type := 3, pos := "ref.go:15", after := #[{ on := 8, ground := Ground.data }, { on := 5, ground := Ground.guard }], guard := some (5, true) }) (d := 53) (v := ?_) rfl rfl (by kernel_rfl) (by kernel_rfl) (by kernel_rfl) (fun _ _ _ h => h) (Or.inl ⟨by rfl, ?_⟩) hHeld ?_
                    rotate_left
                    · (intro w' hSw; (try dsimp only at hSw); go_simp; (try with_reducible rfl))
                    simp only [List.setIfInBounds_toArray, List.set_cons_zero, List.set_cons_succ]
                    refine wpAnyH_takeD (i := 10) (oi := { dst := some 54, op := Op.fieldAddr 28 (Operand.tmp 3) 1, type := 0, pos := "ref.go:15", after := #[{ on := 5, ground := Ground.guard }], guard := some (5, true) }) (d := 54) (v := ?_) rfl rfl (by kernel_rfl) (by kernel_rfl) (by kernel_rfl) (fun _ _ _ h => h) (Or.inl ⟨by rfl, ?_⟩) hHeld ?_
                    rotate_left
                    · (intro w' hSw; (try dsimp only at hSw); go_simp; (try with_reducible rfl))
                    simp only [List.setIfInBounds_toArray, List.set_cons_zero, List.set_cons_succ]
                    refine wpAnyH_takeD (i := 11) (oi := { dst := some 55, op := Op.load 26 (Operand.tmp 54), type := 26, pos := "ref.go:15", after := #[{ on := 10, ground := Ground.data }, { on := 5, ground := Ground.guard }], guard := some (5, true) }) (d := 55) (v := ?_) rfl rfl (by kernel_rfl) (by kernel_rfl) (by kernel_rfl) (fun _ _ _ h => h) (Or.inl ⟨by rfl, ?_⟩) hHeld ?_
                    rotate_left
                    · (intro w' hSw; (try dsimp only at hSw); go_simp; (try with_reducible rfl))
                    simp only [List.setIfInBounds_toArray, List.set_cons_zero, List.set_cons_succ]
                    refine wpAnyH_takeD (i := 12) (oi := { dst := some 56, op := Op.move (Operand.tmp 9), type := 3, pos := "ref.go:15", after := #[{ on := 5, ground := Ground.guard }], guard := some (5, true) }) (d := 56) (v := ?_) rfl rfl (by kernel_rfl) (by kernel_rfl) (by kernel_rfl) (fun _ _ _ h => h) (Or.inl ⟨by rfl, ?_⟩) hHeld ?_
                    rotate_left
                    · (intro w' hSw; (try dsimp only at hSw); go_simp; (try with_reducible rfl))
                    simp only [List.setIfInBounds_toArray, List.set_cons_zero, List.set_cons_succ]
                    refine wpAnyH_takeD (i := 13) (oi := { dst := some 57, op := Op.indexAddr 26 (Operand.tmp 55) (Operand.tmp 56), type := 0, pos := "ref.go:15", after := #[{ on := 11, ground := Ground.data }, { on := 12, ground := Ground.data }, { on := 5, ground := Ground.guard }], guard := some (5, true) }) (d := 57) (v := ?_) rfl rfl (by kernel_rfl) (by kernel_rfl) (by kernel_rfl) (fun _ _ _ h => h) (Or.inl ⟨by rfl, ?_⟩) hHeld ?_
                    rotate_left
                    · (intro w' hSw; (try dsimp only at hSw); go_simp; (try with_reducible rfl))
                    simp only [List.setIfInBounds_toArray, List.set_cons_zero, List.set_cons_succ]
                    refine wpAnyH_takeD (i := 14) (oi := { dst := some 58, op := Op.fieldAddr 71 (Operand.tmp 57) 0, type := 0, pos := "ref.go:15", after := #[{ on := 13, ground := Ground.data }, { on := 5, ground := Ground.guard }], guard := some (5, true) }) (d := 58) (v := ?_) rfl rfl (by kernel_rfl) (by kernel_rfl) (by kernel_rfl) (fun _ _ _ h => h) (Or.inl ⟨by rfl, ?_⟩) hHeld ?_
                    rotate_left
                    · (intro w' hSw; (try dsimp only at hSw); go_simp; (try with_reducible rfl))
                    simp only [List.setIfInBounds_toArray, List.set_cons_zero, List.set_cons_succ]
                    refine wpAnyH_takeD (i := 15) (oi := { dst := some 59, op := Op.load 3 (Operand.tmp 58), type := 3, pos := "ref.go:15", after := #[{ on := 14, ground := Ground.data }, { on := 5, ground := Ground.guard }], guard := some (5, true) }) (d := 59) (v := ?_) rfl rfl (by kernel_rfl) (by kernel_rfl) (by kernel_rfl) (fun _ _ _ h => h) (Or.inl ⟨by rfl, ?_⟩) hHeld ?_
                    rotate_left
                    · (intro w' hSw; (try dsimp only at hSw); go_simp; (try with_reducible rfl))
                    simp only [List.setIfInBounds_toArray, List.set_cons_zero, List.set_cons_succ]
                    refine wpAnyH_takeD (i := 16) (oi := { dst := some 60, op := Op.binOp BinOp.eql 3 (Operand.tmp 53) (Operand.tmp 59) 3, type := 4, pos := "ref.go:15", after := #[{ on := 9, ground := Ground.data }, { on := 15, ground := Ground.data }, { on := 5, ground := Ground.guard }], guard := some (5, true) }) (d := 60) (v := ?_) rfl rfl (by kernel_rfl) (by kernel_rfl) (by kernel_rfl) (fun _ _ _ h => h) (Or.inl ⟨by rfl, ?_⟩) hHeld ?_
                    rotate_left
                    · (intro w' hSw; (try dsimp only at hSw); go_simp; (try with_reducible rfl))
                    simp only [List.setIfInBounds_toArray, List.set_cons_zero, List.set_cons_succ]
                    refine wpAnyH_takeD (i := 17) (oi := { dst := some 61, op := Op.pick (Operand.tmp 49) (Operand.tmp 60) (Operand.const (Value.bool false)), type := 4, pos := "ref.go:15", after := #[{ on := 5, ground := Ground.data }, { on := 16, ground := Ground.data }], guard := none }) (d := 61) (v := ?_) rfl rfl (by kernel_rfl) (by kernel_rfl) (by kernel_rfl) (fun _ _ _ h => h) (Or.inl ⟨by rfl, ?_⟩) hHeld ?_
                    rotate_left
                    · (intro w' hSw; (try dsimp only at hSw); go_simp; (try with_reducible rfl))
                    simp only [List.setIfInBounds_toArray, List.set_cons_zero, List.set_cons_succ]
                    refine wpAnyH_takeD (i := 18) (oi := { dst := some 62, op := Op.move (Operand.tmp 61), type := 4, pos := "ref.go:15", after := #[{ on := 17, ground := Ground.data }, { on := 5, ground := Ground.chain }], guard := none }) (d := 62) (v := ?_) rfl rfl (by kernel_rfl) (by kernel_rfl) (by kernel_rfl) (fun _ _ _ h => h) (Or.inl ⟨by rfl, ?_⟩) hHeld ?_
                    rotate_left
                    · (intro w' hSw; (try dsimp only at hSw); go_simp; (try with_reducible rfl))
                    simp only [List.setIfInBounds_toArray, List.set_cons_zero, List.set_cons_succ]
                    refine wpAnyH_takeD (i := 19) (oi := { dst := some 63, op := Op.move (Operand.tmp 7), type := 31, pos := "ref.go:15", after := #[{ on := 18, ground := Ground.guard }], guard := some (18, true) }) (d := 63) (v := undef) rfl rfl (by kernel_rfl) (by kernel_rfl) (by kernel_rfl) (fun _ _ _ h => h) (Or.inr ⟨by rfl, rfl⟩) hHeld ?_
                    simp only [List.setIfInBounds_toArray, List.set_cons_zero, List.set_cons_succ]
                    refine wpAnyH_takeD (i := 20) (oi := { dst := some 64, op := Op.move (Operand.tmp 11), type := 3, pos := "ref.go:15", after := #[{ on := 18, ground := Ground.guard }], guard := some (18, true) }) (d := 64) (v := undef) rfl rfl (by kernel_rfl) (by kernel_rfl) (by kernel_rfl) (fun _ _ _ h => h) (Or.inr ⟨by rfl, rfl⟩) hHeld ?_
                    simp only [List.setIfInBounds_toArray, List.set_cons_zero, List.set_cons_succ]
                    refine wpAnyH_takeD (i := 21) (oi := { dst := some 65, op := Op.binOp BinOp.add 3 (Operand.tmp 64) (Operand.const (Value.int IntKind.i64 1)) 3, type := 3, pos := "ref.go:15", after := #[{ on := 20, ground := Ground.data }, { on := 18, ground := Ground.guard }], guard := some (18, true) }) (d := 65) (v := undef) rfl rfl (by kernel_rfl) (by kernel_rfl) (by kernel_rfl) (fun _ _ _ h => h) (Or.inr ⟨by rfl, rfl⟩) hHeld ?_
                    simp only [List.setIfInBounds_toArray, List.set_cons_zero, List.set_cons_succ]
                    refine wpAnyH_takeD (i := 22) (oi := { dst := some 66, op := Op.indexAddr 31 (Operand.tmp 63) (Operand.tmp 65), type := 0, pos := "ref.go:15", after := #[{ on := 19, ground := Ground.data }, { on := 21, ground := Ground.data }, { on := 18, ground := Ground.guard }], guard := some (18, true) }) (d := 66) (v := undef) rfl rfl (by kernel_rfl) (by kernel_rfl) (by kernel_rfl) (fun _ _ _ h => h) (Or.inr ⟨by rfl, rfl⟩) hHeld ?_
                    simp only [List.setIfInBounds_toArray, List.set_cons_zero, List.set_cons_succ]
                    refine wpAnyH_takeD (i := 23) (oi := { dst := some 67, op := Op.load 3 (Operand.tmp 66), type := 3, pos := "ref.go:15", after := #[{ on := 22, ground := Ground.data }, { on := 18, ground := Ground.guard }], guard := some (18, true) }) (d := 67) (v := undef) rfl rfl (by kernel_rfl) (by kernel_rfl) (by kernel_rfl) (fun _ _ _ h => h) (Or.inr ⟨by rfl, rfl⟩) hHeld ?_
                    simp only [List.setIfInBounds_toArray, List.set_cons_zero, List.set_cons_succ]
                    refine wpAnyH_takeD (i := 24) (oi := { dst := some 68, op := Op.fieldAddr 28 (Operand.tmp 3) 1, type := 0, pos := "ref.go:15", after := #[{ on := 18, ground := Ground.guard }], guard := some (18, true) }) (d := 68) (v := undef) rfl rfl (by kernel_rfl) (by kernel_rfl) (by kernel_rfl) (fun _ _ _ h => h) (Or.inr ⟨by rfl, rfl⟩) hHeld ?_
                    simp only [List.setIfInBounds_toArray, List.set_cons_zero, List.set_cons_succ]
                    refine wpAnyH_takeD (i := 25) (oi := { dst := some 69, op := Op.load 26 (Operand.tmp 68), type := 26, pos := "ref.go:15", after := #[{ on := 24, ground := Ground.data }, { on := 18, ground := Ground.guard }], guard := some (18, true) }) (d := 69) (v := undef) rfl rfl (by kernel_rfl) (by kernel_rfl) (by kernel_rfl) (fun _ _ _ h => h) (Or.inr ⟨by rfl, rfl⟩) hHeld ?_
                    simp only [List.setIfInBounds_toArray, List.set_cons_zero, List.set_cons_succ]
                    refine wpAnyH_takeD (i := 26) (oi := { dst := some 70, op := Op.move (Operand.tmp 9), type := 3, pos := "ref.go:15", after := #[{ on := 18, ground := Ground.guard }], guard := some (18, true) }) (d := 70) (v := undef) rfl rfl (by kernel_rfl) (by kernel_rfl) (by kernel_rfl) (fun _ _ _ h => h) (Or.inr ⟨by rfl, rfl⟩) hHeld ?_
                    simp only [List.setIfInBounds_toArray, List.set_cons_zero, List.set_cons_succ]
                    refine wpAnyH_takeD (i := 27) (oi := { dst := some 71, op := Op.indexAddr 26 (Operand.tmp 69) (Operand.tmp 70), type := 0, pos := "ref.go:15", after := #[{ on := 25, ground := Ground.data }, { on := 26, ground := Ground.data }, { on := 18, ground := Ground.guard }], guard := some (18, true) }) (d := 71) (v := undef) rfl rfl (by kernel_rfl) (by kernel_rfl) (by kernel_rfl) (fun _ _ _ h => h) (Or.inr ⟨by rfl, rfl⟩) hHeld ?_
                    simp only [List.setIfInBounds_toArray, List.set_cons_zero, List.set_cons_succ]
                    refine wpAnyH_takeD (i := 28) (oi := { dst := some 72, op := Op.fieldAddr 71 (Operand.tmp 71) 1, type := 0, pos := "ref.go:15", after := #[{ on := 27, ground := Ground.data }, { on := 18, ground := Ground.guard }], guard := some (18, true) }) (d := 72) (v := undef) rfl rfl (by kernel_rfl) (by kernel_rfl) (by kernel_rfl) (fun _ _ _ h => h) (Or.inr ⟨by rfl, rfl⟩) hHeld ?_
                    simp only [List.setIfInBounds_toArray, List.set_cons_zero, List.set_cons_succ]
                    refine wpAnyH_takeD (i := 29) (oi := { dst := some 73, op := Op.load 3 (Operand.tmp 72), type := 3, pos := "ref.go:15", after := #[{ on := 28, ground := Ground.data }, { on := 18, ground := Ground.guard }], guard := some (18, true) }) (d := 73) (v := undef) rfl rfl (by kernel_rfl) (by kernel_rfl) (by kernel_rfl) (fun _ _ _ h => h) (Or.inr ⟨by rfl, rfl⟩) hHeld ?_
                    simp only [List.setIfInBounds_toArray, List.set_cons_zero, List.set_cons_succ]
                    refine wpAnyH_takeD (i := 30) (oi := { dst := some 74, op := Op.binOp BinOp.eql 3 (Operand.tmp 67) (Operand.tmp 73) 3, type := 4, pos := "ref.go:15", after := #[{ on := 23, ground := Ground.data }, { on := 29, ground := Ground.data }, { on := 18, ground := Ground.guard }], guard := some (18, true) }) (d := 74) (v := undef) rfl rfl (by kernel_rfl) (by kernel_rfl) (by kernel_rfl) (fun _ _ _ h => h) (Or.inr ⟨by rfl, rfl⟩) hHeld ?_
                    simp only [List.setIfInBounds_toArray, List.set_cons_zero, List.set_cons_succ]
                    refine wpAnyH_takeD (i := 31) (oi := { dst := some 75, op := Op.pick (Operand.tmp 62) (Operand.tmp 74) (Operand.const (Value.bool false)), type := 4, pos := "ref.go:15", after := #[{ on := 18, ground := Ground.data }, { on := 30, ground := Ground.data }], guard := none }) (d := 75) (v := ?_) rfl rfl (by kernel_rfl) (by kernel_rfl) (by kernel_rfl) (fun _ _ _ h => h) (Or.inl ⟨by rfl, ?_⟩) hHeld ?_
                    rotate_left
                    · (intro w' hSw; (try dsimp only at hSw); go_simp; (try with_reducible rfl))
                    simp only [List.setIfInBounds_toArray, List.set_cons_zero, List.set_cons_succ]
                    refine wpAnyH_done (by kernel_rfl) ?_ _
                    clear hHeld m0 m1 mb l1
                    replace l0 : W2.drew.cell? ⟨b1, o1 + i, none⟩ = some (.int .i64 x) := l0
                    replace HO : Hid (W2.drew.ownsRow W.heap.size 3 1 (.slice A3 O.length c3) O.length (O.map (Value.int .i64))) := Lib.hid (own_drew HO.out)
                    replace HBO := Lib.hid HBO.out.drew
                    generalize W2.drew = W2 at *
                    go_wp2_with (at_builtin; refine app_one W.heap.size 31 3 (.int .i64 0) 1 8 [_] 1 _ _ rfl rfl Try.underlying31 info_int5 rfl (by decide) _ _ _ rfl rfl rfl (by intro u hu; simp at hu; subst hu; rfl) HO.out (by omega) (by omega) HBO.out.size ?_)
                    intro v' w6 hown hg6
                    obtain ⟨A4, c4, rfl⟩ := own_slice hown
                    have hk6 : Below W.heap.size W2 w6 := Keep.below (Keep.of_grown (F := fun g => (Value.slice A3 O.length c3).ownBlock = some g) hg6 (fun g hg => hg)) HBO.out.size (fun x hx => own_base HO.out x hx)
                    have HO6 : Hid (w6.ownsRow W.heap.size 3 1 (.slice A4 (O ++ [x]).length c4) (O ++ [x]).length ((O ++ [x]).map (Value.int .i64))) := Lib.hid (by rw [List.length_append, List.map_append]; exact hown)
                    have HB6 := Lib.hid (HBO.out.trans hk6)
                    have HL6 : Hid ((O ++ [x]).length = O.length + 1) := Lib.hid (by simp)
                    clear hown hg6 hk6
                    go_wp2_with fail
                    go_roundg (gk - 1)
                    case measure => have := HI.out; omega
                    case rel => exact ⟨i + 1, O ++ [x], A4, c4, by have := HI.out; omega, by go_num, by rw [HL6.out], HO6.out, HB6.out, HREP.out, by rw [HL6.out]; omega⟩
                · have p2 : ¬ (i : Int) + 1 < (L.length : Int) := by omega
                  have HREP : Hid (O ++ [L[i]] ++ rep a b (256 + (k : Int)) (L.drop (i + 1)) = rep a b (256 + (k : Int)) L) := Lib.hid (by rw [← HREP0.out, rep_one hlt (fun ⟨e, _⟩ => hn e)]; simp)
                  generalize L[i] = x at *
                  go_upto_region 13 with fail
                  refine wp_region_held_drew (S := fun V => V.cell? ⟨w.heap.size, 1, none⟩ = some (.slice (some ⟨ba, o, none⟩) M.length c2) ∧ V.cell? ⟨ba, o + k * 2, none⟩ = some (.int .i64 a) ∧ V.cell? ⟨ba, o + k * 2 + 1, none⟩ = some (.int .i64 b) ∧ V.cell? ⟨b1, o1 + i, none⟩ = some (.int .i64 x)) (by kernel_rfl) (by exact ⟨m1, m0, mb, l0⟩) (fun hHeld => ?_)
                  refine wpAnyH_takeD (i := 0) (oi := { dst := some 44, op := Op.move (Operand.tmp 11), type := 3, pos := "ref.go:15", after := #[], guard := none }) (d := 44) (v := ?_) rfl rfl (by kernel_rfl) (by kernel_rfl) (by kernel_rfl) (fun _ _ _ h => h) (Or.inl ⟨by rfl, ?_⟩) hHeld ?_
                  rotate_left
                  · (intro w' hSw; (try dsimp only at hSw); go_simp; (try with_reducible rfl))
                  simp only [List.setIfInBounds_toArray, List.set_cons_zero, List.set_cons_succ]
                  refine wpAnyH_takeD (i := 1) (oi := { dst := some 45, op := Op.binOp BinOp.add 3 (Operand.tmp 44) (Operand.const (Value.int IntKind.i64 1)) 3, type := 3, pos := "ref.go:15", after := #[{ on := 0, ground := Ground.data }], guard := none }) (d := 45) (v := ?_) rfl rfl (by kernel_rfl) (by kernel_rfl) (by kernel_rfl) (fun _ _ _ h => h) (Or.inl ⟨by rfl, ?_⟩) hHeld ?_
                  rotate_left
                  · (intro w' hSw; (try dsimp only at hSw); go_simp; (try with_reducible rfl))
                  simp only [List.setIfInBounds_toArray, List.set_cons_zero, List.set_cons_succ]
                  refine wpAnyH_takeD (i := 2) (oi := { dst := some 46, op := Op.move (Operand.tmp 7), type := 31, pos := "ref.go:15", after := #[], guard := none }) (d := 46) (v := ?_) rfl rfl (by kernel_rfl) (by kernel_rfl) (by kernel_rfl) (fun _ _ _ h => h) (Or.inl ⟨by rfl, ?_⟩) hHeld ?_
                  rotate_left
                  · (intro w' hSw; (try dsimp only at hSw); go_simp; (try with_reducible rfl))
                  simp only [List.setIfInBounds_toArray, List.set_cons_zero, List.set_cons_succ]
                  refine wpAnyH_takeD (i := 3) (oi := { dst := some 47, op := Op.call { callee := Callee.builtin Builtin.len, args := #[Operand.tmp 46], argTypes := #[31] }, type := 3, pos := "ref.go:15", after := #[{ on := 2, ground := Ground.data }], guard := none }) (d := 47) (v := ?_) rfl rfl (by kernel_rfl) (by kernel_rfl) (by kernel_rfl) (fun _ _ _ h => h) (Or.inl ⟨by rfl, ?_⟩) hHeld ?_
                  rotate_left
                  · (intro w' hSw; (try dsimp only at hSw); go_simp; (try with_reducible rfl))
                  simp only [List.setIfInBounds_toArray, List.set_cons_zero, List.set_cons_succ]
                  refine wpAnyH_takeD (i := 4) (oi := { dst := some 48, op := Op.binOp BinOp.lss 3 (Operand.tmp 45) (Operand.tmp 47) 3, type := 4, pos := "ref.go:15", after := #[{ on := 1, ground := Ground.data }, { on := 3, ground := Ground.data }], guard := none }) (d := 48) (v := ?_) rfl rfl (by kernel_rfl) (by kernel_rfl) (by kernel_rfl) (fun _ _ _ h => h) (Or.inl ⟨by rfl, ?_⟩) hHeld ?_
                  rotate_left
                  · (intro w' hSw; (try dsimp only at hSw); go_simp; (try with_reducible rfl))
                  simp only [List.setIfInBounds_toArray, List.set_cons_zero, List.set_cons_succ]
                  refine wpAnyH_takeD (i := 5) (oi := { dst := some 49, op := Op.move (Operand.tmp 48), type := 4, pos := "ref.go:15", after := #[{ on := 4, ground := Ground.data }], guard := none }) (d := 49) (v := ?_) rfl rfl (by kernel_rfl) (by kernel_rfl) (by kernel_rfl) (fun _ _ _ h => h) (Or.inl ⟨by rfl, ?_⟩) hHeld ?_
                  rotate_left
                  · (intro w' hSw; (try dsimp only at hSw); go_simp; (try with_reducible rfl))
                  simp only [List.setIfInBounds_toArray, List.set_cons_zero, List.set_cons_succ]
                  refine wpAnyH_takeD (i := 6) (oi := { dst := some 50, op := Op.move (Operand.tmp 7), type := 31, pos := "ref.go:15", after := #[{ on := 5, ground := Ground.guard }], guard := some (5, true) }) (d := 50) (v := undef) rfl rfl (by kernel_rfl) (by kernel_rfl) (by kernel_rfl) (fun _ _ _ h => h) (Or.inr ⟨by rfl, rfl⟩) hHeld ?_
                  simp only [List.setIfInBounds_toArray, List.set_cons_zero, List.set_cons_succ]
                  refine wpAnyH_takeD (i := 7) (oi := { dst := some 51, op := Op.move (Operand.tmp 11), type := 3, pos := "ref.go:15", after := #[{ on := 5, ground := Ground.guard }], guard := some (5, true) }) (d := 51) (v := undef) rfl rfl (by kernel_rfl) (by kernel_rfl) (by kernel_rfl) (fun _ _ _ h => h) (Or.inr ⟨by rfl, rfl⟩) hHeld ?_
                  simp only [List.setIfInBounds_toArray, List.set_cons_zero, List.set_cons_succ]
                  refine wpAnyH_takeD (i := 8) (oi := { dst := some 52, op := Op.indexAddr 31 (Operand.tmp 50) (Operand.tmp 51), type := 0, pos := "ref.go:15", after := #[{ on := 6, ground := Ground.data }, { on := 7, ground := Ground.data }, { on := 5, ground := Ground.guard }], guard := some (5, true) }) (d := 52) (v := undef) rfl rfl (by kernel_rfl) (by kernel_rfl) (by kernel_rfl) (fun _ _ _ h => h) (Or.inr ⟨by rfl, rfl⟩) hHeld ?_
                  simp only [List.setIfInBounds_toArray, List.set_cons_zero, List.set_cons_succ]
                  refine wpAnyH_takeD (i := 9) (oi := { dst := some 53, op := Op.load 3 (Operand.tmp 52), type := 3, pos := "ref.go:15", after := #[{ on := 8, ground := Ground.data }, { on := 5, ground := Ground.guard }], guard := some (5, true) }) (d := 53) (v := undef) rfl rfl (by kernel_rfl) (by kernel_rfl) (by kernel_rfl) (fun _ _ _ h => h) (Or.inr ⟨by rfl, rfl⟩) hHeld ?_
                  simp only [List.setIfInBounds_toArray, List.set_cons_zero, List.set_cons_succ]
                  refine wpAnyH_takeD (i := 10) (oi := { dst := some 54, op := Op.fieldAddr 28 (Operand.tmp 3) 1, type := 0, pos := "ref.go:15", after := #[{ on := 5, ground := Ground.guard }], guard := some (5, true) }) (d := 54) (v := undef) rfl rfl (by kernel_rfl) (by kernel_rfl) (by kernel_rfl) (fun _ _ _ h => h) (Or.inr ⟨by rfl, rfl⟩) hHeld ?_
                  simp only [List.setIfInBounds_toArray, List.set_cons_zero, List.set_cons_succ]
                  refine wpAnyH_takeD (i := 11) (oi := { dst := some 55, op := Op.load 26 (Operand.tmp 54), type := 26, pos := "ref.go:15", after := #[{ on := 10, ground := Ground.data }, { on := 5, ground := Ground.guard }], guard := some (5, true) }) (d := 55) (v := undef) rfl rfl (by kernel_rfl) (by kernel_rfl) (by kernel_rfl) (fun _ _ _ h => h) (Or.inr ⟨by rfl, rfl⟩) hHeld ?_
                  simp only [List.setIfInBounds_toArray, List.set_cons_zero, List.set_cons_succ]
                  refine wpAnyH_takeD (i := 12) (oi := { dst := some 56, op := Op.move (Operand.tmp 9), type := 3, pos := "ref.go:15", after := #[{ on := 5, ground := Ground.guard }], guard := some (5, true) }) (d := 56) (v := undef) rfl rfl (by kernel_rfl) (by kernel_rfl) (by kernel_rfl) (fun _ _ _ h => h) (Or.inr ⟨by rfl, rfl⟩) hHeld ?_
                  simp only [List.setIfInBounds_toArray, List.set_cons_zero, List.set_cons_succ]
                  refine wpAnyH_takeD (i := 13) (oi := { dst := some 57, op := Op.indexAddr 26 (Operand.tmp 55) (Operand.tmp 56), type := 0, pos := "ref.go:15", after := #[{ on := 11, ground := Ground.data }, { on := 12, ground := Ground.data }, { on := 5, ground := Ground.guard }], guard := some (5, true) }) (d := 57) (v := undef) rfl rfl (by kernel_rfl) (by kernel_rfl) (by kernel_rfl) (fun _ _ _ h => h) (Or.inr ⟨by rfl, rfl⟩) hHeld ?_
                  simp only [List.setIfInBounds_toArray, List.set_cons_zero, List.set_cons_succ]
                  refine wpAnyH_takeD (i := 14) (oi := { dst := some 58, op := Op.fieldAddr 71 (Operand.tmp 57) 0, type := 0, pos := "ref.go:15", after := #[{ on := 13, ground := Ground.data }, { on := 5, ground := Ground.guard }], guard := some (5, true) }) (d := 58) (v := undef) rfl rfl (by kernel_rfl) (by kernel_rfl) (by kernel_rfl) (fun _ _ _ h => h) (Or.inr ⟨by rfl, rfl⟩) hHeld ?_
                  simp only [List.setIfInBounds_toArray, List.set_cons_zero, List.set_cons_succ]
                  refine wpAnyH_takeD (i := 15) (oi := { dst := some 59, op := Op.load 3 (Operand.tmp 58), type := 3, pos := "ref.go:15", after := #[{ on := 14, ground := Ground.data }, { on := 5, ground := Ground.guard }], guard := some (5, true) }) (d := 59) (v := undef) rfl rfl (by kernel_rfl) (by kernel_rfl) (by kernel_rfl) (fun _ _ _ h => h) (Or.inr ⟨by rfl, rfl⟩) hHeld ?_
                  simp only [List.setIfInBounds_toArray, List.set_cons_zero, List.set_cons_succ]
                  refine wpAnyH_takeD (i := 16) (oi := { dst := some 60, op := Op.binOp BinOp.eql 3 (Operand.tmp 53) (Operand.tmp 59) 3, type := 4, pos := "ref.go:15", after := #[{ on := 9, ground := Ground.data }, { on := 15, ground := Ground.data }, { on := 5, ground := Ground.guard }], guard := some (5, true) }) (d := 60) (v := undef) rfl rfl (by kernel_rfl) (by kernel_rfl) (by kernel_rfl) (fun _ _ _ h => h) (Or.inr ⟨by rfl, rfl⟩) hHeld ?_
                  simp only [List.setIfInBounds_toArray, List.set_cons_zero, List.set_cons_succ]
                  refine wpAnyH_takeD (i := 17) (oi := { dst := some 61, op := Op.pick (Operand.tmp 49) (Operand.tmp 60) (Operand.const (Value.bool false)), type := 4, pos := "ref.go:15", after := #[{ on := 5, ground := Ground.data }, { on := 16, ground := Ground.data }], guard := none }) (d := 61) (v := ?_) rfl rfl (by kernel_rfl) (by kernel_rfl) (by kernel_rfl) (fun _ _ _ h => h) (Or.inl ⟨by rfl, ?_⟩) hHeld ?_
                  rotate_left
                  · (intro w' hSw; (try dsimp only at hSw); go_simp; (try with_reducible rfl))
                  simp only [List.setIfInBounds_toArray, List.set_cons_zero, List.set_cons_succ]
                  refine wpAnyH_takeD (i := 18) (oi := { dst := some 62, op := Op.move (Operand.tmp 61), type := 4, pos := "ref.go:15", after := #[{ on := 17, ground := Ground.data }, { on := 5, ground := Ground.chain }], guard := none }) (d := 62) (v := ?_) rfl rfl (by kernel_rfl) (by kernel_rfl) (by kernel_rfl) (fun _ _ _ h => h) (Or.inl ⟨by rfl, ?_⟩) hHeld ?_
                  rotate_left
                  · (intro w' hSw; (try dsimp only at hSw); go_simp; (try with_reducible rfl))
                  simp only [List.setIfInBounds_toArray, List.set_cons_zero, List.set_cons_succ]
                  refine wpAnyH_takeD (i := 19) (oi := { dst := some 63, op := Op.move (Operand.tmp 7), type := 31, pos := "ref.go:15", after := #[{ on := 18, ground := Ground.guard }], guard := some (18, true) }) (d := 63) (v := undef) rfl rfl (by kernel_rfl) (by kernel_rfl) (by kernel_rfl) (fun _ _ _ h => h) (Or.inr ⟨by rfl, rfl⟩) hHeld ?_
                  simp only [List.setIfInBounds_toArray, List.set_cons_zero, List.set_cons_succ]
                  refine wpAnyH_takeD (i := 20) (oi := { dst := some 64, op := Op.move (Operand.tmp 11), type := 3, pos := "ref.go:15", after := #[{ on := 18, ground := Ground.guard }], guard := some (18, true) }) (d := 64) (v := undef) rfl rfl (by kernel_rfl) (by kernel_rfl) (by kernel_rfl) (fun _ _ _ h => h) (Or.inr ⟨by rfl, rfl⟩) hHeld ?_
                  simp only [List.setIfInBounds_toArray, List.set_cons_zero, List.set_cons_succ]
                  refine wpAnyH_takeD (i := 21) (oi := { dst := some 65, op := Op.binOp BinOp.add 3 (Operand.tmp 64) (Operand.const (Value.int IntKind.i64 1)) 3, type := 3, pos := "ref.go:15", after := #[{ on := 20, ground := Ground.data }, { on := 18, ground := Ground.guard }], guard := some (18, true) }) (d := 65) (v := undef) rfl rfl (by kernel_rfl) (by kernel_rfl) (by kernel_rfl) (fun _ _ _ h => h) (Or.inr ⟨by rfl, rfl⟩) hHeld ?_
                  simp only [List.setIfInBounds_toArray, List.set_cons_zero, List.set_cons_succ]
                  refine wpAnyH_takeD (i := 22) (oi := { dst := some 66, op := Op.indexAddr 31 (Operand.tmp 63) (Operand.tmp 65), type := 0, pos := "ref.go:15", after := #[{ on := 19, ground := Ground.data }, { on := 21, ground := Ground.data }, { on := 18, ground := Ground.guard }], guard := some (18, true) }) (d := 66) (v := undef) rfl rfl (by kernel_rfl) (by kernel_rfl) (by kernel_rfl) (fun _ _ _ h => h) (Or.inr ⟨by rfl, rfl⟩) hHeld ?_
                  simp only [List.setIfInBounds_toArray, List.set_cons_zero, List.set_cons_succ]
                  refine wpAnyH_takeD (i := 23) (oi := { dst := some 67, op := Op.load 3 (Operand.tmp 66), type := 3, pos := "ref.go:15", after := #[{ on := 22, ground := Ground.data }, { on := 18, ground := Ground.guard }], guard := some (18, true) }) (d := 67) (v := undef) rfl rfl (by kernel_rfl) (by kernel_rfl) (by kernel_rfl) (fun _ _ _ h => h) (Or.inr ⟨by rfl, rfl⟩) hHeld ?_
                  simp only [List.setIfInBounds_toArray, List.set_cons_zero, List.set_cons_succ]
                  refine wpAnyH_takeD (i := 24) (oi := { dst := some 68, op := Op.fieldAddr 28 (Operand.tmp 3) 1, type := 0, pos := "ref.go:15", after := #[{ on := 18, ground := Ground.guard }], guard := some (18, true) }) (d := 68) (v := undef) rfl rfl (by kernel_rfl) (by kernel_rfl) (by kernel_rfl) (fun _ _ _ h => h) (Or.inr ⟨by rfl, rfl⟩) hHeld ?_
                  simp only [List.setIfInBounds_toArray, List.set_cons_zero, List.set_cons_succ]
                  refine wpAnyH_takeD (i := 25) (oi := { dst := some 69, op := Op.load 26 (Operand.tmp 68), type := 26, pos := "ref.go:15", after := #[{ on := 24, ground := Ground.data }, { on := 18, ground := Ground.guard }], guard := some (18, true) }) (d := 69) (v := undef) rfl rfl (by kernel_rfl) (by kernel_rfl) (by kernel_rfl) (fun _ _ _ h => h) (Or.inr ⟨by rfl, rfl⟩) hHeld ?_
                  simp only [List.setIfInBounds_toArray, List.set_cons_zero, List.set_cons_succ]
                  refine wpAnyH_takeD (i := 26) (oi := { dst := some 70, op := Op.move (Operand.tmp 9), type := 3, pos := "ref.go:15", after := #[{ on := 18, ground := Ground.guard }], guard := some (18, true) }) (d := 70) (v := undef) rfl rfl (by kernel_rfl) (by kernel_rfl) (by kernel_rfl) (fun _ _ _ h => h) (Or.inr ⟨by rfl, rfl⟩) hHeld ?_
                  simp only [List.setIfInBounds_toArray, List.set_cons_zero, List.set_cons_succ]
                  refine wpAnyH_takeD (i := 27) (oi := { dst := some 71, op := Op.indexAddr 26 (Operand.tmp 69) (Operand.tmp 70), type := 0, pos := "ref.go:15", after := #[{ on := 25, ground := Ground.data }, { on := 26, ground := Ground.data }, { on := 18, ground := Ground.guard }], guard := some (18, true) }) (d := 71) (v := undef) rfl rfl (by kernel_rfl) (by kernel_rfl) (by kernel_rfl) (fun _ _ _ h => h) (Or.inr ⟨by rfl, rfl⟩) hHeld ?_
                  simp only [List.setIfInBounds_toArray, List.set_cons_zero, List.set_cons_succ]
                  refine wpAnyH_takeD (i := 28) (oi := { dst := some 72, op := Op.fieldAddr 71 (Operand.tmp 71) 1, type := 0, pos := "ref.go:15", after := #[{ on := 27, ground := Ground.data }, { on := 18, ground := Ground.guard }], guard := some (18, true) }) (d := 72) (v := undef) rfl rfl (by kernel_rfl) (by kernel_rfl) (by kernel_rfl) (fun _ _ _ h => h) (Or.inr ⟨by rfl, rfl⟩) hHeld ?_
                  simp only [List.setIfInBounds_toArray, List.set_cons_zero, List.set_cons_succ]
                  refine wpAnyH_takeD (i := 29) (oi := { dst := some 73, op := Op.load 3 (Operand.tmp 72), type := 3, pos := "ref.go:15", after := #[{ on := 28, ground := Ground.data }, { on := 18, ground := Ground.guard }], guard := some (18, true) }) (d := 73) (v := undef) rfl rfl (by kernel_rfl) (by kernel_rfl) (by kernel_rfl) (fun _ _ _ h => h) (Or.inr ⟨by rfl, rfl⟩) hHeld ?_
                  simp only [List.setIfInBounds_toArray, List.set_cons_zero, List.set_cons_succ]
                  refine wpAnyH_takeD (i := 30) (oi := { dst := some 74, op := Op.binOp BinOp.eql 3 (Operand.tmp 67) (Operand.tmp 73) 3, type := 4, pos := "ref.go:15", after := #[{ on := 23, ground := Ground.data }, { on := 29, ground := Ground.data }, { on := 18, ground := Ground.guard }], guard := some (18, true) }) (d := 74) (v := undef) rfl rfl (by kernel_rfl) (by kernel_rfl) (by kernel_rfl) (fun _ _ _ h => h) (Or.inr ⟨by rfl, rfl⟩) hHeld ?_
                  simp only [List.setIfInBounds_toArray, List.set_cons_zero, List.set_cons_succ]
                  refine wpAnyH_takeD (i := 31) (oi := { dst := some 75, op := Op.pick (Operand.tmp 62) (Operand.tmp 74) (Operand.const (Value.bool false)), type := 4, pos := "ref.go:15", after := #[{ on := 18, ground := Ground.data }, { on := 30, ground := Ground.data }], guard := none }) (d := 75) (v := ?_) rfl rfl (by kernel_rfl) (by kernel_rfl) (by kernel_rfl) (fun _ _ _ h => h) (Or.inl ⟨by rfl, ?_⟩) hHeld ?_
                  rotate_left
                  · (intro w' hSw; (try dsimp only at hSw); go_simp; (try with_reducible rfl))
                  simp only [List.setIfInBounds_toArray, List.set_cons_zero, List.set_cons_succ]
                  refine wpAnyH_done (by kernel_rfl) ?_ _
                  clear hHeld m0 m1 mb
                  replace l0 : W2.drew.cell? ⟨b1, o1 + i, none⟩ = some (.int .i64 x) := l0
                  replace HO : Hid (W2.drew.ownsRow W.heap.size 3 1 (.slice A3 O.length c3) O.length (O.map (Value.int .i64))) := Lib.hid (own_drew HO.out)
                  replace HBO := Lib.hid HBO.out.drew
                  generalize W2.drew = W2 at *
                  go_wp2_with (at_builtin; refine app_one W.heap.size 31 3 (.int .i64 0) 1 8 [_] 1 _ _ rfl rfl Try.underlying31 info_int5 rfl (by decide) _ _ _ rfl rfl rfl (by intro u hu; simp at hu; subst hu; rfl) HO.out (by omega) (by omega) HBO.out.size ?_)
                  intro v' w6 hown hg6
                  obtain ⟨A4, c4, rfl⟩ := own_slice hown
                  have hk6 : Below W.heap.size W2 w6 := Keep.below (Keep.of_grown (F := fun g => (Value.slice A3 O.length c3).ownBlock = some g) hg6 (fun g hg => hg)) HBO.out.size (fun x hx => own_base HO.out x hx)
                  have HO6 : Hid (w6.ownsRow W.heap.size 3 1 (.slice A4 (O ++ [x]).length c4) (O ++ [x]).length ((O ++ [x]).map (Value.int .i64))) := Lib.hid (by rw [List.length_append, List.map_append]; exact hown)
                  have HB6 := Lib.hid (HBO.out.trans hk6)
                  have HL6 : Hid ((O ++ [x]).length = O.length + 1) := Lib.hid (by simp)
                  clear hown hg6 hk6
                  go_wp2_with fail
                  go_roundg (gk - 1)
                  case measure => have := HI.out; omega
                  case rel => exact ⟨i + 1, O ++ [x], A4, c4, by have := HI.out; omega, by go_num, by rw [HL6.out], HO6.out, HB6.out, HREP.out, by rw [HL6.out]; omega⟩
              · have hie : i = L.length := by omega
                subst hie
                have HNL : Hid (O = rep a b (256 + (k : Int)) L) := Lib.hid (by have := HREP0.out; rw [List.drop_length] at this; simpa [rep] using this)
                have HNEW : Hid (REn W0 W2 (.slice A3 O.length c3) O) := Lib.hid ⟨⟨A3, c3, rfl, own_less HO.out HREN.out.bl.size⟩, HREN.out.bl.trans (HBO.out.mono HREN.out.bl.size)⟩
                have HSQ2 : Hid (seqE (MB.drop (k + 1)) (256 + ((k + 1 : Nat) : Int)) O = E0) := Lib.hid (by rw [HNL.out, ← HNX.out]; exact HSQ.out)
                clear hi
                go_wp2_with fail
                go_roundg (M.length - (k + 1))
                case measure => have := HK.out; omega
                case rel => exact ⟨k + 1, O, A3, c3, by have := HK.out; omega, by go_num, rfl, HNEW.out, HSQ2.out, Nat.le_trans hol HLS.out⟩
          · have HFIN : Hid (L = E0) := Lib.hid (by rw [← HSQ.out]; exact (HALL.out k L (.inr (by omega))).symm)
            go_wp2_with fail
            go_ret
            exact ⟨⟨_, rfl, by rw [HEE.out, ← HFIN.out]; exact ints_less HREN.out.row (Nat.le_of_lt HG0.out)⟩, HB.out.trans (HREN.out.bl.mono (Nat.le_of_lt HG0.out))⟩
        · have q1 : ¬ (k : Int) < (M.length : Int) := by omega
          have HFIN : Hid (L = E0) := Lib.hid (by rw [← HSQ.out]; exact (HALL.out k L (.inl (by omega))).symm)
          go_wp2_with fail
          go_ret
          exact ⟨⟨_, rfl, by rw [HEE.out, ← HFIN.out]; exact ints_less HREN.out.row (Nat.le_of_lt HG0.out)⟩, HB.out.trans (HREN.out.bl.mono (Nat.le_of_lt HG0.out))⟩
end
end Go.Proofs.Ytpkmcokkapfnmaa
