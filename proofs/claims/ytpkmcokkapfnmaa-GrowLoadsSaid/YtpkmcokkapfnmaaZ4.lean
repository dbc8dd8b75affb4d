/- Texts of several layers, one behind the other: ChainE, ChainF, ChainG, ChainH, ChainI, GrowA, GrowB, GrowC, GrowD, GrowE, GrowF, Open. -/
import Derived.Test.YtpkmcokkapfnmaaZ3
import Derived.Lib.AppendStr
import Derived.Laws.IdiomStrings
import Derived.Deep.Slices
import Derived.Deep.Fields
import Derived.ChangeSame
import Derived.SliceStrings
import Derived.OpenShut
/- Layer 5 (chain): the document's answer: Encode, All. -/
namespace Go.Proofs.Ytpkmcokkapfnmaa
open Go.RowKit Go.Maps Go.WideMaps
set_option maxRecDepth 100000
set_option linter.unusedVariables false
set_option linter.unusedSimpArgs false

theorem rep_two {a b c : Int} {L : List Int} {i : Nat} (h : i + 1 < L.length) (h1 : L[i] = a) (h2 : L[i + 1] = b) : rep a b c (L.drop i) = c :: rep a b c (L.drop (i + 2)) := by
  rw [List.drop_eq_getElem_cons (by omega), List.drop_eq_getElem_cons (i := i + 1) h, rep, if_pos ⟨h1, h2⟩]
theorem rep_one {a b c : Int} {L : List Int} {i : Nat} (h : i < L.length) (hn : ¬ ∃ h2 : i + 1 < L.length, L[i] = a ∧ L[i + 1] = b) : rep a b c (L.drop i) = L[i] :: rep a b c (L.drop (i + 1)) := by
  rw [List.drop_eq_getElem_cons h]
  by_cases h2 : i + 1 < L.length
  · rw [List.drop_eq_getElem_cons (i := i + 1) h2, rep, if_neg (fun e => hn ⟨h2, e⟩)]
  · have : L.drop (i + 1) = [] := List.drop_eq_nil_of_le (by omega)
    rw [this]; rfl
theorem bysI_take {l : List UInt8} {k : Nat} (h : k < l.length) : (bysI l).take (k + 1) = (bysI l).take k ++ [byI l k] := by
  have h' : k < (bysI l).length := by simpa [bysI] using h
  rw [take_snoc h']
  congr 2
  simp [bysI, byI, h]
theorem mrgsB_drop {T : List Ent} {bel : Int} {k : Nat} {a b : Int} {L : List Int} (h1 : k < (mrgsT T).length) (h2 : 256 + (k : Int) < bel) (hm : (mrgsT T)[k] = (a, b)) :
    seqE ((mrgsB T bel).drop k) (256 + k) L = seqE ((mrgsB T bel).drop (k + 1)) (256 + ((k + 1 : Nat) : Int)) (rep a b (256 + k) L) := by
  have h3 : k < (mrgsB T bel).length := by unfold mrgsB; rw [List.length_take]; omega
  rw [List.drop_eq_getElem_cons h3]
  have h4 : (mrgsB T bel)[k] = (a, b) := by
    have : (mrgsB T bel)[k]? = some (a, b) := by unfold mrgsB; rw [List.getElem?_take, if_pos (by omega), List.getElem?_eq_getElem h1, hm]
    rw [List.getElem?_eq_getElem h3] at this
    exact Option.some.inj this
  rw [h4, seqE]
  have e : 256 + (k : Int) + 1 = 256 + ((k + 1 : Nat) : Int) := by omega
  rw [e]
theorem mrgsB_all {T : List Ent} {bel : Int} {k : Nat} {L : List Int} (h : (mrgsT T).length ≤ k ∨ bel ≤ 256 + (k : Int)) : seqE ((mrgsB T bel).drop k) (256 + k) L = L := by
  rw [List.drop_eq_nil_of_le (by unfold mrgsB; rw [List.length_take]; omega)]
  rfl

structure REn (W0 W : World) (v : Value) (L : List Int) : Prop where
  row : IntsIs W W0.heap.size v L
  bl : Below W0.heap.size W0 W
section
variable {w w' : World} {base : Nat} {T : List Ent} {vb vm : Value}
set_option maxHeartbeats 8000000 in
theorem renc_any (h : RefIs w base T vb vm) (hT : OkT T) (s : ByteArray) (hs : s.size ≤ 100000000) (bel : Int) :
    Calls Try.prog 17 #[.agg #[vb, vm], .string s, .int .i64 bel] w fun e w' => (∃ v, e = .returned v ∧ IntsIs w' w.heap.size v (encT T bel s.data.toList)) ∧ Below w.heap.size w w' := by
  obtain ⟨A, c, rfl⟩ := own_slice h.row
  obtain ⟨A2, c2, hvm⟩ := own_slice h.mrg
  subst hvm
  have hb0 := (Below.refl w.heap.size w).alloc (Nat.le_refl _) (.cells #[.slice A T.length c, .slice A2 (mrgsT T).length c2] 28)
  have n0 := blk_cell (blk_new w (.cells #[.slice A T.length c, .slice A2 (mrgsT T).length c2] 28)) 1
  simp only [List.getElem?_toArray, List.getElem?_cons_zero, List.getElem?_cons_succ] at n0
  have HSL := Lib.hid ((own_sl (enc := encM) (fun _ => rfl) h.mrg (by decide)).below hb0 (Nat.le_refl _))
  have HB := Lib.hid hb0
  have hsm := hT.small
  have hml : (mrgsT T).length ≤ 1000 := by rw [mrgs_len]; omega
  have HN0 := Lib.hid n0
  have HDL := Lib.hid (dataLen s)
  have HSEQ : Hid (∀ k L a b (h1 : k < (mrgsT T).length), 256 + (k : Int) < bel → (mrgsT T)[k] = (a, b) → seqE ((mrgsB T bel).drop k) (256 + k) L = seqE ((mrgsB T bel).drop (k + 1)) (256 + ((k + 1 : Nat) : Int)) (rep a b (256 + k) L)) := Lib.hid (fun k L a b h1 h2 h3 => mrgsB_drop h1 h2 h3)
  have HALL : Hid (∀ (k : Nat) L, ((mrgsT T).length ≤ k ∨ bel ≤ 256 + (k : Int)) → seqE ((mrgsB T bel).drop k) (256 + k) L = L) := Lib.hid (fun k L h => mrgsB_all h)
  have HE0 : Hid (encT T bel s.data.toList = seqE ((mrgsB T bel).drop 0) (256 + ((0 : Nat) : Int)) (bysI s.data.toList)) := Lib.hid (by rw [List.drop_zero]; rfl)
  clear hb0 h n0 hT
  go_enter Try.func17, Try.ntmps17
  go_wp2_with fail
  generalize hW : w.alloc (.cells #[.slice A T.length c, .slice A2 (mrgsT T).length c2] 28) = W0 at *
  clear hW
  obtain ⟨E0, hE⟩ : ∃ E, encT T bel s.data.toList = E := ⟨_, rfl⟩
  have HEE := Lib.hid hE
  rw [hE] at HE0
  clear hE
  generalize mrgsB T bel = MB at *
  generalize mrgsT T = M at *
  have HG0 := Lib.hid (show w.heap.size < W0.heap.size from World.block_lt_of_cell? W0 ⟨w.heap.size, 1, none⟩ HN0.out)
  have HS : Hid (W0.ownsRow W0.heap.size 3 1 (.slice none 0 0) 0 ([] : List Value)) := Lib.hid (own_nil _ _ _ _)
  go_loopg [7, 8] s.size (fun n u i W => ∃ k A c, k + n = s.size ∧ i = .int .i64 ((k : Nat) : Int) ∧ u = .slice A k c ∧ W.ownsRow W0.heap.size 3 1 (.slice A k c) k (((bysI s.data.toList).take k).map (Value.int .i64)) ∧ Below W0.heap.size W0 W)
  case atStart => exact ⟨0, none, 0, by omega, rfl, rfl, by simpa using HS.out, Below.refl _ _⟩
  case round =>
    obtain ⟨k, A1, c1, hk, rfl, rfl, hrow, hbl⟩ := hrel
    rename World => W
    have HK := Lib.hid hk
    have HROW := Lib.hid hrow
    have HBL := Lib.hid hbl
    clear hrow hbl
    by_cases hlt : k < s.size
    · have p0 : (0 : Int) ≤ (k : Int) := by omega
      have p1 : (k : Int) < (s.size : Int) := by omega
      have w2 : IntKind.i64.wrap ((k : Int) + 1) = (k : Int) + 1 := IntWalk.i64_in _ (by omega)
      have h8 : IntKind.i64.wrap ((s[k]'hlt).toNat : Int) = ((s[k]'hlt).toNat : Int) := by have := (s[k]'hlt).toNat_lt; exact IntWalk.i64_in _ (by omega)
      have HBY := Lib.hid (byI_at s k hlt)
      have HTK := Lib.hid (bysI_take (l := s.data.toList) (k := k) (by rw [dataLen]; exact hlt))
      clear hk
      go_wp2_with (at_builtin; refine app_one W0.heap.size 31 3 (.int .i64 0) 1 8 [_] 1 _ _ rfl rfl Try.underlying31 info_int5 rfl (by decide) _ _ _ rfl rfl rfl (by intro u hu; simp at hu; subst hu; rfl) HROW.out (by omega) (by omega) HBL.out.size ?_)
      intro v' w6 hown hg6
      obtain ⟨A3, c3, rfl⟩ := own_slice hown
      have hk6 : Below W0.heap.size W w6 := Keep.below (Keep.of_grown (F := fun g => (Value.slice A1 k c1).ownBlock = some g) hg6 (fun g hg => hg)) HBL.out.size (fun x hx => own_base HROW.out x hx)
      have HR6 : Hid (w6.ownsRow W0.heap.size 3 1 (.slice A3 (k + 1) c3) (k + 1) (((bysI s.data.toList).take (k + 1)).map (Value.int .i64))) := Lib.hid (by rw [HTK.out, List.map_append, HBY.out]; first | exact hown | (rw [List.map_take]; exact hown))
      have HB6 := Lib.hid (HBL.out.trans hk6)
      clear hown hg6 hk6
      go_wp2_with fail
      go_roundg (gk - 1)
      case measure => have := HK.out; omega
      case rel => exact ⟨k + 1, A3, c3, by have := HK.out; omega, rfl, rfl, HR6.out, HB6.out⟩
    · have hke : k = s.size := by omega
      subst hke
      have HREN : Hid (REn W0 W (.slice A1 s.size c1) (bysI s.data.toList)) := Lib.hid (by
        have e1 : (bysI s.data.toList).length = s.size := by unfold bysI; rw [List.length_map]; exact HDL.out
        refine ⟨⟨A1, c1, by rw [e1], ?_⟩, HBL.out⟩
        have := HROW.out
        rw [List.take_of_length_le (by rw [e1]; exact Nat.le_refl _)] at this
        rw [e1]
        exact this)
      have HZ : Hid (s.size ≤ 100000000) := Lib.hid hs
      clear HROW HBL hk HK HS
      go_wp2_with fail
      go_loopg [7, 9] M.length (fun n u i W => ∃ k L A c, k + n = M.length ∧ i = .int .i64 ((k : Nat) : Int) ∧ u = .slice A (L : List Int).length c ∧ REn W0 W (.slice A L.length c) L ∧ seqE (MB.drop k) (256 + (k : Int)) L = E0 ∧ L.length ≤ s.size)
      case atStart =>
        obtain ⟨⟨A', c', e, hr⟩, hb⟩ := HREN.out
        injection e with e1 e2 e3
        subst e1; subst e3
        refine ⟨0, bysI s.data.toList, A1, c1, by omega, rfl, by rw [e2], ⟨⟨A1, c1, rfl, hr⟩, hb⟩, HE0.out.symm, by rw [e2]; exact Nat.le_refl _⟩
      case round =>
        obtain ⟨k, L, A1, c1, hk, rfl, rfl, hren, hseq, hll⟩ := hrel
        clear HREN
        rename World => W
        have HREN := Lib.hid hren
        have HK := Lib.hid hk
        have HSQ := Lib.hid hseq
        have HLL := Lib.hid (Nat.le_trans hll HZ.out)
        have HLS := Lib.hid hll
        have m1 := below_cell hren.bl (Nat.le_refl _) HN0.out
        clear hren hseq hll
        have w1 : IntKind.i64.wrap (256 + (k : Int)) = 256 + (k : Int) := IntWalk.i64_in _ (by omega)
        by_cases h1 : k < M.length
        · have q1 : (k : Int) < (M.length : Int) := by omega
          by_cases h2 : 256 + (k : Int) < bel
          · obtain ⟨⟨a, b⟩, hab⟩ : ∃ m, M[k] = m := ⟨_, rfl⟩
            have HNX := Lib.hid (HSEQ.out k L a b h1 h2 hab)
            have hab2 := List.getElem?_eq_getElem h1
            rw [hab] at hab2
            obtain ⟨ba, o, hA2, hcc⟩ := HSL.out k (a, b) hab2
            subst hA2
            have HMA : Hid (W.cell? ⟨ba, o + k * 2, none⟩ = some (.int .i64 a)) := Lib.hid (below_cell HREN.out.bl (Nat.le_refl _) (hcc 0 _ rfl))
            have HMB : Hid (W.cell? ⟨ba, o + k * 2 + 1, none⟩ = some (.int .i64 b)) := Lib.hid (below_cell HREN.out.bl (Nat.le_refl _) (hcc 1 _ rfl))
            clear hcc hab hab2 hk
            go_wp2_with fail
            have HM1 := Lib.hid m1
            clear m1
            go_loopg [10, 11] L.length (fun n u j W2 => ∃ i O A3 c3, i + n = L.length ∧ j = .int .i64 ((i : Nat) : Int) ∧ u = .slice A3 (O : List Int).length c3 ∧ W2.ownsRow W.heap.size 3 1 (.slice A3 O.length c3) O.length (O.map (Value.int .i64)) ∧ Below W.heap.size W W2 ∧ O ++ rep a b (256 + (k : Int)) (L.drop i) = rep a b (256 + (k : Int)) L ∧ O.length ≤ i)
            case atStart => exact ⟨0, [], none, 0, by omega, rfl, rfl, own_nil _ _ _ _, Below.refl _ _, rfl, Nat.le_refl _⟩
            case round =>
              obtain ⟨i, O, A3, c3, hi, rfl, rfl, hO, hbO, hrep, hol⟩ := hrel
              rename World => W2
              have HO := Lib.hid hO
              have HBO := Lib.hid hbO
              have HREP0 := Lib.hid hrep
              have HI := Lib.hid hi
              have hll := HLL.out
              clear hO hbO hrep
              have w2 : IntKind.i64.wrap ((i : Int) + 1) = (i : Int) + 1 := IntWalk.i64_in _ (by omega)
              have w3 : IntKind.i64.wrap ((i : Int) + 1 + 1) = (i : Int) + 1 + 1 := IntWalk.i64_in _ (by omega)
              by_cases hlt : i < L.length
              · have p0 : (0 : Int) ≤ (i : Int) := by omega
                have p1 : (i : Int) < (L.length : Int) := by omega
                have q0 : (0 : Int) ≤ (k : Int) := by omega
                obtain ⟨⟨A', c', e, hr⟩, _⟩ := HREN.out
                injection e with e1 e2 e3
                subst e1; subst e3
                have hsl := (own_sl1 hr).below HBO.out (Nat.le_refl _)
                have HSLL := Lib.hid hsl
                obtain ⟨b1, o1, hA1, l0⟩ := hsl.at i hlt
                subst hA1
                have m0 := below_cell HBO.out (Nat.le_refl _) HMA.out
                have m1 := below_cell HBO.out (Nat.le_refl _) HM1.out
                have mb := below_cell HBO.out (Nat.le_refl _) HMB.out
                clear hr hsl hi
                by_cases hn : i + 1 < L.length
                · have p2 : (i : Int) + 1 < (L.length : Int) := by omega
                  have p3 : (0 : Int) ≤ (i : Int) + 1 := by omega
                  have p4 : ((i : Int) + 1).toNat = i + 1 := by omega
                  obtain ⟨b1', o1', e, l1⟩ := HSLL.out.at (i + 1) hn
                  injection e with e
                  injection e with e1 e2
                  subst e1; subst e2
                  have HX : Hid (∀ x y, L[i] = x → L[i + 1] = y → (x = a → y = b → O ++ [256 + (k : Int)] ++ rep a b (256 + (k : Int)) (L.drop (i + 2)) = rep a b (256 + (k : Int)) L) ∧ (¬ (x = a ∧ y = b) → O ++ [x] ++ rep a b (256 + (k : Int)) (L.drop (i + 1)) = rep a b (256 + (k : Int)) L)) := Lib.hid (fun x y hx hy => ⟨fun e1 e2 => by rw [← HREP0.out, rep_two hn (hx.trans e1) (hy.trans e2)]; simp, fun e1 => by rw [← HREP0.out, rep_one hlt (fun ⟨_, e2, e3⟩ => e1 ⟨hx.symm.trans e2, hy.symm.trans e3⟩), hx]; simp⟩)
                  replace HX := Lib.hid (HX.out L[i] L[i + 1] rfl rfl)
                  generalize L[i] = x at *
                  generalize L[i + 1] = y at *
                  by_cases hx : x = a
                  · subst hx
                    by_cases hy : y = b
                    · subst hy
                      have HREP := Lib.hid (HX.out.1 rfl rfl)
                      go_upto_region 13 with fail
                      refine wp_region_held_drew (S := fun V => V.cell? ⟨w.heap.size, 1, none⟩ = some (.slice (some ⟨ba, o, none⟩) M.length c2) ∧ V.cell? ⟨ba, o + k * 2, none⟩ = some (.int .i64 x) ∧ V.cell? ⟨ba, o + k * 2 + 1, none⟩ = some (.int .i64 y) ∧ V.cell? ⟨b1, o1 + i, none⟩ = some (.int .i64 x) ∧ V.cell? ⟨b1, o1 + (i + 1), none⟩ = some (.int .i64 y)) (by kernel_rfl) (by exact ⟨m1, m0, mb, l0, l1⟩) (fun hHeld => ?_)
                      refine wpAnyH_takeD (i := 0) (oi := { dst := some 44, op := Op.move (Operand.tmp 11), type := 3, pos := "ref.go:15", after := #[], guard := none }) (d := 44) (v := ?_) rfl rfl (by kernel_rfl) (by kernel_rfl) (by kernel_rfl) (fun _ _ _ h => h) (Or.inl ⟨by rfl, ?_⟩) hHeld ?_
                      rotate_left
                      · (intro w' hSw; (try dsimp only at hSw); go_simp; (try with_reducible rfl))
                      simp only [List.setIfInBounds_toArray, List.set_cons_zero, List.set_cons_succ]
                      refine wpAnyH_takeD (i := 1) (oi := { dst := some 45, op := Op.binOp BinOp.add 3 (Operand.tmp 44) (Operand.const (Value.int IntKind.i64 1)) 3, type := 3, pos := "ref.go:15", after := #[{ on := 0, ground := Ground.data }], guard := none }) (d := 45) (v := ?_) rfl rfl (by kernel_rfl) (by kernel_rfl) (by kernel_rfl) (fun _ _ _ h => h) (Or.inl ⟨by rfl, ?_⟩) hHeld ?_
                      rotate_left
                      · (intro w' hSw; (try dsimp only at hSw); go_simp; (try with_reducible rfl))
                      simp only [List.setIfInBounds_toArray, List.set_cons_zero, List.set_cons_succ]
                      refine wpAnyH_takeD (i := 2) (oi := { dst := some 46, op := Op.move (Operand.tmp 7), type := 31, pos := "ref.go:15", after := #[], guard := none }) (d := 46) (v := ?_) rfl rfl (by kernel_rfl) (by kernel_rfl) (by kernel_rfl) (fun _ _ _ h => h) (Or.inl ⟨by rfl, ?_⟩) hHeld ?_
                      rotate_left
                      · (intro w' hSw; (try dsimp only at hSw); go_simp; (try with_reducible rfl))
                      simp only [List.setIfInBounds_toArray, List.set_cons_zero, List.set_cons_succ]
                      refine wpAnyH_takeD (i := 3) (oi := { dst := some 47, op := Op.call { callee := Callee.builtin Builtin.len, args := #[Operand.tmp 46], argTypes := #[31] }, type := 3, pos := "ref.go:15", after := #[{ on := 2, ground := Ground.data }], guard := none }) (d := 47) (v := ?_) rfl rfl (by kernel_rfl) (by kernel_rfl) (by kernel_rfl) (fun _ _ _ h => h) (Or.inl ⟨by rfl, ?_⟩) hHeld ?_
                      rotate_left
                      · (intro w' hSw; (try dsimp only at hSw); go_simp; (try with_reducible rfl))
                      simp only [List.setIfInBounds_toArray, List.set_cons_zero, List.set_cons_succ]
                      refine wpAnyH_takeD (i := 4) (oi := { dst := some 48, op := Op.binOp BinOp.lss 3 (Operand.tmp 45) (Operand.tmp 47) 3, type := 4, pos := "ref.go:15", after := #[{ on := 1, ground := Ground.data }, { on := 3, ground := Ground.data }], guard := none }) (d := 48) (v := ?_) rfl rfl (by kernel_rfl) (by kernel_rfl) (by kernel_rfl) (fun _ _ _ h => h) (Or.inl ⟨by rfl, ?_⟩) hHeld ?_
                      rotate_left
                      · (intro w' hSw; (try dsimp only at hSw); go_simp; (try with_reducible rfl))
                      simp only [List.setIfInBounds_toArray, List.set_cons_zero, List.set_cons_succ]
                      refine wpAnyH_takeD (i := 5) (oi := { dst := some 49, op := Op.move (Operand.tmp 48), type := 4, pos := "ref.go:15", after := #[{ on := 4, ground := Ground.data }], guard := none }) (d := 49) (v := ?_) rfl rfl (by kernel_rfl) (by kernel_rfl) (by kernel_rfl) (fun _ _ _ h => h) (Or.inl ⟨by rfl, ?_⟩) hHeld ?_
                      rotate_left
                      · (intro w' hSw; (try dsimp only at hSw); go_simp; (try with_reducible rfl))
                      simp only [List.setIfInBounds_toArray, List.set_cons_zero, List.set_cons_succ]
                      refine wpAnyH_takeD (i := 6) (oi := { dst := some 50, op := Op.move (Operand.tmp 7), type := 31, pos := "ref.go:15", after := #[{ on := 5, ground := Ground.guard }], guard := some (5, true) }) (d := 50) (v := ?_) rfl rfl (by kernel_rfl) (by kernel_rfl) (by kernel_rfl) (fun _ _ _ h => h) (Or.inl ⟨by rfl, ?_⟩) hHeld ?_
                      rotate_left
                      · (intro w' hSw; (try dsimp only at hSw); go_simp; (try with_reducible rfl))
                      simp only [List.setIfInBounds_toArray, List.set_cons_zero, List.set_cons_succ]
                      refine wpAnyH_takeD (i := 7) (oi := { dst := some 51, op := Op.move (Operand.tmp 11), type := 3, pos := "ref.go:15", after := #[{ on := 5, ground := Ground.guard }], guard := some (5, true) }) (d := 51) (v := ?_) rfl rfl (by kernel_rfl) (by kernel_rfl) (by kernel_rfl) (fun _ _ _ h => h) (Or.inl ⟨by rfl, ?_⟩) hHeld ?_
                      rotate_left
                      · (intro w' hSw; (try dsimp only at hSw); go_simp; (try with_reducible rfl))
                      simp only [List.setIfInBounds_toArray, List.set_cons_zero, List.set_cons_succ]
                      refine wpAnyH_takeD (i := 8) (oi := { dst := some 52, op := Op.indexAddr 31 (Operand.tmp 50) (Operand.tmp 51), type := 0, pos := "ref.go:15", after := #[{ on := 6, ground := Ground.data }, { on := 7, ground := Ground.data }, { on := 5, ground := Ground.guard }], guard := some (5, true) }) (d := 52) (v := ?_) rfl rfl (by kernel_rfl) (by kernel_rfl) (by kernel_rfl) (fun _ _ _ h => h) (Or.inl ⟨by rfl, ?_⟩) hHeld ?_
                      rotate_left
                      · (intro w' hSw; (try dsimp only at hSw); go_simp; (try with_reducible rfl))
                      simp only [List.setIfInBounds_toArray, List.set_cons_zero, List.set_cons_succ]
                      refine wpAnyH_takeD (i := 9) (oi := { dst := some 53, op := Op.load 3 (Operand.tmp 52), type := 3, pos := "ref.go:15", after := #[{ on := 8, ground := Ground.data }, { on := 5, ground := Ground.guard }], guard := some (5, true) }) (d := 53) (v := ?_) rfl rfl (by kernel_rfl) (by kernel_rfl) (by kernel_rfl) (fun _ _ _ h => h) (Or.inl ⟨by rfl, ?_⟩) hHeld ?_
                      rotate_left
                      · (intro w' hSw; (try dsimp only at hSw); go_simp; (try with_reducible rfl))
                      simp only [List.setIfInBounds_toArray, List.set_cons_zero, List.set_cons_succ]
                      refine wpAnyH_takeD (i := 10) (oi := { dst := some 54, op := Op.fieldAddr 28 (Operand.tmp 3) 1, type := 0, pos := "ref.go:15", after := #[{ on := 5, ground := Ground.guard }], guard := some (5, true) }) (d := 54) (v := ?_) rfl rfl (by kernel_rfl) (by kernel_rfl) (by kernel_rfl) (fun _ _ _ h => h) (Or.inl ⟨by rfl, ?_⟩) hHeld ?_
                      rotate_left
                      · (intro w' hSw; (try dsimp only at hSw); go_simp; (try with_reducible rfl))
                      simp only [List.setIfInBounds_toArray, List.set_cons_zero, List.set_cons_succ]
                      refine wpAnyH_takeD (i := 11) (oi := { dst := some 55, op := Op.load 26 (Operand.tmp 54), type := 26, pos := "ref.go:15", after := #[{ on := 10, ground := Ground.data }, { on := 5, ground := Ground.guard }], guard := some (5, true) }) (d := 55) (v := ?_) rfl rfl (by kernel_rfl) (by kernel_rfl) (by kernel_rfl) (fun _ _ _ h => h) (Or.inl ⟨by rfl, ?_⟩) hHeld ?_
                      rotate_left
                      · (intro w' hSw; (try dsimp only at hSw); go_simp; (try with_reducible rfl))
                      simp only [List.setIfInBounds_toArray, List.set_cons_zero, List.set_cons_succ]
                      refine wpAnyH_takeD (i := 12) (oi := { dst := some 56, op := Op.move (Operand.tmp 9), type := 3, pos := "ref.go:15", after := #[{ on := 5, ground := Ground.guard }], guard := some (5, true) }) (d := 56) (v := ?_) rfl rfl (by kernel_rfl) (by kernel_rfl) (by kernel_rfl) (fun _ _ _ h => h) (Or.inl ⟨by rfl, ?_⟩) hHeld ?_
                      rotate_left
                      · (intro w' hSw; (try dsimp only at hSw); go_simp; (try with_reducible rfl))
                      simp only [List.setIfInBounds_toArray, List.set_cons_zero, List.set_cons_succ]
                      refine wpAnyH_takeD (i := 13) (oi := { dst := some 57, op := Op.indexAddr 26 (Operand.tmp 55) (Operand.tmp 56), type := 0, pos := "ref.go:15", after := #[{ on := 11, ground := Ground.data }, { on := 12, ground := Ground.data }, { on := 5, ground := Ground.guard }], guard := some (5, true) }) (d := 57) (v := ?_) rfl rfl (by kernel_rfl) (by kernel_rfl) (by kernel_rfl) (fun _ _ _ h => h) (Or.inl ⟨by rfl, ?_⟩) hHeld ?_
                      rotate_left
                      · (intro w' hSw; (try dsimp only at hSw); go_simp; (try with_reducible rfl))
                      simp only [List.setIfInBounds_toArray, List.set_cons_zero, List.set_cons_succ]
                      refine wpAnyH_takeD (i := 14) (oi := { dst := some 58, op := Op.fieldAddr 71 (Operand.tmp 57) 0, type := 0, pos := "ref.go:15", after := #[{ on := 13, ground := Ground.data }, { on := 5, ground := Ground.guard }], guard := some (5, true) }) (d := 58) (v := ?_) rfl rfl (by kernel_rfl) (by kernel_rfl) (by kernel_rfl) (fun _ _ _ h => h) (Or.inl ⟨by rfl, ?_⟩) hHeld ?_
                      rotate_left
                      · (intro w' hSw; (try dsimp only at hSw); go_simp; (try with_reducible rfl))
                      simp only [List.setIfInBounds_toArray, List.set_cons_zero, List.set_cons_succ]
                      refine wpAnyH_takeD (i := 15) (oi := { dst := some 59, op := Op.load 3 (Operand.tmp 58), type := 3, pos := "ref.go:15", after := #[{ on := 14, ground := Ground.data }, { on := 5, ground := Ground.guard }], guard := some (5, true) }) (d := 59) (v := ?_) rfl rfl (by kernel_rfl) (by kernel_rfl) (by kernel_rfl) (fun _ _ _ h => h) (Or.inl ⟨by rfl, ?_⟩) hHeld ?_
                      rotate_left
                      · (intro w' hSw; (try dsimp only at hSw); go_simp; (try with_reducible rfl))
                      simp only [List.setIfInBounds_toArray, List.set_cons_zero, List.set_cons_succ]
                      refine wpAnyH_takeD (i := 16) (oi := { dst := some 60, op := Op.binOp BinOp.eql 3 (Operand.tmp 53) (Operand.tmp 59) 3, type := 4, pos := "ref.go:15", after := #[{ on := 9, ground := Ground.data }, { on := 15, ground := Ground.data }, { on := 5, ground := Ground.guard }], guard := some (5, true) }) (d := 60) (v := ?_) rfl rfl (by kernel_rfl) (by kernel_rfl) (by kernel_rfl) (fun _ _ _ h => h) (Or.inl ⟨by rfl, ?_⟩) hHeld ?_
                      rotate_left
                      · (intro w' hSw; (try dsimp only at hSw); go_simp; (try with_reducible rfl))
                      simp only [List.setIfInBounds_toArray, List.set_cons_zero, List.set_cons_succ]
                      refine wpAnyH_takeD (i := 17) (oi := { dst := some 61, op := Op.pick (Operand.tmp 49) (Operand.tmp 60) (Operand.const (Value.bool false)), type := 4, pos := "ref.go:15", after := #[{ on := 5, ground := Ground.data }, { on := 16, ground := Ground.data }], guard := none }) (d := 61) (v := ?_) rfl rfl (by kernel_rfl) (by kernel_rfl) (by kernel_rfl) (fun _ _ _ h => h) (Or.inl ⟨by rfl, ?_⟩) hHeld ?_
                      rotate_left
                      · (intro w' hSw; (try dsimp only at hSw); go_simp; (try with_reducible rfl))
                      simp only [List.setIfInBounds_toArray, List.set_cons_zero, List.set_cons_succ]
                      refine wpAnyH_takeD (i := 18) (oi := { dst := some 62, op := Op.move (Operand.tmp 61), type := 4, pos := "ref.go:15", after := #[{ on := 17, ground := Ground.data }, { on := 5, ground := Ground.chain }], guard := none }) (d := 62) (v := ?_) rfl rfl (by kernel_rfl) (by kernel_rfl) (by kernel_rfl) (fun _ _ _ h => h) (Or.inl ⟨by rfl, ?_⟩) hHeld ?_
                      rotate_left
                      · (intro w' hSw; (try dsimp only at hSw); go_simp; (try with_reducible rfl))
                      simp only [List.setIfInBounds_toArray, List.set_cons_zero, List.set_cons_succ]
                      refine wpAnyH_takeD (i := 19) (oi := { dst := some 63, op := Op.move (Operand.tmp 7), type := 31, pos := "ref.go:15", after := #[{ on := 18, ground := Ground.guard }], guard := some (18, true) }) (d := 63) (v := ?_) rfl rfl (by kernel_rfl) (by kernel_rfl) (by kernel_rfl) (fun _ _ _ h => h) (Or.inl ⟨by rfl, ?_⟩) hHeld ?_
                      rotate_left
                      · (intro w' hSw; (try dsimp only at hSw); go_simp; (try with_reducible rfl))
                      simp only [List.setIfInBounds_toArray, List.set_cons_zero, List.set_cons_succ]
                      refine wpAnyH_takeD (i := 20) (oi := { dst := some 64, op := Op.move (Operand.tmp 11), type := 3, pos := "ref.go:15", after := #[{ on := 18, ground := Ground.guard }], guard := some (18, true) }) (d := 64) (v := ?_) rfl rfl (by kernel_rfl) (by kernel_rfl) (by kernel_rfl) (fun _ _ _ h => h) (Or.inl ⟨by rfl, ?_⟩) hHeld ?_
                      rotate_left
                      · (intro w' hSw; (try dsimp only at hSw); go_simp; (try with_reducible rfl))
                      simp only [List.setIfInBounds_toArray, List.set_cons_zero, List.set_cons_succ]
                      refine wpAnyH_takeD (i := 21) (oi := { dst := some 65, op := Op.binOp BinOp.add 3 (Operand.tmp 64) (Operand.const (Value.int IntKind.i64 1)) 3, type := 3, pos := "ref.go:15", after := #[{ on := 20, ground := Ground.data }, { on := 18, ground := Ground.guard }], guard := some (18, true) }) (d := 65) (v := ?_) rfl rfl (by kernel_rfl) (by kernel_rfl) (by kernel_rfl) (fun _ _ _ h => h) (Or.inl ⟨by rfl, ?_⟩) hHeld ?_
                      rotate_left
                      · (intro w' hSw; (try dsimp only at hSw); go_simp; (try with_reducible rfl))
                      simp only [List.setIfInBounds_toArray, List.set_cons_zero, List.set_cons_succ]
                      refine wpAnyH_takeD (i := 22) (oi := { dst := some 66, op := Op.indexAddr 31 (Operand.tmp 63) (Operand.tmp 65), type := 0, pos := "ref.go:15", after := #[{ on := 19, ground := Ground.data }, { on := 21, ground := Ground.data }, { on := 18, ground := Ground.guard }], guard := some (18, true) }) (d := 66) (v := ?_) rfl rfl (by kernel_rfl) (by kernel_rfl) (by kernel_rfl) (fun _ _ _ h => h) (Or.inl ⟨by rfl, ?_⟩) hHeld ?_
                      rotate_left
                      · (intro w' hSw; (try dsimp only at hSw); go_simp; (try with_reducible rfl))
                      simp only [List.setIfInBounds_toArray, List.set_cons_zero, List.set_cons_succ]
                      refine wpAnyH_takeD (i := 23) (oi := { dst := some 67, op := Op.load 3 (Operand.tmp 66), type := 3, pos := "ref.go:15", after := #[{ on := 22, ground := Ground.data }, { on := 18, ground := Ground.guard }], guard := some (18, true) }) (d := 67) (v := ?_) rfl rfl (by kernel_rfl) (by kernel_rfl) (by kernel_rfl) (fun _ _ _ h => h) (Or.inl ⟨by rfl, ?_⟩) hHeld ?_
                      rotate_left
                      · (intro w' hSw; (try dsimp only at hSw); go_simp; (try with_reducible rfl))
                      simp only [List.setIfInBounds_toArray, List.set_cons_zero, List.set_cons_succ]
                      refine wpAnyH_takeD (i := 24) (oi := { dst := some 68, op := Op.fieldAddr 28 (Operand.tmp 3) 1, type := 0, pos := "ref.go:15", after := #[{ on := 18, ground := Ground.guard }], guard := some (18, true) }) (d := 68) (v := ?_) rfl rfl (by kernel_rfl) (by kernel_rfl) (by kernel_rfl) (fun _ _ _ h => h) (Or.inl ⟨by rfl, ?_⟩) hHeld ?_
                      rotate_left
                      · (intro w' hSw; (try dsimp only at hSw); go_simp; (try with_reducible rfl))
                      simp only [List.setIfInBounds_toArray, List.set_cons_zero, List.set_cons_succ]
                      refine wpAnyH_takeD (i := 25) (oi := { dst := some 69, op := Op.load 26 (Operand.tmp 68), type := 26, pos := "ref.go:15", after := #[{ on := 24, ground := Ground.data }, { on := 18, ground := Ground.guard }], guard := some (18, true) }) (d := 69) (v := ?_) rfl rfl (by kernel_rfl) (by kernel_rfl) (by kernel_rfl) (fun _ _ _ h => h) (Or.inl ⟨by rfl, ?_⟩) hHeld ?_
                      rotate_left
                      · (intro w' hSw; (try dsimp only at hSw); go_simp; (try with_reducible rfl))
                      simp only [List.setIfInBounds_toArray, List.set_cons_zero, List.set_cons_succ]
                      refine wpAnyH_takeD (i := 26) (oi := { dst := some 70, op := Op.move (Operand.tmp 9), type := 3, pos := "ref.go:15", after := #[{ on := 18, ground := Ground.guard }], guard := some (18, true) }) (d := 70) (v := ?_) rfl rfl (by kernel_rfl) (by kernel_rfl) (by kernel_rfl) (fun _ _ _ h => h) (Or.inl ⟨by rfl, ?_⟩) hHeld ?_
                      rotate_left
                      · (intro w' hSw; (try dsimp only at hSw); go_simp; (try with_reducible rfl))
                      simp only [List.setIfInBounds_toArray, List.set_cons_zero, List.set_cons_succ]
                      refine wpAnyH_takeD (i := 27) (oi := { dst := some 71, op := Op.indexAddr 26 (Operand.tmp 69) (Operand.tmp 70), type := 0, pos := "ref.go:15", after := #[{ on := 25, ground := Ground.data }, { on := 26, ground := Ground.data }, { on := 18, ground := Ground.guard }], guard := some (18, true) }) (d := 71) (v := ?_) rfl rfl (by kernel_rfl) (by kernel_rfl) (by kernel_rfl) (fun _ _ _ h => h) (Or.inl ⟨by rfl, ?_⟩) hHeld ?_
                      rotate_left
                      · (intro w' hSw; (try dsimp only at hSw); go_simp; (try with_reducible rfl))
                      simp only [List.setIfInBounds_toArray, List.set_cons_zero, List.set_cons_succ]
                      refine wpAnyH_takeD (i := 28) (oi := { dst := some 72, op := Op.fieldAddr 71 (Operand.tmp 71) 1, type := 0, pos := "ref.go:15", after := #[{ on := 27, ground := Ground.data }, { on := 18, ground := Ground.guard }], guard := some (18, true) }) (d := 72) (v := ?_) rfl rfl (by kernel_rfl) (by kernel_rfl) (by kernel_rfl) (fun _ _ _ h => h) (Or.inl ⟨by rfl, ?_⟩) hHeld ?_
                      rotate_left
                      · (intro w' hSw; (try dsimp only at hSw); go_simp; (try with_reducible rfl))
                      simp only [List.setIfInBounds_toArray, List.set_cons_zero, List.set_cons_succ]
                      refine wpAnyH_takeD (i := 29) (oi := { dst := some 73, op := Op.load 3 (Operand.tmp 72), type := 3, pos := "ref.go:15", after := #[{ on := 28, ground := Ground.data }, { on := 18, ground := Ground.guard }], guard := some (18, true) }) (d := 73) (v := ?_) rfl rfl (by kernel_rfl) (by kernel_rfl) (by kernel_rfl) (fun _ _ _ h => h) (Or.inl ⟨by rfl, ?_⟩) hHeld ?_
                      rotate_left
                      · (intro w' hSw; (try dsimp only at hSw); go_simp; (try with_reducible rfl))
                      simp only [List.setIfInBounds_toArray, List.set_cons_zero, List.set_cons_succ]
                      refine wpAnyH_takeD (i := 30) (oi := { dst := some 74, op := Op.binOp BinOp.eql 3 (Operand.tmp 67) (Operand.tmp 73) 3, type := 4, pos := "ref.go:15", after := #[{ on := 23, ground := Ground.data }, { on := 29, ground := Ground.data }, { on := 18, ground := Ground.guard }], guard := some (18, true) }) (d := 74) (v := ?_) rfl rfl (by kernel_rfl) (by kernel_rfl) (by kernel_rfl) (fun _ _ _ h => h) (Or.inl ⟨by rfl, ?_⟩) hHeld ?_
                      rotate_left
                      · (intro w' hSw; (try dsimp only at hSw); go_simp; (try with_reducible rfl))
                      simp only [List.setIfInBounds_toArray, List.set_cons_zero, List.set_cons_succ]
                      refine wpAnyH_takeD (i := 31) (oi := { dst := some 75, op := Op.pick (Operand.tmp 62) (Operand.tmp 74) (Operand.const (Value.bool false)), type := 4, pos := "ref.go:15", after := #[{ on := 18, ground := Ground.data }, { on := 30, ground := Ground.data }], guard := none }) (d := 75) (v := ?_) rfl rfl (by kernel_rfl) (by kernel_rfl) (by kernel_rfl) (fun _ _ _ h => h) (Or.inl ⟨by rfl, ?_⟩) hHeld ?_
                      rotate_left
                      · (intro w' hSw; (try dsimp only at hSw); go_simp; (try with_reducible rfl))
                      simp only [List.setIfInBounds_toArray, List.set_cons_zero, List.set_cons_succ]
                      refine wpAnyH_done (by kernel_rfl) ?_ _
                      clear hHeld m0 m1 mb l1
                      replace l0 : W2.drew.cell? ⟨b1, o1 + i, none⟩ = some (.int .i64 x) := l0
                      replace HO : Hid (W2.drew.ownsRow W.heap.size 3 1 (.slice A3 O.length c3) O.length (O.map (Value.int .i64))) := Lib.hid (own_drew HO.out)
                      replace HBO := Lib.hid HBO.out.drew
                      generalize W2.drew = W2 at *
                      go_wp2_with (at_builtin; refine app_one W.heap.size 31 3 (.int .i64 0) 1 8 [_] 1 _ _ rfl rfl Try.underlying31 info_int5 rfl (by decide) _ _ _ rfl rfl rfl (by intro u hu; simp at hu; subst hu; rfl) HO.out (by omega) (by omega) HBO.out.size ?_)
                      intro v' w6 hown hg6
                      obtain ⟨A4, c4, rfl⟩ := own_slice hown
                      have hk6 : Below W.heap.size W2 w6 := Keep.below (Keep.of_grown (F := fun g => (Value.slice A3 O.length c3).ownBlock = some g) hg6 (fun g hg => hg)) HBO.out.size (fun x hx => own_base HO.out x hx)
                      have HO6 : Hid (w6.ownsRow W.heap.size 3 1 (.slice A4 (O ++ [256 + (k : Int)]).length c4) (O ++ [256 + (k : Int)]).length ((O ++ [256 + (k : Int)]).map (Value.int .i64))) := Lib.hid (by rw [List.length_append, List.map_append]; exact hown)
                      have HB6 := Lib.hid (HBO.out.trans hk6)
                      have HL6 : Hid ((O ++ [256 + (k : Int)]).length = O.length + 1) := Lib.hid (by simp)
                      clear hown hg6 hk6
                      go_wp2_with fail
                      go_roundg (gk - 2)
                      case measure => have := HI.out; omega
                      case rel => exact ⟨i + 2, O ++ [256 + (k : Int)], A4, c4, by have := HI.out; omega, by rw [show ((i + 2 : Nat) : Int) = (i : Int) + 1 + 1 by omega], by rw [HL6.out], HO6.out, HB6.out, HREP.out, by rw [HL6.out]; omega⟩
                    · have hyb : (y == b) = false := by simpa using hy
                      have HREP := Lib.hid (HX.out.2 (fun e => hy e.2))
                      clear hy
                      go_upto_region 13 with fail
                      refine wp_region_held_drew (S := fun V => V.cell? ⟨w.heap.size, 1, none⟩ = some (.slice (some ⟨ba, o, none⟩) M.length c2) ∧ V.cell? ⟨ba, o + k * 2, none⟩ = some (.int .i64 x) ∧ V.cell? ⟨ba, o + k * 2 + 1, none⟩ = some (.int .i64 b) ∧ V.cell? ⟨b1, o1 + i, none⟩ = some (.int .i64 x) ∧ V.cell? ⟨b1, o1 + (i + 1), none⟩ = some (.int .i64 y)) (by kernel_rfl) (by exact ⟨m1, m0, mb, l0, l1⟩) (fun hHeld => ?_)
                      refine wpAnyH_takeD (i := 0) (oi := { dst := some 44, op := Op.move (Operand.tmp 11), type := 3, pos := "ref.go:15", after := #[], guard := none }) (d := 44) (v := ?_) rfl rfl (by kernel_rfl) (by kernel_rfl) (by kernel_rfl) (fun _ _ _ h => h) (Or.inl ⟨by rfl, ?_⟩) hHeld ?_
                      rotate_left
                      · (intro w' hSw; (try dsimp only at hSw); go_simp; (try with_reducible rfl))
                      simp only [List.setIfInBounds_toArray, List.set_cons_zero, List.set_cons_succ]
                      refine wpAnyH_takeD (i := 1) (oi := { dst := some 45, op := Op.binOp BinOp.add 3 (Operand.tmp 44) (Operand.const (Value.int IntKind.i64 1)) 3, type := 3, pos := "ref.go:15", after := #[{ on := 0, ground := Ground.data }], guard := none }) (d := 45) (v := ?_) rfl rfl (by kernel_rfl) (by kernel_rfl) (by kernel_rfl) (fun _ _ _ h => h) (Or.inl ⟨by rfl, ?_⟩) hHeld ?_
                      rotate_left
                      · (intro w' hSw; (try dsimp only at hSw); go_simp; (try with_reducible rfl))
                      simp only [List.setIfInBounds_toArray, List.set_cons_zero, List.set_cons_succ]
                      refine wpAnyH_takeD (i := 2) (oi := { dst := some 46, op := Op.move (Operand.tmp 7), type := 31, pos := "ref.go:15", after := #[], guard := none }) (d := 46) (v := ?_) rfl rfl (by kernel_rfl) (by kernel_rfl) (by kernel_rfl) (fun _ _ _ h => h) (Or.inl ⟨by rfl, ?_⟩) hHeld ?_
                      rotate_left
                      · (intro w' hSw; (try dsimp only at hSw); go_simp; (try with_reducible rfl))
                      simp only [List.setIfInBounds_toArray, List.set_cons_zero, List.set_cons_succ]
                      refine wpAnyH_takeD (i := 3) (oi := { dst := some 47, op := Op.call { callee := Callee.builtin Builtin.len, args := #[Operand.tmp 46], argTypes := #[31] }, type := 3, pos := "ref.go:15", after := #[{ on := 2, ground := Ground.data }], guard := none }) (d := 47) (v := ?_) rfl rfl (by kernel_rfl) (by kernel_rfl) (by kernel_rfl) (fun _ _ _ h => h) (Or.inl ⟨by rfl, ?_⟩) hHeld ?_
                      rotate_left
                      · (intro w' hSw; (try dsimp only at hSw); go_simp; (try with_reducible rfl))
                      simp only [List.setIfInBounds_toArray, List.set_cons_zero, List.set_cons_succ]
                      refine wpAnyH_takeD (i := 4) (oi := { dst := some 48, op := Op.binOp BinOp.lss 3 (Operand.tmp 45) (Operand.tmp 47) 3, type := 4, pos := "ref.go:15", after := #[{ on := 1, ground := Ground.data }, { on := 3, ground := Ground.data }], guard := none }) (d := 48) (v := ?_) rfl rfl (by kernel_rfl) (by kernel_rfl) (by kernel_rfl) (fun _ _ _ h => h) (Or.inl ⟨by rfl, ?_⟩) hHeld ?_
                      rotate_left
                      · (intro w' hSw; (try dsimp only at hSw); go_simp; (try with_reducible rfl))
                      simp only [List.setIfInBounds_toArray, List.set_cons_zero, List.set_cons_succ]
                      refine wpAnyH_takeD (i := 5) (oi := { dst := some 49, op := Op.move (Operand.tmp 48), type := 4, pos := "ref.go:15", after := #[{ on := 4, ground := Ground.data }], guard := none }) (d := 49) (v := ?_) rfl rfl (by kernel_rfl) (by kernel_rfl) (by kernel_rfl) (fun _ _ _ h => h) (Or.inl ⟨by rfl, ?_⟩) hHeld ?_
                      rotate_left
                      · (intro w' hSw; (try dsimp only at hSw); go_simp; (try with_reducible rfl))
                      simp only [List.setIfInBounds_toArray, List.set_cons_zero, List.set_cons_succ]
                      refine wpAnyH_takeD (i := 6) (oi := { dst := some 50, op := Op.move (Operand.tmp 7), type := 31, pos := "ref.go:15", after := #[{ on := 5, ground := Ground.guard }], guard := some (5, true) }) (d := 50) (v := ?_) rfl rfl (by kernel_rfl) (by kernel_rfl) (by kernel_rfl) (fun _ _ _ h => h) (Or.inl ⟨by rfl, ?_⟩) hHeld ?_
                      rotate_left
                      · (intro w' hSw; (try dsimp only at hSw); go_simp; (try with_reducible rfl))
                      simp only [List.setIfInBounds_toArray, List.set_cons_zero, List.set_cons_succ]
                      refine wpAnyH_takeD (i := 7) (oi := { dst := some 51, op := Op.move (Operand.tmp 11), type := 3, pos := "ref.go:15", after := #[{ on := 5, ground := Ground.guard }], guard := some (5, true) }) (d := 51) (v := ?_) rfl rfl (by kernel_rfl) (by kernel_rfl) (by kernel_rfl) (fun _ _ _ h => h) (Or.inl ⟨by rfl, ?_⟩) hHeld ?_
                      rotate_left
                      · (intro w' hSw; (try dsimp only at hSw); go_simp; (try with_reducible rfl))
                      simp only [List.setIfInBounds_toArray, List.set_cons_zero, List.set_cons_succ]
                      refine wpAnyH_takeD (i := 8) (oi := { dst := some 52, op := Op.indexAddr 31 (Operand.tmp 50) (Operand.tmp 51), type := 0, pos := "ref.go:15", after := #[{ on := 6, ground := Ground.data }, { on := 7, ground := Ground.data }, { on := 5, ground := Ground.guard }], guard := some (5, true) }) (d := 52) (v := ?_) rfl rfl (by kernel_rfl) (by kernel_rfl) (by kernel_rfl) (fun _ _ _ h => h) (Or.inl ⟨by rfl, ?_⟩) hHeld ?_
                      rotate_left
                      · (intro w' hSw; (try dsimp only at hSw); go_simp; (try with_reducible rfl))
                      simp only [List.setIfInBounds_toArray, List.set_cons_zero, List.set_cons_succ]
                      refine wpAnyH_takeD (i := 9) (oi := { dst := some 53, op := Op.load 3 (Operand.tmp 52), type := 3, pos := "ref.go:15", after := #[{ on := 8, ground := Ground.data }, { on := 5, ground := Ground.guard }], guard := some (5, true) }) (d := 53) (v := ?_) rfl rfl (by kernel_rfl) (by kernel_rfl) (by kernel_rfl) (fun _ _ _ h => h) (Or.inl ⟨by rfl, ?_⟩) hHeld ?_
                      rotate_left
                      · (intro w' hSw; (try dsimp only at hSw); go_simp; (try with_reducible rfl))
                      simp only [List.setIfInBounds_toArray, List.set_cons_zero, List.set_cons_succ]
                      refine wpAnyH_takeD (i := 10) (oi := { dst := some 54, op := Op.fieldAddr 28 (Operand.tmp 3) 1, type := 0, pos := "ref.go:15", after := #[{ on := 5, ground := Ground.guard }], guard := some (5, true) }) (d := 54) (v := ?_) rfl rfl (by kernel_rfl) (by kernel_rfl) (by kernel_rfl) (fun _ _ _ h => h) (Or.inl ⟨by rfl, ?_⟩) hHeld ?_
                      rotate_left
                      · (intro w' hSw; (try dsimp only at hSw); go_simp; (try with_reducible rfl))
                      simp only [List.setIfInBounds_toArray, List.set_cons_zero, List.set_cons_succ]
                      refine wpAnyH_takeD (i := 11) (oi := { dst := some 55, op := Op.load 26 (Operand.tmp 54), type := 26, pos := "ref.go:15", after := #[{ on := 10, ground := Ground.data }, { on := 5, ground := Ground.guard }], guard := some (5, true) }) (d := 55) (v := ?_) rfl rfl (by kernel_rfl) (by kernel_rfl) (by kernel_rfl) (fun _ _ _ h => h) (Or.inl ⟨by rfl, ?_⟩) hHeld ?_
                      rotate_left
                      · (intro w' hSw; (try dsimp only at hSw); go_simp; (try with_reducible rfl))
                      simp only [List.setIfInBounds_toArray, List.set_cons_zero, List.set_cons_succ]
                      refine wpAnyH_takeD (i := 12) (oi := { dst := some 56, op := Op.move (Operand.tmp 9), type := 3, pos := "ref.go:15", after := #[{ on := 5, ground := Ground.guard }], guard := some (5, true) }) (d := 56) (v := ?_) rfl rfl (by kernel_rfl) (by kernel_rfl) (by kernel_rfl) (fun _ _ _ h => h) (Or.inl ⟨by rfl, ?_⟩) hHeld ?_
                      rotate_left
                      · (intro w' hSw; (try dsimp only at hSw); go_simp; (try with_reducible rfl))
                      simp only [List.setIfInBounds_toArray, List.set_cons_zero, List.set_cons_succ]
                      refine wpAnyH_takeD (i := 13) (oi := { dst := some 57, op := Op.indexAddr 26 (Operand.tmp 55) (Operand.tmp 56), type := 0, pos := "ref.go:15", after := #[{ on := 11, ground := Ground.data }, { on := 12, ground := Ground.data }, { on := 5, ground := Ground.guard }], guard := some (5, true) }) (d := 57) (v := ?_) rfl rfl (by kernel_rfl) (by kernel_rfl) (by kernel_rfl) (fun _ _ _ h => h) (Or.inl ⟨by rfl, ?_⟩) hHeld ?_
                      rotate_left
                      · (intro w' hSw; (try dsimp only at hSw); go_simp; (try with_reducible rfl))
                      simp only [List.setIfInBounds_toArray, List.set_cons_zero, List.set_cons_succ]
                      refine wpAnyH_takeD (i := 14) (oi := { dst := some 58, op := Op.fieldAddr 71 (Operand.tmp 57) 0, type := 0, pos := "ref.go:15", after := #[{ on := 13, ground := Ground.data }, { on := 5, ground := Ground.guard }], guard := some (5, true) }) (d := 58) (v := ?_) rfl rfl (by kernel_rfl) (by kernel_rfl) (by kernel_rfl) (fun _ _ _ h => h) (Or.inl ⟨by rfl, ?_⟩) hHeld ?_
                      rotate_left
                      · (intro w' hSw; (try dsimp only at hSw); go_simp; (try with_reducible rfl))
                      simp only [List.setIfInBounds_toArray, List.set_cons_zero, List.set_cons_succ]
                      refine wpAnyH_takeD (i := 15) (oi := { dst := some 59, op := Op.load 3 (Operand.tmp 58), type := 3, pos := "ref.go:15", after := #[{ on := 14, ground := Ground.data }, { on := 5, ground := Ground.guard }], guard := some (5, true) }) (d := 59) (v := ?_) rfl rfl (by kernel_rfl) (by kernel_rfl) (by kernel_rfl) (fun _ _ _ h => h) (Or.inl ⟨by rfl, ?_⟩) hHeld ?_
                      rotate_left
                      · (intro w' hSw; (try dsimp only at hSw); go_simp; (try with_reducible rfl))
                      simp only [List.setIfInBounds_toArray, List.set_cons_zero, List.set_cons_succ]
                      refine wpAnyH_takeD (i := 16) (oi := { dst := some 60, op := Op.binOp BinOp.eql 3 (Operand.tmp 53) (Operand.tmp 59) 3, type := 4, pos := "ref.go:15", after := #[{ on := 9, ground := Ground.data }, { on := 15, ground := Ground.data }, { on := 5, ground := Ground.guard }], guard := some (5, true) }) (d := 60) (v := ?_) rfl rfl (by kernel_rfl) (by kernel_rfl) (by kernel_rfl) (fun _ _ _ h => h) (Or.inl ⟨by rfl, ?_⟩) hHeld ?_
                      rotate_left
                      · (intro w' hSw; (try dsimp only at hSw); go_simp; (try with_reducible rfl))
                      simp only [List.setIfInBounds_toArray, List.set_cons_zero, List.set_cons_succ]
                      refine wpAnyH_takeD (i := 17) (oi := { dst := some 61, op := Op.pick (Operand.tmp 49) (Operand.tmp 60) (Operand.const (Value.bool false)), type := 4, pos := "ref.go:15", after := #[{ on := 5, ground := Ground.data }, { on := 16, ground := Ground.data }], guard := none }) (d := 61) (v := ?_) rfl rfl (by kernel_rfl) (by kernel_rfl) (by kernel_rfl) (fun _ _ _ h => h) (Or.inl ⟨by rfl, ?_⟩) hHeld ?_
                      rotate_left
                      · (intro w' hSw; (try dsimp only at hSw); go_simp; (try with_reducible rfl))
                      simp only [List.setIfInBounds_toArray, List.set_cons_zero, List.set_cons_succ]
                      refine wpAnyH_takeD (i := 18) (oi := { dst := some 62, op := Op.move (Operand.tmp 61), type := 4, pos := "ref.go:15", after := #[{ on := 17, ground := Ground.data }, { on := 5, ground := Ground.chain }], guard := none }) (d := 62) (v := ?_) rfl rfl (by kernel_rfl) (by kernel_rfl) (by kernel_rfl) (fun _ _ _ h => h) (Or.inl ⟨by rfl, ?_⟩) hHeld ?_
                      rotate_left
                      · (intro w' hSw; (try dsimp only at hSw); go_simp; (try with_reducible rfl))
                      simp only [List.setIfInBounds_toArray, List.set_cons_zero, List.set_cons_succ]
                      refine wpAnyH_takeD (i := 19) (oi := { dst := some 63, op := Op.move (Operand.tmp 7), type := 31, pos := "ref.go:15", after := #[{ on := 18, ground := Ground.guard }], guard := some (18, true) }) (d := 63) (v := ?_) rfl rfl (by kernel_rfl) (by kernel_rfl) (by kernel_rfl) (fun _ _ _ h => h) (Or.inl ⟨by rfl, ?_⟩) hHeld ?_
                      rotate_left
                      · (intro w' hSw; (try dsimp only at hSw); go_simp; (try with_reducible rfl))
                      simp only [List.setIfInBounds_toArray, List.set_cons_zero, List.set_cons_succ]
                      refine wpAnyH_takeD (i := 20) (oi := { dst := some 64, op := Op.move (Operand.tmp 11), type := 3, pos := "ref.go:15", after := #[{ on := 18, ground := Ground.guard }], guard := some (18, true) }) (d := 64) (v := ?_) rfl rfl (by kernel_rfl) (by kernel_rfl) (by kernel_rfl) (fun _ _ _ h => h) (Or.inl ⟨by rfl, ?_⟩) hHeld ?_
                      rotate_left
                      · (intro w' hSw; (try dsimp only at hSw); go_simp; (try with_reducible rfl))
                      simp only [List.setIfInBounds_toArray, List.set_cons_zero, List.set_cons_succ]
                      refine wpAnyH_takeD (i := 21) (oi := { dst := some 65, op := Op.binOp BinOp.add 3 (Operand.tmp 64) (Operand.const (Value.int IntKind.i64 1)) 3, type := 3, pos := "ref.go:15", after := #[{ on := 20, ground := Ground.data }, { on := 18, ground := Ground.guard }], guard := some (18, true) }) (d := 65) (v := ?_) rfl rfl (by kernel_rfl) (by kernel_rfl) (by kernel_rfl) (fun _ _ _ h => h) (Or.inl ⟨by rfl, ?_⟩) hHeld ?_
                      rotate_left
                      · (intro w' hSw; (try dsimp only at hSw); go_simp; (try with_reducible rfl))
                      simp only [List.setIfInBounds_toArray, List.set_cons_zero, List.set_cons_succ]
                      refine wpAnyH_takeD (i := 22) (oi := { dst := some 66, op := Op.indexAddr 31 (Operand.tmp 63) (Operand.tmp 65), type := 0, pos := "ref.go:15", after := #[{ on := 19, ground := Ground.data }, { on := 21, ground := Ground.data }, { on := 18, ground := Ground.guard }], guard := some (18, true) }) (d := 66) (v := ?_) rfl rfl (by kernel_rfl) (by kernel_rfl) (by kernel_rfl) (fun _ _ _ h => h) (Or.inl ⟨by rfl, ?_⟩) hHeld ?_
                      rotate_left
                      · (intro w' hSw; (try dsimp only at hSw); go_simp; (try with_reducible rfl))
                      simp only [List.setIfInBounds_toArray, List.set_cons_zero, List.set_cons_succ]
                      refine wpAnyH_takeD (i := 23) (oi := { dst := some 67, op := Op.load 3 (Operand.tmp 66), type := 3, pos := "ref.go:15", after := #[{ on := 22, ground := Ground.data }, { on := 18, ground := Ground.guard }], guard := some (18, true) }) (d := 67) (v := ?_) rfl rfl (by kernel_rfl) (by kernel_rfl) (by kernel_rfl) (fun _ _ _ h => h) (Or.inl ⟨by rfl, ?_⟩) hHeld ?_
                      rotate_left
                      · (intro w' hSw; (try dsimp only at hSw); go_simp; (try with_reducible rfl))
                      simp only [List.setIfInBounds_toArray, List.set_cons_zero, List.set_cons_succ]
                      refine wpAnyH_takeD (i := 24) (oi := { dst := some 68, op := Op.fieldAddr 28 (Operand.tmp 3) 1, type := 0, pos := "ref.go:15", after := #[{ on := 18, ground := Ground.guard }], guard := some (18, true) }) (d := 68) (v := ?_) rfl rfl (by kernel_rfl) (by kernel_rfl) (by kernel_rfl) (fun _ _ _ h => h) (Or.inl ⟨by rfl, ?_⟩) hHeld ?_
                      rotate_left
                      · (intro w' hSw; (try dsimp only at hSw); go_simp; (try with_reducible rfl))
                      simp only [List.setIfInBounds_toArray, List.set_cons_zero, List.set_cons_succ]
                      refine wpAnyH_takeD (i := 25) (oi := { dst := some 69, op := Op.load 26 (Operand.tmp 68), type := 26, pos := "ref.go:15", after := #[{ on := 24, ground := Ground.data }, { on := 18, ground := Ground.guard }], guard := some (18, true) }) (d := 69) (v := ?_) rfl rfl (by kernel_rfl) (by kernel_rfl) (by kernel_rfl) (fun _ _ _ h => h) (Or.inl ⟨by rfl, ?_⟩) hHeld ?_
                      rotate_left
                      · (intro w' hSw; (try dsimp only at hSw); go_simp; (try with_reducible rfl))
                      simp only [List.setIfInBounds_toArray, List.set_cons_zero, List.set_cons_succ]
                      refine wpAnyH_takeD (i := 26) (oi := { dst := some 70, op := Op.move (Operand.tmp 9), type := 3, pos := "ref.go:15", after := #[{ on := 18, ground := Ground.guard }], guard := some (18, true) }) (d := 70) (v := ?_) rfl rfl (by kernel_rfl) (by kernel_rfl) (by kernel_rfl) (fun _ _ _ h => h) (Or.inl ⟨by rfl, ?_⟩) hHeld ?_
                      rotate_left
                      · (intro w' hSw; (try dsimp only at hSw); go_simp; (try with_reducible rfl))
                      simp only [List.setIfInBounds_toArray, List.set_cons_zero, List.set_cons_succ]
                      refine wpAnyH_takeD (i := 27) (oi := { dst := some 71, op := Op.indexAddr 26 (Operand.tmp 69) (Operand.tmp 70), type := 0, pos := "ref.go:15", after := #[{ on := 25, ground := Ground.data }, { on := 26, ground := Ground.data }, { on := 18, ground := Ground.guard }], guard := some (18, true) }) (d := 71) (v := ?_) rfl rfl (by kernel_rfl) (by kernel_rfl) (by kernel_rfl) (fun _ _ _ h => h) (Or.inl ⟨by rfl, ?_⟩) hHeld ?_
                      rotate_left
                      · (intro w' hSw; (try dsimp only at hSw); go_simp; (try with_reducible rfl))
                      simp only [List.setIfInBounds_toArray, List.set_cons_zero, List.set_cons_succ]
                      refine wpAnyH_takeD (i := 28) (oi := { dst := some 72, op := Op.fieldAddr 71 (Operand.tmp 71) 1, type := 0, pos := "ref.go:15", after := #[{ on := 27, ground := Ground.data }, { on := 18, ground := Ground.guard }], guard := some (18, true) }) (d := 72) (v := ?_) rfl rfl (by kernel_rfl) (by kernel_rfl) (by kernel_rfl) (fun _ _ _ h => h) (Or.inl ⟨by rfl, ?_⟩) hHeld ?_
                      rotate_left
                      · (intro w' hSw; (try dsimp only at hSw); go_simp; (try with_reducible rfl))
                      simp only [List.setIfInBounds_toArray, List.set_cons_zero, List.set_cons_succ]
                      refine wpAnyH_takeD (i := 29) (oi := { dst := some 73, op := Op.load 3 (Operand.tmp 72), type := 3, pos := "ref.go:15", after := #[{ on := 28, ground := Ground.data }, { on := 18, ground := Ground.guard }], guard := some (18, true) }) (d := 73) (v := ?_) rfl rfl (by kernel_rfl) (by kernel_rfl) (by kernel_rfl) (fun _ _ _ h => h) (Or.inl ⟨by rfl, ?_⟩) hHeld ?_
                      rotate_left
                      · (intro w' hSw; (try dsimp only at hSw); go_simp; (try with_reducible rfl))
                      simp only [List.setIfInBounds_toArray, List.set_cons_zero, List.set_cons_succ]
                      refine wpAnyH_takeD (i := 30) (oi := { dst := some 74, op := Op.binOp BinOp.eql 3 (Operand.tmp 67) (Operand.tmp 73) 3, type := 4, pos := "ref.go:15", after := #[{ on := 23, ground := Ground.data }, { on := 29, ground := Ground.data }, { on := 18, ground := Ground.guard }], guard := some (18, true) }) (d := 74) (v := ?_) rfl rfl (by kernel_rfl) (by kernel_rfl) (by kernel_rfl) (fun _ _ _ h => h) (Or.inl ⟨by rfl, ?_⟩) hHeld ?_
                      rotate_left
                      · (intro w' hSw; (try dsimp only at hSw); go_simp; (try with_reducible rfl))
                      simp only [List.setIfInBounds_toArray, List.set_cons_zero, List.set_cons_succ]
                      refine wpAnyH_takeD (i := 31) (oi := { dst := some 75, op := Op.pick (Operand.tmp 62) (Operand.tmp 74) (Operand.const (Value.bool false)), type := 4, pos := "ref.go:15", after := #[{ on := 18, ground := Ground.data }, { on := 30, ground := Ground.data }], guard := none }) (d := 75) (v := ?_) rfl rfl (by kernel_rfl) (by kernel_rfl) (by kernel_rfl) (fun _ _ _ h => h) (Or.inl ⟨by rfl, ?_⟩) hHeld ?_
                      rotate_left
                      · (intro w' hSw; (try dsimp only at hSw); go_simp; (try with_reducible rfl))
                      simp only [List.setIfInBounds_toArray, List.set_cons_zero, List.set_cons_succ]
                      refine wpAnyH_done (by kernel_rfl) ?_ _
                      clear hHeld m0 m1 mb l1
                      replace l0 : W2.drew.cell? ⟨b1, o1 + i, none⟩ = some (.int .i64 x) := l0
                      replace HO : Hid (W2.drew.ownsRow W.heap.size 3 1 (.slice A3 O.length c3) O.length (O.map (Value.int .i64))) := Lib.hid (own_drew HO.out)
                      replace HBO := Lib.hid HBO.out.drew
                      generalize W2.drew = W2 at *
                      go_wp2_with (at_builtin; refine app_one W.heap.size 31 3 (.int .i64 0) 1 8 [_] 1 _ _ rfl rfl Try.underlying31 info_int5 rfl (by decide) _ _ _ rfl rfl rfl (by intro u hu; simp at hu; subst hu; rfl) HO.out (by omega) (by omega) HBO.out.size ?_)
                      intro v' w6 hown hg6
                      obtain ⟨A4, c4, rfl⟩ := own_slice hown
                      have hk6 : Below W.heap.size W2 w6 := Keep.below (Keep.of_grown (F := fun g => (Value.slice A3 O.length c3).ownBlock = some g) hg6 (fun g hg => hg)) HBO.out.size (fun x hx => own_base HO.out x hx)
                      have HO6 : Hid (w6.ownsRow W.heap.size 3 1 (.slice A4 (O ++ [x]).length c4) (O ++ [x]).length ((O ++ [x]).map (Value.int .i64))) := Lib.hid (by rw [List.length_append, List.map_append]; exact hown)
                      have HB6 := Lib.hid (HBO.out.trans hk6)
                      have HL6 : Hid ((O ++ [x]).length = O.length + 1) := Lib.hid (by simp)
                      clear hown hg6 hk6
                      go_wp2_with fail
                      go_roundg (gk - 1)
                      case measure => have := HI.out; omega
                      case rel => exact ⟨i + 1, O ++ [x], A4, c4, by have := HI.out; omega, by go_num, by rw [HL6.out], HO6.out, HB6.out, HREP.out, by rw [HL6.out]; omega⟩
                  · have hxa : (x == a) = false := by simpa using hx
                    have HREP := Lib.hid (HX.out.2 (fun e => hx e.1))
                    clear hx
                    go_upto_region 13 with fail
                    refine wp_region_held_drew (S := fun V => V.cell? ⟨w.heap.size, 1, none⟩ = some (.slice (some ⟨ba, o, none⟩) M.length c2) ∧ V.cell? ⟨ba, o + k * 2, none⟩ = some (.int .i64 a) ∧ V.cell? ⟨ba, o + k * 2 + 1, none⟩ = some (.int .i64 b) ∧ V.cell? ⟨b1, o1 + i, none⟩ = some (.int .i64 x) ∧ V.cell? ⟨b1, o1 + (i + 1), none⟩ = some (.int .i64 y)) (by kernel_rfl) (by exact ⟨m1, m0, mb, l0, l1⟩) (fun hHeld => ?_)
                    refine wpAnyH_takeD (i := 0) (oi := { dst := some 44, op := Op.move (Operand.tmp 11), type := 3, pos := "ref.go:15", after := #[], guard := none }) (d := 44) (v := ?_) rfl rfl (by kernel_rfl) (by kernel_rfl) (by kernel_rfl) (fun _ _ _ h => h) (Or.inl ⟨by rfl, ?_⟩) hHeld ?_
                    rotate_left
                    · (intro w' hSw; (try dsimp only at hSw); go_simp; (try with_reducible rfl))
                    simp only [List.setIfInBounds_toArray, List.set_cons_zero, List.set_cons_succ]
                    refine wpAnyH_takeD (i := 1) (oi := { dst := some 45, op := Op.binOp BinOp.add 3 (Operand.tmp 44) (Operand.const (Value.int IntKind.i64 1)) 3, type := 3, pos := "ref.go:15", after := #[{ on := 0, ground := Ground.data }], guard := none }) (d := 45) (v := ?_) rfl rfl (by kernel_rfl) (by kernel_rfl) (by kernel_rfl) (fun _ _ _ h => h) (Or.inl ⟨by rfl, ?_⟩) hHeld ?_
                    rotate_left
                    · (intro w' hSw; (try dsimp only at hSw); go_simp; (try with_reducible rfl))
                    simp only [List.setIfInBounds_toArray, List.set_cons_zero, List.set_cons_succ]
                    refine wpAnyH_takeD (i := 2) (oi := { dst := some 46, op := Op.move (Operand.tmp 7), type := 31, pos := "ref.go:15", after := #[], guard := none }) (d := 46) (v := ?_) rfl rfl (by kernel_rfl) (by kernel_rfl) (by kernel_rfl) (fun _ _ _ h => h) (Or.inl ⟨by rfl, ?_⟩) hHeld ?_
                    rotate_left
                    · (intro w' hSw; (try dsimp only at hSw); go_simp; (try with_reducible rfl))
                    simp only [List.setIfInBounds_toArray, List.set_cons_zero, List.set_cons_succ]
                    refine wpAnyH_takeD (i := 3) (oi := { dst := some 47, op := Op.call { callee := Callee.builtin Builtin.len, args := #[Operand.tmp 46], argTypes := #[31] }, type := 3, pos := "ref.go:15", after := #[{ on := 2, ground := Ground.data }], guard := none }) (d := 47) (v := ?_) rfl rfl (by kernel_rfl) (by kernel_rfl) (by kernel_rfl) (fun _ _ _ h => h) (Or.inl ⟨by rfl, ?_⟩) hHeld ?_
                    rotate_left
                    · (intro w' hSw; (try dsimp only at hSw); go_simp; (try with_reducible rfl))
                    simp only [List.setIfInBounds_toArray, List.set_cons_zero, List.set_cons_succ]
                    refine wpAnyH_takeD (i := 4) (oi := { dst := some 48, op := Op.binOp BinOp.lss 3 (Operand.tmp 45) (Operand.tmp 47) 3, type := 4, pos := "ref.go:15", after := #[{ on := 1, ground := Ground.data }, { on := 3, ground := Ground.data }], guard := none }) (d := 48) (v := ?_) rfl rfl (by kernel_rfl) (by kernel_rfl) (by kernel_rfl) (fun _ _ _ h => h) (Or.inl ⟨by rfl, ?_⟩) hHeld ?_
                    rotate_left
                    · (intro w' hSw; (try dsimp only at hSw); go_simp; (try with_reducible rfl))
                    simp only [List.setIfInBounds_toArray, List.set_cons_zero, List.set_cons_succ]
                    refine wpAnyH_takeD (i := 5) (oi := { dst := some 49, op := Op.move (Operand.tmp 48), type := 4, pos := "ref.go:15", after := #[{ on := 4, ground := Ground.data }], guard := none }) (d := 49) (v := ?_) rfl rfl (by kernel_rfl) (by kernel_rfl) (by kernel_rfl) (fun _ _ _ h => h) (Or.inl ⟨by rfl, ?_⟩) hHeld ?_
                    rotate_left
                    · (intro w' hSw; (try dsimp only at hSw); go_simp; (try with_reducible rfl))
                    simp only [List.setIfInBounds_toArray, List.set_cons_zero, List.set_cons_succ]
                    refine wpAnyH_takeD (i := 6) (oi := { dst := some 50, op := Op.move (Operand.tmp 7), type := 31, pos := "ref.go:15", after := #[{ on := 5, ground := Ground.guard }], guard := some (5, true) }) (d := 50) (v := ?_) rfl rfl (by kernel_rfl) (by kernel_rfl) (by kernel_rfl) (fun _ _ _ h => h) (Or.inl ⟨by rfl, ?_⟩) hHeld ?_
                    rotate_left
                    · (intro w' hSw; (try dsimp only at hSw); go_simp; (try with_reducible rfl))
                    simp only [List.setIfInBounds_toArray, List.set_cons_zero, List.set_cons_succ]
                    refine wpAnyH_takeD (i := 7) (oi := { dst := some 51, op := Op.move (Operand.tmp 11), type := 3, pos := "ref.go:15", after := #[{ on := 5, ground := Ground.guard }], guard := some (5, true) }) (d := 51) (v := ?_) rfl rfl (by kernel_rfl) (by kernel_rfl) (by kernel_rfl) (fun _ _ _ h => h) (Or.inl ⟨by rfl, ?_⟩) hHeld ?_
                    rotate_left
                    · (intro w' hSw; (try dsimp only at hSw); go_simp; (try with_reducible rfl))
                    simp only [List.setIfInBounds_toArray, List.set_cons_zero, List.set_cons_succ]
                    refine wpAnyH_takeD (i := 8) (oi := { dst := some 52, op := Op.indexAddr 31 (Operand.tmp 50) (Operand.tmp 51), type := 0, pos := "ref.go:15", after := #[{ on := 6, ground := Ground.data }, { on := 7, ground := Ground.data }, { on := 5, ground := Ground.guard }], guard := some (5, true) }) (d := 52) (v := ?_) rfl rfl (by kernel_rfl) (by kernel_rfl) (by kernel_rfl) (fun _ _ _ h => h) (Or.inl ⟨by rfl, ?_⟩) hHeld ?_
                    rotate_left
                    · (intro w' hSw; (try dsimp only at hSw); go_simp; (try with_reducible rfl))
                    simp only [List.setIfInBounds_toArray, List.set_cons_zero, List.set_cons_succ]
                    refine wpAnyH_takeD (i := 9) (oi := { dst := some 53, op := Op.load 3 (Operand.tmp 52), type := 3, pos := "ref.go:15", after := #[{ on := 8, ground := Ground.data }, { on := 5, ground := Ground.guard }], guard := some (5, true) }) (d := 53) (v := ?_) rfl rfl (by kernel_rfl) (by kernel_rfl) (by kernel_rfl) (fun _ _ _ h => h) (Or.inl ⟨by rfl, ?_⟩) hHeld ?_
                    rotate_left
                    · (intro w' hSw; (try dsimp only at hSw); go_simp; (try with_reducible rfl))
                    simp only [List.setIfInBounds_toArray, List.set_cons_zero, List.set_cons_succ]
                    refine wpAnyH_takeD (i := 10) (oi := { dst := some 54, op := Op.fieldAddr 28 (Operand.tmp 3) 1, type := 0, pos := "ref.go:15", after := #[{ on := 5, ground := Ground.guard }], guard := some (5, true) }) (d := 54) (v := ?_) rfl rfl (by kernel_rfl) (by kernel_rfl) (by kernel_rfl) (fun _ _ _ h => h) (Or.inl ⟨by rfl, ?_⟩) hHeld ?_
                    rotate_left
                    · (intro w' hSw; (try dsimp only at hSw); go_simp; (try with_reducible rfl))
                    simp only [List.setIfInBounds_toArray, List.set_cons_zero, List.set_cons_succ]
                    refine wpAnyH_takeD (i := 11) (oi := { dst := some 55, op := Op.load 26 (Operand.tmp 54), type := 26, pos := "ref.go:15", after := #[{ on := 10, ground := Ground.data }, { on := 5, ground := Ground.guard }], guard := some (5, true) }) (d := 55) (v := ?_) rfl rfl (by kernel_rfl) (by kernel_rfl) (by kernel_rfl) (fun _ _ _ h => h) (Or.inl ⟨by rfl, ?_⟩) hHeld ?_
                    rotate_left
                    · (intro w' hSw; (try dsimp only at hSw); go_simp; (try with_reducible rfl))
                    simp only [List.setIfInBounds_toArray, List.set_cons_zero, List.set_cons_succ]
                    refine wpAnyH_takeD (i := 12) (oi := { dst := some 56, op := Op.move (Operand.tmp 9), type := 3, pos := "ref.go:15", after := #[{ on := 5, ground := Ground.guard }], guard := some (5, true) }) (d := 56) (v := ?_) rfl rfl (by kernel_rfl) (by kernel_rfl) (by kernel_rfl) (fun _ _ _ h => h) (Or.inl ⟨by rfl, ?_⟩) hHeld ?_
                    rotate_left
                    · (intro w' hSw; (try dsimp only at hSw); go_simp; (try with_reducible rfl))
                    simp only [List.setIfInBounds_toArray, List.set_cons_zero, List.set_cons_succ]
                    refine wpAnyH_takeD (i := 13) (oi := { dst := some 57, op := Op.indexAddr 26 (Operand.tmp 55) (Operand.tmp 56), type := 0, pos := "ref.go:15", after := #[{ on := 11, ground := Ground.data }, { on := 12, ground := Ground.data }, { on := 5, ground := Ground.guard }], guard := some (5, true) }) (d := 57) (v := ?_) rfl rfl (by kernel_rfl) (by kernel_rfl) (by kernel_rfl) (fun _ _ _ h => h) (Or.inl ⟨by rfl, ?_⟩) hHeld ?_
                    rotate_left
                    · (intro w' hSw; (try dsimp only at hSw); go_simp; (try with_reducible rfl))
                    simp only [List.setIfInBounds_toArray, List.set_cons_zero, List.set_cons_succ]
                    refine wpAnyH_takeD (i := 14) (oi := { dst := some 58, op := Op.fieldAddr 71 (Operand.tmp 57) 0, type := 0, pos := "ref.go:15", after := #[{ on := 13, ground := Ground.data }, { on := 5, ground := Ground.guard }], guard := some (5, true) }) (d := 58) (v := ?_) rfl rfl (by kernel_rfl) (by kernel_rfl) (by kernel_rfl) (fun _ _ _ h => h) (Or.inl ⟨by rfl, ?_⟩) hHeld ?_
                    rotate_left
                    · (intro w' hSw; (try dsimp only at hSw); go_simp; (try with_reducible rfl))
                    simp only [List.setIfInBounds_toArray, List.set_cons_zero, List.set_cons_succ]
                    refine wpAnyH_takeD (i := 15) (oi := { dst := some 59, op := Op.load 3 (Operand.tmp 58), type := 3, pos := "ref.go:15", after := #[{ on := 14, ground := Ground.data }, { on := 5, ground := Ground.guard }], guard := some (5, true) }) (d := 59) (v := ?_) rfl rfl (by kernel_rfl) (by kernel_rfl) (by kernel_rfl) (fun _ _ _ h => h) (Or.inl ⟨by rfl, ?_⟩) hHeld ?_
                    rotate_left
                    · (intro w' hSw; (try dsimp only at hSw); go_simp; (try with_reducible rfl))
                    simp only [List.setIfInBounds_toArray, List.set_cons_zero, List.set_cons_succ]
                    refine wpAnyH_takeD (i := 16) (oi := { dst := some 60, op := Op.binOp BinOp.eql 3 (Operand.tmp 53) (Operand.tmp 59) 3, type := 4, pos := "ref.go:15", after := #[{ on := 9, ground := Ground.data }, { on := 15, ground := Ground.data }, { on := 5, ground := Ground.guard }], guard := some (5, true) }) (d := 60) (v := ?_) rfl rfl (by kernel_rfl) (by kernel_rfl) (by kernel_rfl) (fun _ _ _ h => h) (Or.inl ⟨by rfl, ?_⟩) hHeld ?_
                    rotate_left
                    · (intro w' hSw; (try dsimp only at hSw); go_simp; (try with_reducible rfl))
                    simp only [List.setIfInBounds_toArray, List.set_cons_zero, List.set_cons_succ]
                    refine wpAnyH_takeD (i := 17) (oi := { dst := some 61, op := Op.pick (Operand.tmp 49) (Operand.tmp 60) (Operand.const (Value.bool false)), type := 4, pos := "ref.go:15", after := #[{ on := 5, ground := Ground.data }, { on := 16, ground := Ground.data }], guard := none }) (d := 61) (v := ?_) rfl rfl (by kernel_rfl) (by kernel_rfl) (by kernel_rfl) (fun _ _ _ h => h) (Or.inl ⟨by rfl, ?_⟩) hHeld ?_
                    rotate_left
                    · (intro w' hSw; (try dsimp only at hSw); go_simp; (try with_reducible rfl))
                    simp only [List.setIfInBounds_toArray, List.set_cons_zero, List.set_cons_succ]
                    refine wpAnyH_takeD (i := 18) (oi := { dst := some 62, op := Op.move (Operand.tmp 61), type := 4, pos := "ref.go:15", after := #[{ on := 17, ground := Ground.data }, { on := 5, ground := Ground.chain }], guard := none }) (d := 62) (v := ?_) rfl rfl (by kernel_rfl) (by kernel_rfl) (by kernel_rfl) (fun _ _ _ h => h) (Or.inl ⟨by rfl, ?_⟩) hHeld ?_
                    rotate_left
                    · (intro w' hSw; (try dsimp only at hSw); go_simp; (try with_reducible rfl))
                    simp only [List.setIfInBounds_toArray, List.set_cons_zero, List.set_cons_succ]
                    refine wpAnyH_takeD (i := 19) (oi := { dst := some 63, op := Op.move (Operand.tmp 7), type := 31, pos := "ref.go:15", after := #[{ on := 18, ground := Ground.guard }], guard := some (18, true) }) (d := 63) (v := undef) rfl rfl (by kernel_rfl) (by kernel_rfl) (by kernel_rfl) (fun _ _ _ h => h) (Or.inr ⟨by rfl, rfl⟩) hHeld ?_
                    simp only [List.setIfInBounds_toArray, List.set_cons_zero, List.set_cons_succ]
                    refine wpAnyH_takeD (i := 20) (oi := { dst := some 64, op := Op.move (Operand.tmp 11), type := 3, pos := "ref.go:15", after := #[{ on := 18, ground := Ground.guard }], guard := some (18, true) }) (d := 64) (v := undef) rfl rfl (by kernel_rfl) (by kernel_rfl) (by kernel_rfl) (fun _ _ _ h => h) (Or.inr ⟨by rfl, rfl⟩) hHeld ?_
                    simp only [List.setIfInBounds_toArray, List.set_cons_zero, List.set_cons_succ]
                    refine wpAnyH_takeD (i := 21) (oi := { dst := some 65, op := Op.binOp BinOp.add 3 (Operand.tmp 64) (Operand.const (Value.int IntKind.i64 1)) 3, type := 3, pos := "ref.go:15", after := #[{ on := 20, ground := Ground.data }, { on := 18, ground := Ground.guard }], guard := some (18, true) }) (d := 65) (v := undef) rfl rfl (by kernel_rfl) (by kernel_rfl) (by kernel_rfl) (fun _ _ _ h => h) (Or.inr ⟨by rfl, rfl⟩) hHeld ?_
                    simp only [List.setIfInBounds_toArray, List.set_cons_zero, List.set_cons_succ]
                    refine wpAnyH_takeD (i := 22) (oi := { dst := some 66, op := Op.indexAddr 31 (Operand.tmp 63) (Operand.tmp 65), type := 0, pos := "ref.go:15", after := #[{ on := 19, ground := Ground.data }, { on := 21, ground := Ground.data }, { on := 18, ground := Ground.guard }], guard := some (18, true) }) (d := 66) (v := undef) rfl rfl (by kernel_rfl) (by kernel_rfl) (by kernel_rfl) (fun _ _ _ h => h) (Or.inr ⟨by rfl, rfl⟩) hHeld ?_
                    simp only [List.setIfInBounds_toArray, List.set_cons_zero, List.set_cons_succ]
                    refine wpAnyH_takeD (i := 23) (oi := { dst := some 67, op := Op.load 3 (Operand.tmp 66), type := 3, pos := "ref.go:15", after := #[{ on := 22, ground := Ground.data }, { on := 18, ground := Ground.guard }], guard := some (18, true) }) (d := 67) (v := undef) rfl rfl (by kernel_rfl) (by kernel_rfl) (by kernel_rfl) (fun _ _ _ h => h) (Or.inr ⟨by rfl, rfl⟩) hHeld ?_
                    simp only [List.setIfInBounds_toArray, List.set_cons_zero, List.set_cons_succ]
                    refine wpAnyH_takeD (i := 24) (oi := { dst := some 68, op := Op.fieldAddr 28 (Operand.tmp 3) 1, type := 0, pos := "ref.go:15", after := #[{ on := 18, ground := Ground.guard }], guard := some (18, true) }) (d := 68) (v := undef) rfl rfl (by kernel_rfl) (by kernel_rfl) (by kernel_rfl) (fun _ _ _ h => h) (Or.inr ⟨by rfl, rfl⟩) hHeld ?_
                    simp only [List.setIfInBounds_toArray, List.set_cons_zero, List.set_cons_succ]
                    refine wpAnyH_takeD (i := 25) (oi := { dst := some 69, op := Op.load 26 (Operand.tmp 68), type := 26, pos := "ref.go:15", after := #[{ on := 24, ground := Ground.data }, { on := 18, ground := Ground.guard }], guard := some (18, true) }) (d := 69) (v := undef) rfl rfl (by kernel_rfl) (by kernel_rfl) (by kernel_rfl) (fun _ _ _ h => h) (Or.inr ⟨by rfl, rfl⟩) hHeld ?_
                    simp only [List.setIfInBounds_toArray, List.set_cons_zero, List.set_cons_succ]
                    refine wpAnyH_takeD (i := 26) (oi := { dst := some 70, op := Op.move (Operand.tmp 9), type := 3, pos := "ref.go:15", after := #[{ on := 18, ground := Ground.guard }], guard := some (18, true) }) (d := 70) (v := undef) rfl rfl (by kernel_rfl) (by kernel_rfl) (by kernel_rfl) (fun _ _ _ h => h) (Or.inr ⟨by rfl, rfl⟩) hHeld ?_
                    simp only [List.setIfInBounds_toArray, List.set_cons_zero, List.set_cons_succ]
                    refine wpAnyH_takeD (i := 27) (oi := { dst := some 71, op := Op.indexAddr 26 (Operand.tmp 69) (Operand.tmp 70), type := 0, pos := "ref.go:15", after := #[{ on := 25, ground := Ground.data }, { on := 26, ground := Ground.data }, { on := 18, ground := Ground.guard }], guard := some (18, true) }) (d := 71) (v := undef) rfl rfl (by kernel_rfl) (by kernel_rfl) (by kernel_rfl) (fun _ _ _ h => h) (Or.inr ⟨by rfl, rfl⟩) hHeld ?_
                    simp only [List.setIfInBounds_toArray, List.set_cons_zero, List.set_cons_succ]
                    refine wpAnyH_takeD (i := 28) (oi := { dst := some 72, op := Op.fieldAddr 71 (Operand.tmp 71) 1, type := 0, pos := "ref.go:15", after := #[{ on := 27, ground := Ground.data }, { on := 18, ground := Ground.guard }], guard := some (18, true) }) (d := 72) (v := undef) rfl rfl (by kernel_rfl) (by kernel_rfl) (by kernel_rfl) (fun _ _ _ h => h) (Or.inr ⟨by rfl, rfl⟩) hHeld ?_
                    simp only [List.setIfInBounds_toArray, List.set_cons_zero, List.set_cons_succ]
                    refine wpAnyH_takeD (i := 29) (oi := { dst := some 73, op := Op.load 3 (Operand.tmp 72), type := 3, pos := "ref.go:15", after := #[{ on := 28, ground := Ground.data }, { on := 18, ground := Ground.guard }], guard := some (18, true) }) (d := 73) (v := undef) rfl rfl (by kernel_rfl) (by kernel_rfl) (by kernel_rfl) (fun _ _ _ h => h) (Or.inr ⟨by rfl, rfl⟩) hHeld ?_
                    simp only [List.setIfInBounds_toArray, List.set_cons_zero, List.set_cons_succ]
                    refine wpAnyH_takeD (i := 30) (oi := { dst := some 74, op := Op.binOp BinOp.eql 3 (Operand.tmp 67) (Operand.tmp 73) 3, type := 4, pos := "ref.go:15", after := #[{ on := 23, ground := Ground.data }, { on := 29, ground := Ground.data }, { on := 18, ground := Ground.guard }], guard := some (18, true) }) (d := 74) (v := undef) rfl rfl (by kernel_rfl) (by kernel_rfl) (by kernel_rfl) (fun _ _ _ h => h) (Or.inr ⟨by rfl, rfl⟩) hHeld ?_
                    simp only [List.setIfInBounds_toArray, List.set_cons_zero, List.set_cons_succ]
                    refine wpAnyH_takeD (i := 31) (oi := { dst := some 75, op := Op.pick (Operand.tmp 62) (Operand.tmp 74) (Operand.const (Value.bool false)), type := 4, pos := "ref.go:15", after := #[{ on := 18, ground := Ground.data }, { on := 30, ground := Ground.data }], guard := none }) (d := 75) (v := ?_) rfl rfl (by kernel_rfl) (by kernel_rfl) (by kernel_rfl) (fun _ _ _ h => h) (Or.inl ⟨by rfl, ?_⟩) hHeld ?_
                    rotate_left
                    · (intro w' hSw; (try dsimp only at hSw); go_simp; (try with_reducible rfl))
                    simp only [List.setIfInBounds_toArray, List.set_cons_zero, List.set_cons_succ]
                    refine wpAnyH_done (by kernel_rfl) ?_ _
                    clear hHeld m0 m1 mb l1
                    replace l0 : W2.drew.cell? ⟨b1, o1 + i, none⟩ = some (.int .i64 x) := l0
                    replace HO : Hid (W2.drew.ownsRow W.heap.size 3 1 (.slice A3 O.length c3) O.length (O.map (Value.int .i64))) := Lib.hid (own_drew HO.out)
                    replace HBO := Lib.hid HBO.out.drew
                    generalize W2.drew = W2 at *
                    go_wp2_with (at_builtin; refine app_one W.heap.size 31 3 (.int .i64 0) 1 8 [_] 1 _ _ rfl rfl Try.underlying31 info_int5 rfl (by decide) _ _ _ rfl rfl rfl (by intro u hu; simp at hu; subst hu; rfl) HO.out (by omega) (by omega) HBO.out.size ?_)
                    intro v' w6 hown hg6
                    obtain ⟨A4, c4, rfl⟩ := own_slice hown
                    have hk6 : Below W.heap.size W2 w6 := Keep.below (Keep.of_grown (F := fun g => (Value.slice A3 O.length c3).ownBlock = some g) hg6 (fun g hg => hg)) HBO.out.size (fun x hx => own_base HO.out x hx)
                    have HO6 : Hid (w6.ownsRow W.heap.size 3 1 (.slice A4 (O ++ [x]).length c4) (O ++ [x]).length ((O ++ [x]).map (Value.int .i64))) := Lib.hid (by rw [List.length_append, List.map_append]; exact hown)
                    have HB6 := Lib.hid (HBO.out.trans hk6)
                    have HL6 : Hid ((O ++ [x]).length = O.length + 1) := Lib.hid (by simp)
                    clear hown hg6 hk6
                    go_wp2_with fail
                    go_roundg (gk - 1)
                    case measure => have := HI.out; omega
                    case rel => exact ⟨i + 1, O ++ [x], A4, c4, by have := HI.out; omega, by go_num, by rw [HL6.out], HO6.out, HB6.out, HREP.out, by rw [HL6.out]; omega⟩
                · have p2 : ¬ (i : Int) + 1 < (L.length : Int) := by omega
                  have HREP : Hid (O ++ [L[i]] ++ rep a b (256 + (k : Int)) (L.drop (i + 1)) = rep a b (256 + (k : Int)) L) := Lib.hid (by rw [← HREP0.out, rep_one hlt (fun ⟨e, _⟩ => hn e)]; simp)
                  generalize L[i] = x at *
                  go_upto_region 13 with fail
                  refine wp_region_held_drew (S := fun V => V.cell? ⟨w.heap.size, 1, none⟩ = some (.slice (some ⟨ba, o, none⟩) M.length c2) ∧ V.cell? ⟨ba, o + k * 2, none⟩ = some (.int .i64 a) ∧ V.cell? ⟨ba, o + k * 2 + 1, none⟩ = some (.int .i64 b) ∧ V.cell? ⟨b1, o1 + i, none⟩ = some (.int .i64 x)) (by kernel_rfl) (by exact ⟨m1, m0, mb, l0⟩) (fun hHeld => ?_)
                  refine wpAnyH_takeD (i := 0) (oi := { dst := some 44, op := Op.move (Operand.tmp 11), type := 3, pos := "ref.go:15", after := #[], guard := none }) (d := 44) (v := ?_) rfl rfl (by kernel_rfl) (by kernel_rfl) (by kernel_rfl) (fun _ _ _ h => h) (Or.inl ⟨by rfl, ?_⟩) hHeld ?_
                  rotate_left
                  · (intro w' hSw; (try dsimp only at hSw); go_simp; (try with_reducible rfl))
                  simp only [List.setIfInBounds_toArray, List.set_cons_zero, List.set_cons_succ]
                  refine wpAnyH_takeD (i := 1) (oi := { dst := some 45, op := Op.binOp BinOp.add 3 (Operand.tmp 44) (Operand.const (Value.int IntKind.i64 1)) 3, type := 3, pos := "ref.go:15", after := #[{ on := 0, ground := Ground.data }], guard := none }) (d := 45) (v := ?_) rfl rfl (by kernel_rfl) (by kernel_rfl) (by kernel_rfl) (fun _ _ _ h => h) (Or.inl ⟨by rfl, ?_⟩) hHeld ?_
                  rotate_left
                  · (intro w' hSw; (try dsimp only at hSw); go_simp; (try with_reducible rfl))
                  simp only [List.setIfInBounds_toArray, List.set_cons_zero, List.set_cons_succ]
                  refine wpAnyH_takeD (i := 2) (oi := { dst := some 46, op := Op.move (Operand.tmp 7), type := 31, pos := "ref.go:15", after := #[], guard := none }) (d := 46) (v := ?_) rfl rfl (by kernel_rfl) (by kernel_rfl) (by kernel_rfl) (fun _ _ _ h => h) (Or.inl ⟨by rfl, ?_⟩) hHeld ?_
                  rotate_left
                  · (intro w' hSw; (try dsimp only at hSw); go_simp; (try with_reducible rfl))
                  simp only [List.setIfInBounds_toArray, List.set_cons_zero, List.set_cons_succ]
                  refine wpAnyH_takeD (i := 3) (oi := { dst := some 47, op := Op.call { callee := Callee.builtin Builtin.len, args := #[Operand.tmp 46], argTypes := #[31] }, type := 3, pos := "ref.go:15", after := #[{ on := 2, ground := Ground.data }], guard := none }) (d := 47) (v := ?_) rfl rfl (by kernel_rfl) (by kernel_rfl) (by kernel_rfl) (fun _ _ _ h => h) (Or.inl ⟨by rfl, ?_⟩) hHeld ?_
                  rotate_left
                  · (intro w' hSw; (try dsimp only at hSw); go_simp; (try with_reducible rfl))
                  simp only [List.setIfInBounds_toArray, List.set_cons_zero, List.set_cons_succ]
                  refine wpAnyH_takeD (i := 4) (oi := { dst := some 48, op := Op.binOp BinOp.lss 3 (Operand.tmp 45) (Operand.tmp 47) 3, type := 4, pos := "ref.go:15", after := #[{ on := 1, ground := Ground.data }, { on := 3, ground := Ground.data }], guard := none }) (d := 48) (v := ?_) rfl rfl (by kernel_rfl) (by kernel_rfl) (by kernel_rfl) (fun _ _ _ h => h) (Or.inl ⟨by rfl, ?_⟩) hHeld ?_
                  rotate_left
                  · (intro w' hSw; (try dsimp only at hSw); go_simp; (try with_reducible rfl))
                  simp only [List.setIfInBounds_toArray, List.set_cons_zero, List.set_cons_succ]
                  refine wpAnyH_takeD (i := 5) (oi := { dst := some 49, op := Op.move (Operand.tmp 48), type := 4, pos := "ref.go:15", after := #[{ on := 4, ground := Ground.data }], guard := none }) (d := 49) (v := ?_) rfl rfl (by kernel_rfl) (by kernel_rfl) (by kernel_rfl) (fun _ _ _ h => h) (Or.inl ⟨by rfl, ?_⟩) hHeld ?_
                  rotate_left
                  · (intro w' hSw; (try dsimp only at hSw); go_simp; (try with_reducible rfl))
                  simp only [List.setIfInBounds_toArray, List.set_cons_zero, List.set_cons_succ]
                  refine wpAnyH_takeD (i := 6) (oi := { dst := some 50, op := Op.move (Operand.tmp 7), type := 31, pos := "ref.go:15", after := #[{ on := 5, ground := Ground.guard }], guard := some (5, true) }) (d := 50) (v := undef) rfl rfl (by kernel_rfl) (by kernel_rfl) (by kernel_rfl) (fun _ _ _ h => h) (Or.inr ⟨by rfl, rfl⟩) hHeld ?_
                  simp only [List.setIfInBounds_toArray, List.set_cons_zero, List.set_cons_succ]
                  refine wpAnyH_takeD (i := 7) (oi := { dst := some 51, op := Op.move (Operand.tmp 11), type := 3, pos := "ref.go:15", after := #[{ on := 5, ground := Ground.guard }], guard := some (5, true) }) (d := 51) (v := undef) rfl rfl (by kernel_rfl) (by kernel_rfl) (by kernel_rfl) (fun _ _ _ h => h) (Or.inr ⟨by rfl, rfl⟩) hHeld ?_
                  simp only [List.setIfInBounds_toArray, List.set_cons_zero, List.set_cons_succ]
                  refine wpAnyH_takeD (i := 8) (oi := { dst := some 52, op := Op.indexAddr 31 (Operand.tmp 50) (Operand.tmp 51), type := 0, pos := "ref.go:15", after := #[{ on := 6, ground := Ground.data }, { on := 7, ground := Ground.data }, { on := 5, ground := Ground.guard }], guard := some (5, true) }) (d := 52) (v := undef) rfl rfl (by kernel_rfl) (by kernel_rfl) (by kernel_rfl) (fun _ _ _ h => h) (Or.inr ⟨by rfl, rfl⟩) hHeld ?_
                  simp only [List.setIfInBounds_toArray, List.set_cons_zero, List.set_cons_succ]
                  refine wpAnyH_takeD (i := 9) (oi := { dst := some 53, op := Op.load 3 (Operand.tmp 52), type := 3, pos := "ref.go:15", after := #[{ on := 8, ground := Ground.data }, { on := 5, ground := Ground.guard }], guard := some (5, true) }) (d := 53) (v := undef) rfl rfl (by kernel_rfl) (by kernel_rfl) (by kernel_rfl) (fun _ _ _ h => h) (Or.inr ⟨by rfl, rfl⟩) hHeld ?_
                  simp only [List.setIfInBounds_toArray, List.set_cons_zero, List.set_cons_succ]
                  refine wpAnyH_takeD (i := 10) (oi := { dst := some 54, op := Op.fieldAddr 28 (Operand.tmp 3) 1, type := 0, pos := "ref.go:15", after := #[{ on := 5, ground := Ground.guard }], guard := some (5, true) }) (d := 54) (v := undef) rfl rfl (by kernel_rfl) (by kernel_rfl) (by kernel_rfl) (fun _ _ _ h => h) (Or.inr ⟨by rfl, rfl⟩) hHeld ?_
                  simp only [List.setIfInBounds_toArray, List.set_cons_zero, List.set_cons_succ]
                  refine wpAnyH_takeD (i := 11) (oi := { dst := some 55, op := Op.load 26 (Operand.tmp 54), type := 26, pos := "ref.go:15", after := #[{ on := 10, ground := Ground.data }, { on := 5, ground := Ground.guard }], guard := some (5, true) }) (d := 55) (v := undef) rfl rfl (by kernel_rfl) (by kernel_rfl) (by kernel_rfl) (fun _ _ _ h => h) (Or.inr ⟨by rfl, rfl⟩) hHeld ?_
                  simp only [List.setIfInBounds_toArray, List.set_cons_zero, List.set_cons_succ]
                  refine wpAnyH_takeD (i := 12) (oi := { dst := some 56, op := Op.move (Operand.tmp 9), type := 3, pos := "ref.go:15", after := #[{ on := 5, ground := Ground.guard }], guard := some (5, true) }) (d := 56) (v := undef) rfl rfl (by kernel_rfl) (by kernel_rfl) (by kernel_rfl) (fun _ _ _ h => h) (Or.inr ⟨by rfl, rfl⟩) hHeld ?_
                  simp only [List.setIfInBounds_toArray, List.set_cons_zero, List.set_cons_succ]
                  refine wpAnyH_takeD (i := 13) (oi := { dst := some 57, op := Op.indexAddr 26 (Operand.tmp 55) (Operand.tmp 56), type := 0, pos := "ref.go:15", after := #[{ on := 11, ground := Ground.data }, { on := 12, ground := Ground.data }, { on := 5, ground := Ground.guard }], guard := some (5, true) }) (d := 57) (v := undef) rfl rfl (by kernel_rfl) (by kernel_rfl) (by kernel_rfl) (fun _ _ _ h => h) (Or.inr ⟨by rfl, rfl⟩) hHeld ?_
                  simp only [List.setIfInBounds_toArray, List.set_cons_zero, List.set_cons_succ]
                  refine wpAnyH_takeD (i := 14) (oi := { dst := some 58, op := Op.fieldAddr 71 (Operand.tmp 57) 0, type := 0, pos := "ref.go:15", after := #[{ on := 13, ground := Ground.data }, { on := 5, ground := Ground.guard }], guard := some (5, true) }) (d := 58) (v := undef) rfl rfl (by kernel_rfl) (by kernel_rfl) (by kernel_rfl) (fun _ _ _ h => h) (Or.inr ⟨by rfl, rfl⟩) hHeld ?_
                  simp only [List.setIfInBounds_toArray, List.set_cons_zero, List.set_cons_succ]
                  refine wpAnyH_takeD (i := 15) (oi := { dst := some 59, op := Op.load 3 (Operand.tmp 58), type := 3, pos := "ref.go:15", after := #[{ on := 14, ground := Ground.data }, { on := 5, ground := Ground.guard }], guard := some (5, true) }) (d := 59) (v := undef) rfl rfl (by kernel_rfl) (by kernel_rfl) (by kernel_rfl) (fun _ _ _ h => h) (Or.inr ⟨by rfl, rfl⟩) hHeld ?_
                  simp only [List.setIfInBounds_toArray, List.set_cons_zero, List.set_cons_succ]
                  refine wpAnyH_takeD (i := 16) (oi := { dst := some 60, op := Op.binOp BinOp.eql 3 (Operand.tmp 53) (Operand.tmp 59) 3, type := 4, pos := "ref.go:15", after := #[{ on := 9, ground := Ground.data }, { on := 15, ground := Ground.data }, { on := 5, ground := Ground.guard }], guard := some (5, true) }) (d := 60) (v := undef) rfl rfl (by kernel_rfl) (by kernel_rfl) (by kernel_rfl) (fun _ _ _ h => h) (Or.inr ⟨by rfl, rfl⟩) hHeld ?_
                  simp only [List.setIfInBounds_toArray, List.set_cons_zero, List.set_cons_succ]
                  refine wpAnyH_takeD (i := 17) (oi := { dst := some 61, op := Op.pick (Operand.tmp 49) (Operand.tmp 60) (Operand.const (Value.bool false)), type := 4, pos := "ref.go:15", after := #[{ on := 5, ground := Ground.data }, { on := 16, ground := Ground.data }], guard := none }) (d := 61) (v := ?_) rfl rfl (by kernel_rfl) (by kernel_rfl) (by kernel_rfl) (fun _ _ _ h => h) (Or.inl ⟨by rfl, ?_⟩) hHeld ?_
                  rotate_left
                  · (intro w' hSw; (try dsimp only at hSw); go_simp; (try with_reducible rfl))
                  simp only [List.setIfInBounds_toArray, List.set_cons_zero, List.set_cons_succ]
                  refine wpAnyH_takeD (i := 18) (oi := { dst := some 62, op := Op.move (Operand.tmp 61), type := 4, pos := "ref.go:15", after := #[{ on := 17, ground := Ground.data }, { on := 5, ground := Ground.chain }], guard := none }) (d := 62) (v := ?_) rfl rfl (by kernel_rfl) (by kernel_rfl) (by kernel_rfl) (fun _ _ _ h => h) (Or.inl ⟨by rfl, ?_⟩) hHeld ?_
                  rotate_left
                  · (intro w' hSw; (try dsimp only at hSw); go_simp; (try with_reducible rfl))
                  simp only [List.setIfInBounds_toArray, List.set_cons_zero, List.set_cons_succ]
                  refine wpAnyH_takeD (i := 19) (oi := { dst := some 63, op := Op.move (Operand.tmp 7), type := 31, pos := "ref.go:15", after := #[{ on := 18, ground := Ground.guard }], guard := some (18, true) }) (d := 63) (v := undef) rfl rfl (by kernel_rfl) (by kernel_rfl) (by kernel_rfl) (fun _ _ _ h => h) (Or.inr ⟨by rfl, rfl⟩) hHeld ?_
                  simp only [List.setIfInBounds_toArray, List.set_cons_zero, List.set_cons_succ]
                  refine wpAnyH_takeD (i := 20) (oi := { dst := some 64, op := Op.move (Operand.tmp 11), type := 3, pos := "ref.go:15", after := #[{ on := 18, ground := Ground.guard }], guard := some (18, true) }) (d := 64) (v := undef) rfl rfl (by kernel_rfl) (by kernel_rfl) (by kernel_rfl) (fun _ _ _ h => h) (Or.inr ⟨by rfl, rfl⟩) hHeld ?_
                  simp only [List.setIfInBounds_toArray, List.set_cons_zero, List.set_cons_succ]
                  refine wpAnyH_takeD (i := 21) (oi := { dst := some 65, op := Op.binOp BinOp.add 3 (Operand.tmp 64) (Operand.const (Value.int IntKind.i64 1)) 3, type := 3, pos := "ref.go:15", after := #[{ on := 20, ground := Ground.data }, { on := 18, ground := Ground.guard }], guard := some (18, true) }) (d := 65) (v := undef) rfl rfl (by kernel_rfl) (by kernel_rfl) (by kernel_rfl) (fun _ _ _ h => h) (Or.inr ⟨by rfl, rfl⟩) hHeld ?_
                  simp only [List.setIfInBounds_toArray, List.set_cons_zero, List.set_cons_succ]
                  refine wpAnyH_takeD (i := 22) (oi := { dst := some 66, op := Op.indexAddr 31 (Operand.tmp 63) (Operand.tmp 65), type := 0, pos := "ref.go:15", after := #[{ on := 19, ground := Ground.data }, { on := 21, ground := Ground.data }, { on := 18, ground := Ground.guard }], guard := some (18, true) }) (d := 66) (v := undef) rfl rfl (by kernel_rfl) (by kernel_rfl) (by kernel_rfl) (fun _ _ _ h => h) (Or.inr ⟨by rfl, rfl⟩) hHeld ?_
                  simp only [List.setIfInBounds_toArray, List.set_cons_zero, List.set_cons_succ]
                  refine wpAnyH_takeD (i := 23) (oi := { dst := some 67, op := Op.load 3 (Operand.tmp 66), type := 3, pos := "ref.go:15", after := #[{ on := 22, ground := Ground.data }, { on := 18, ground := Ground.guard }], guard := some (18, true) }) (d := 67) (v := undef) rfl rfl (by kernel_rfl) (by kernel_rfl) (by kernel_rfl) (fun _ _ _ h => h) (Or.inr ⟨by rfl, rfl⟩) hHeld ?_
                  simp only [List.setIfInBounds_toArray, List.set_cons_zero, List.set_cons_succ]
                  refine wpAnyH_takeD (i := 24) (oi := { dst := some 68, op := Op.fieldAddr 28 (Operand.tmp 3) 1, type := 0, pos := "ref.go:15", after := #[{ on := 18, ground := Ground.guard }], guard := some (18, true) }) (d := 68) (v := undef) rfl rfl (by kernel_rfl) (by kernel_rfl) (by kernel_rfl) (fun _ _ _ h => h) (Or.inr ⟨by rfl, rfl⟩) hHeld ?_
                  simp only [List.setIfInBounds_toArray, List.set_cons_zero, List.set_cons_succ]
                  refine wpAnyH_takeD (i := 25) (oi := { dst := some 69, op := Op.load 26 (Operand.tmp 68), type := 26, pos := "ref.go:15", after := #[{ on := 24, ground := Ground.data }, { on := 18, ground := Ground.guard }], guard := some (18, true) }) (d := 69) (v := undef) rfl rfl (by kernel_rfl) (by kernel_rfl) (by kernel_rfl) (fun _ _ _ h => h) (Or.inr ⟨by rfl, rfl⟩) hHeld ?_
                  simp only [List.setIfInBounds_toArray, List.set_cons_zero, List.set_cons_succ]
                  refine wpAnyH_takeD (i := 26) (oi := { dst := some 70, op := Op.move (Operand.tmp 9), type := 3, pos := "ref.go:15", after := #[{ on := 18, ground := Ground.guard }], guard := some (18, true) }) (d := 70) (v := undef) rfl rfl (by kernel_rfl) (by kernel_rfl) (by kernel_rfl) (fun _ _ _ h => h) (Or.inr ⟨by rfl, rfl⟩) hHeld ?_
                  simp only [List.setIfInBounds_toArray, List.set_cons_zero, List.set_cons_succ]
                  refine wpAnyH_takeD (i := 27) (oi := { dst := some 71, op := Op.indexAddr 26 (Operand.tmp 69) (Operand.tmp 70), type := 0, pos := "ref.go:15", after := #[{ on := 25, ground := Ground.data }, { on := 26, ground := Ground.data }, { on := 18, ground := Ground.guard }], guard := some (18, true) }) (d := 71) (v := undef) rfl rfl (by kernel_rfl) (by kernel_rfl) (by kernel_rfl) (fun _ _ _ h => h) (Or.inr ⟨by rfl, rfl⟩) hHeld ?_
                  simp only [List.setIfInBounds_toArray, List.set_cons_zero, List.set_cons_succ]
                  refine wpAnyH_takeD (i := 28) (oi := { dst := some 72, op := Op.fieldAddr 71 (Operand.tmp 71) 1, type := 0, pos := "ref.go:15", after := #[{ on := 27, ground := Ground.data }, { on := 18, ground := Ground.guard }], guard := some (18, true) }) (d := 72) (v := undef) rfl rfl (by kernel_rfl) (by kernel_rfl) (by kernel_rfl) (fun _ _ _ h => h) (Or.inr ⟨by rfl, rfl⟩) hHeld ?_
                  simp only [List.setIfInBounds_toArray, List.set_cons_zero, List.set_cons_succ]
                  refine wpAnyH_takeD (i := 29) (oi := { dst := some 73, op := Op.load 3 (Operand.tmp 72), type := 3, pos := "ref.go:15", after := #[{ on := 28, ground := Ground.data }, { on := 18, ground := Ground.guard }], guard := some (18, true) }) (d := 73) (v := undef) rfl rfl (by kernel_rfl) (by kernel_rfl) (by kernel_rfl) (fun _ _ _ h => h) (Or.inr ⟨by rfl, rfl⟩) hHeld ?_
                  simp only [List.setIfInBounds_toArray, List.set_cons_zero, List.set_cons_succ]
                  refine wpAnyH_takeD (i := 30) (oi := { dst := some 74, op := Op.binOp BinOp.eql 3 (Operand.tmp 67) (Operand.tmp 73) 3, type := 4, pos := "ref.go:15", after := #[{ on := 23, ground := Ground.data }, { on := 29, ground := Ground.data }, { on := 18, ground := Ground.guard }], guard := some (18, true) }) (d := 74) (v := undef) rfl rfl (by kernel_rfl) (by kernel_rfl) (by kernel_rfl) (fun _ _ _ h => h) (Or.inr ⟨by rfl, rfl⟩) hHeld ?_
                  simp only [List.setIfInBounds_toArray, List.set_cons_zero, List.set_cons_succ]
                  refine wpAnyH_takeD (i := 31) (oi := { dst := some 75, op := Op.pick (Operand.tmp 62) (Operand.tmp 74) (Operand.const (Value.bool false)), type := 4, pos := "ref.go:15", after := #[{ on := 18, ground := Ground.data }, { on := 30, ground := Ground.data }], guard := none }) (d := 75) (v := ?_) rfl rfl (by kernel_rfl) (by kernel_rfl) (by kernel_rfl) (fun _ _ _ h => h) (Or.inl ⟨by rfl, ?_⟩) hHeld ?_
                  rotate_left
                  · (intro w' hSw; (try dsimp only at hSw); go_simp; (try with_reducible rfl))
                  simp only [List.setIfInBounds_toArray, List.set_cons_zero, List.set_cons_succ]
                  refine wpAnyH_done (by kernel_rfl) ?_ _
                  clear hHeld m0 m1 mb
                  replace l0 : W2.drew.cell? ⟨b1, o1 + i, none⟩ = some (.int .i64 x) := l0
                  replace HO : Hid (W2.drew.ownsRow W.heap.size 3 1 (.slice A3 O.length c3) O.length (O.map (Value.int .i64))) := Lib.hid (own_drew HO.out)
                  replace HBO := Lib.hid HBO.out.drew
                  generalize W2.drew = W2 at *
                  go_wp2_with (at_builtin; refine app_one W.heap.size 31 3 (.int .i64 0) 1 8 [_] 1 _ _ rfl rfl Try.underlying31 info_int5 rfl (by decide) _ _ _ rfl rfl rfl (by intro u hu; simp at hu; subst hu; rfl) HO.out (by omega) (by omega) HBO.out.size ?_)
                  intro v' w6 hown hg6
                  obtain ⟨A4, c4, rfl⟩ := own_slice hown
                  have hk6 : Below W.heap.size W2 w6 := Keep.below (Keep.of_grown (F := fun g => (Value.slice A3 O.length c3).ownBlock = some g) hg6 (fun g hg => hg)) HBO.out.size (fun x hx => own_base HO.out x hx)
                  have HO6 : Hid (w6.ownsRow W.heap.size 3 1 (.slice A4 (O ++ [x]).length c4) (O ++ [x]).length ((O ++ [x]).map (Value.int .i64))) := Lib.hid (by rw [List.length_append, List.map_append]; exact hown)
                  have HB6 := Lib.hid (HBO.out.trans hk6)
                  have HL6 : Hid ((O ++ [x]).length = O.length + 1) := Lib.hid (by simp)
                  clear hown hg6 hk6
                  go_wp2_with fail
                  go_roundg (gk - 1)
                  case measure => have := HI.out; omega
                  case rel => exact ⟨i + 1, O ++ [x], A4, c4, by have := HI.out; omega, by go_num, by rw [HL6.out], HO6.out, HB6.out, HREP.out, by rw [HL6.out]; omega⟩
              · have hie : i = L.length := by omega
                subst hie
                have HNL : Hid (O = rep a b (256 + (k : Int)) L) := Lib.hid (by have := HREP0.out; rw [List.drop_length] at this; simpa [rep] using this)
                have HNEW : Hid (REn W0 W2 (.slice A3 O.length c3) O) := Lib.hid ⟨⟨A3, c3, rfl, own_less HO.out HREN.out.bl.size⟩, HREN.out.bl.trans (HBO.out.mono HREN.out.bl.size)⟩
                have HSQ2 : Hid (seqE (MB.drop (k + 1)) (256 + ((k + 1 : Nat) : Int)) O = E0) := Lib.hid (by rw [HNL.out, ← HNX.out]; exact HSQ.out)
                clear hi
                go_wp2_with fail
                go_roundg (M.length - (k + 1))
                case measure => have := HK.out; omega
                case rel => exact ⟨k + 1, O, A3, c3, by have := HK.out; omega, by go_num, rfl, HNEW.out, HSQ2.out, Nat.le_trans hol HLS.out⟩
          · have HFIN : Hid (L = E0) := Lib.hid (by rw [← HSQ.out]; exact (HALL.out k L (.inr (by omega))).symm)
            go_wp2_with fail
            go_ret
            exact ⟨⟨_, rfl, by rw [HEE.out, ← HFIN.out]; exact ints_less HREN.out.row (Nat.le_of_lt HG0.out)⟩, HB.out.trans (HREN.out.bl.mono (Nat.le_of_lt HG0.out))⟩
        · have q1 : ¬ (k : Int) < (M.length : Int) := by omega
          have HFIN : Hid (L = E0) := Lib.hid (by rw [← HSQ.out]; exact (HALL.out k L (.inl (by omega))).symm)
          go_wp2_with fail
          go_ret
          exact ⟨⟨_, rfl, by rw [HEE.out, ← HFIN.out]; exact ints_less HREN.out.row (Nat.le_of_lt HG0.out)⟩, HB.out.trans (HREN.out.bl.mono (Nat.le_of_lt HG0.out))⟩
end
end Go.Proofs.Ytpkmcokkapfnmaa
/- Layer 5 (chain): the document's answer: All, Bytes. -/
namespace Go.Proofs.Ytpkmcokkapfnmaa
open Go.RowKit Go.Maps Go.WideMaps
set_option maxRecDepth 100000
set_option linter.unusedVariables false
set_option linter.unusedSimpArgs false

/-- append of a text's bytes, at the operation -/
theorem wp_app_str {P : Program} {w : World} {o : Oper} {a : Act} {K : Act → World → Prop} {Q : Exit → Act → World → Prop} (sl x : Operand) (t u : TypeId)
    (ho : o.op = .call { callee := .builtin .append, args := #[sl, x], argTypes := #[t, u] })
    (base : Nat) (e : TypeId) (ht : P.underlying t = some (.slice e)) (hu : P.underlying u = some .string) (hinfo : (P.info? e).map (fun i => (i.zero, i.size, i.bytes)) = some (some (.int .u8 0), 1, 1))
    (v : Value) (n : Nat) (xs : List Value) (hs : a.eval sl = v) (hown : w.ownsRow base e 1 v n xs) (s : ByteArray) (hx : a.eval x = .string s)
    (hbytes : n + s.size ≤ 140737488355328) (hbase : base ≤ w.heap.size)
    (h : ∀ v' w', w'.ownsRow base e 1 v' (n + s.size) (xs ++ Lib.strCells s) → w.grownBy w' v.ownBlock → K (a.put o.dst v') w') : Oper.wp P o a w K Q := by
  obtain ⟨i, hi, hz0, hz1, hz2⟩ := info_parts hinfo
  obtain ⟨v', w', hr, h2, h3, h4⟩ := Lib.run_append_own_string (P := P) w base t u o.type e i ht hu hi hz0 hz1 hz2 v n xs hown s (by unfold maxLen; omega) hbytes hbase
  unfold Oper.wp execOp
  simp only [ho, resolve, invoke, builtin, Sem.run_bind, Sem.run_pure, Result.andThen_ok, List.map_toArray, List.map_cons, List.map_nil, hs, hx, hr]
  exact h v' w' h2 h3
/-- bytes as cells -/
def bytesV (x : List UInt8) : List Value := x.map fun b => Value.int .u8 b.toNat
theorem strCells_bs (x : List UInt8) : Lib.strCells (bs x) = bytesV x := rfl
theorem info_u8 : (Try.prog.info? 5).map (fun i => (i.zero, i.size, i.bytes)) = some (some (.int .u8 0), 1, 1) := by kernel_rfl
/-- the text of bytes that the call owns -/
theorem conv_own {w : World} {base n : Nat} {v : Value} {x : List UInt8} (h : w.ownsRow base 5 1 v n (bytesV x)) : (convert 79 9 v).run Try.prog w = .ok (.string (bs x)) w := by
  have hl := h.1
  rw [Nat.mul_one] at hl
  have hl2 : x.length = n := by rw [← hl]; simp [bytesV]
  rcases h.2 with ⟨rfl, rfl⟩ | ⟨g, cap, cur, rfl, _⟩
  · have : x = [] := List.eq_nil_of_length_eq_zero hl2
    subst this
    simp [go_sem, bs]
    rfl
  · have := run_convert_bytes_back (P := Try.prog) w 79 9 5 ⟨g, 0, none⟩ cap x Try.underlying79 Try.underlying5 Try.underlying9 (fun j hj => by
      have := h.cells (g := g) rfl j (.int .u8 (x[j]).toNat) (by simp [bytesV, hj])
      exact this)
    rw [hl2] at this
    exact this
/-- the bytes of tokens -/
def catT (T : List Ent) (l : List Int) : List UInt8 := l.flatMap (bytesT T)
theorem catT_snoc (T : List Ent) (l : List Int) (x : Int) : catT T (l ++ [x]) = catT T l ++ bytesT T x := by simp [catT]
theorem catT_le {T : List Ent} (h : OkT T) (l : List Int) : (catT T l).length ≤ 64 * l.length := by
  induction l with
  | nil => simp [catT]
  | cons x l ih =>
    have := bytesT_le h x
    have e : catT T (x :: l) = bytesT T x ++ catT T l := by simp [catT]
    rw [e, List.length_append, List.length_cons]
    omega
section
variable {w w' : World} {base : Nat} {T : List Ent} {vb vm : Value}
theorem rall_any (h : RefIs w base T vb vm) (hT : OkT T) (s : ByteArray) (hs : s.size ≤ 100000000) :
    Calls Try.prog 15 #[.agg #[vb, vm], .string s] w fun e w' => (∃ v, e = .returned v ∧ IntsIs w' w.heap.size v (encT T T.length s.data.toList)) ∧ Below w.heap.size w w' := by
  obtain ⟨A, c, rfl⟩ := own_slice h.row
  obtain ⟨A2, c2, hvm⟩ := own_slice h.mrg
  subst hvm
  have hb0 := (Below.refl w.heap.size w).alloc (Nat.le_refl _) (.cells #[.slice A T.length c, .slice A2 (mrgsT T).length c2] 28)
  have n0 := blk_cell (blk_new w (.cells #[.slice A T.length c, .slice A2 (mrgsT T).length c2] 28)) 0
  have n1 := blk_cell (blk_new w (.cells #[.slice A T.length c, .slice A2 (mrgsT T).length c2] 28)) 1
  simp only [List.getElem?_toArray, List.getElem?_cons_zero, List.getElem?_cons_succ] at n0 n1
  have HB := Lib.hid hb0
  have HC := Lib.hid (renc_any (h.below hb0 (Nat.le_refl _)) hT s hs (T.length : Int))
  clear hb0 h hT
  go_enter Try.func15, Try.ntmps15
  go_wp2_with fail
  refine HC.out.mono ?_
  rintro e w2 ⟨⟨v, rfl, hv⟩, hb⟩
  have HV := Lib.hid (ints_less hv HB.out.size)
  have HB2 := Lib.hid (HB.out.trans (hb.mono HB.out.size))
  clear hv hb HC
  go_wp2_with fail
  go_ret
  exact ⟨⟨v, rfl, HV.out⟩, HB2.out⟩
set_option maxHeartbeats 4000000 in
theorem rbytes_any (h : RefIs w base T vb vm) (hT : OkT T) (l : List Int) (A1 : Option Addr) (d : Nat) (hl : Sl1 w A1 (Value.int .i64) l) (hz : l.length ≤ 100000000) (hall : ∀ x ∈ l, hasT T x = true) :
    Calls Try.prog 19 #[.agg #[vb, vm], .slice A1 l.length d] w fun e w' => e = .returned (.tuple #[.string (bs (catT T l)), .bool true]) ∧ Below w.heap.size w w' := by
  obtain ⟨A, c, rfl⟩ := own_slice h.row
  obtain ⟨A2, c2, hvm⟩ := own_slice h.mrg
  subst hvm
  have hb0 := (Below.refl w.heap.size w).alloc (Nat.le_refl _) (.cells #[.slice A T.length c, .slice A2 (mrgsT T).length c2] 28)
  have n0 := blk_new w (.cells #[.slice A T.length c, .slice A2 (mrgsT T).length c2] 28)
  have HB := Lib.hid hb0
  have HN := Lib.hid n0
  have HR := Lib.hid (h.below hb0 (Nat.le_refl _))
  have HL := Lib.hid (hl.below hb0 (Nat.le_refl _))
  have HALL := Lib.hid hall
  have hsm := hT.small
  have HCL := Lib.hid (fun l => catT_le hT l)
  have HBL := Lib.hid (fun x => bytesT_le hT x)
  clear hb0 n0 h hl hT hall
  go_enter Try.func19, Try.ntmps19
  go_wp2_with fail
  generalize w.alloc (.cells #[.slice A T.length c, .slice A2 (mrgsT T).length c2] 28) = W0 at *
  go_loopg [6, 7] l.length (fun n u i W => ∃ k A3 n3 c3, k + n = l.length ∧ i = .int .i64 ((k : Nat) : Int) ∧ u = .slice A3 n3 c3 ∧ n3 = (catT T (l.take k)).length ∧ W.ownsRow W0.heap.size 5 1 (.slice A3 n3 c3) n3 (bytesV (catT T (l.take k))) ∧ Below W0.heap.size W0 W)
  case atStart => exact ⟨0, none, 0, 0, by omega, rfl, rfl, rfl, own_nil _ _ _ _, Below.refl _ _⟩
  case round =>
    obtain ⟨k, A3, n3, c3, hk, rfl, rfl, hn3, hrow, hbl⟩ := hrel
    rename World => W
    have HK := Lib.hid hk
    have HN3 := Lib.hid hn3
    have HROW := Lib.hid hrow
    have HBL2 := Lib.hid hbl
    have hn4 : n3 ≤ 64 * l.length := by
      have := HCL.out (l.take k)
      have h2 : (l.take k).length ≤ l.length := by rw [List.length_take]; omega
      omega
    clear hn3 hrow hbl
    by_cases hlt : k < l.length
    · have p0 : (0 : Int) ≤ (k : Int) := by omega
      have p1 : (k : Int) < (l.length : Int) := by omega
      have w2 : IntKind.i64.wrap ((k : Int) + 1) = (k : Int) + 1 := IntWalk.i64_in _ (by omega)
      obtain ⟨b1, o1, hA, c1⟩ := (HL.out.below HBL2.out (Nat.le_refl _)).at k hlt
      subst hA
      have HTK := Lib.hid (take_snoc hlt)
      obtain ⟨j, hj, hjl, hje⟩ := hasT_at (HALL.out l[k] (List.getElem_mem hlt))
      have HX := Lib.hid (HALL.out l[k] (List.getElem_mem hlt))
      generalize l[k] = x at *
      subst hj
      have p2 : (0 : Int) ≤ (j : Int) := by omega
      have p3 : (j : Int) < (T.length : Int) := by omega
      have hrw := HR.out.below HBL2.out (Nat.le_refl _)
      have HRW := Lib.hid hrw
      have hj2 : j < (bytsT T).length := by unfold bytsT; rw [List.length_map]; exact hjl
      obtain ⟨bb, ob, hAA, cb⟩ := (own_sl1 (enc := strV) (by simpa [bytsT] using hrw.row)).at j hj2
      subst hAA
      have HBY : Hid ((bytsT T)[j] = bytesT T (j : Int)) := Lib.hid (by unfold bytesT; rw [if_pos HX.out, hje]; simp [bytsT])
      rw [HBY.out] at cb
      have hnw := blk_below HBL2.out (blk_lt HN.out) HN.out
      have g0 := blk_cell hnw 0
      have g1 := blk_cell hnw 1
      simp only [List.getElem?_toArray, List.getElem?_cons_zero, List.getElem?_cons_succ] at g0 g1
      have HBB : Hid (Below W.heap.size W W.drew) := Lib.hid ⟨rfl, rfl, rfl, Nat.le_refl _, fun _ _ => rfl⟩
      have HSC : Hid (∀ V, Below W.heap.size W V → V.cell? ⟨w.heap.size, 0, none⟩ = some (.slice (some ⟨bb, ob, none⟩) T.length c) ∧ V.cell? ⟨w.heap.size, 1, none⟩ = some (.slice A2 (mrgsT T).length c2) ∧ V.cell? ⟨b1, o1 + k, none⟩ = some (.int .i64 (j : Int)) ∧ V.cell? ⟨bb, ob + j, none⟩ = some (strV (bytesT T (j : Int)))) := Lib.hid (fun V hV => ⟨below_cell hV (Nat.le_refl _) g0, below_cell hV (Nat.le_refl _) g1, below_cell hV (Nat.le_refl _) c1, below_cell hV (Nat.le_refl _) cb⟩)
      clear HBY hk hje hrw hj2 hnw
      go_upto_region 5 with fail
      refine wp_region_D (Ds := []) (S := fun V => V.cell? ⟨w.heap.size, 0, none⟩ = some (.slice (some ⟨bb, ob, none⟩) T.length c) ∧ V.cell? ⟨w.heap.size, 1, none⟩ = some (.slice A2 (mrgsT T).length c2) ∧ V.cell? ⟨b1, o1 + k, none⟩ = some (.int .i64 (j : Int)) ∧ V.cell? ⟨bb, ob + j, none⟩ = some (strV (bytesT T (j : Int)))) (by kernel_rfl) (by exact HSC.out _ HBB.out) (fun hHeld => ?_)
      refine wpAnyD_takeP (i := 1) (oi := { dst := some 15, op := Op.move (Operand.tmp 1), type := 31, pos := "ref.go:34", after := #[], guard := none }) (d := 15) (v := ?_) rfl rfl (by kernel_rfl) (by kernel_rfl) (by kernel_rfl) (fun _ _ _ h => h) (Or.inl ⟨by rfl, ?_⟩) ?_
      rotate_left
      · (intro w' _; go_simp; (try with_reducible rfl))
      simp only [List.setIfInBounds_toArray, List.set_cons_zero, List.set_cons_succ]
      refine wpAnyD_takeP (i := 2) (oi := { dst := some 16, op := Op.move (Operand.tmp 7), type := 3, pos := "ref.go:34", after := #[], guard := none }) (d := 16) (v := ?_) rfl rfl (by kernel_rfl) (by kernel_rfl) (by kernel_rfl) (fun _ _ _ h => h) (Or.inl ⟨by rfl, ?_⟩) ?_
      rotate_left
      · (intro w' _; go_simp; (try with_reducible rfl))
      simp only [List.setIfInBounds_toArray, List.set_cons_zero, List.set_cons_succ]
      refine wpAnyD_takeP (i := 3) (oi := { dst := some 17, op := Op.indexAddr 31 (Operand.tmp 15) (Operand.tmp 16), type := 0, pos := "ref.go:34", after := #[{ on := 1, ground := Ground.data }, { on := 2, ground := Ground.data }], guard := none }) (d := 17) (v := ?_) rfl rfl (by kernel_rfl) (by kernel_rfl) (by kernel_rfl) (fun _ _ _ h => h) (Or.inl ⟨by rfl, ?_⟩) ?_
      rotate_left
      · (intro w' _; go_simp; (try with_reducible rfl))
      simp only [List.setIfInBounds_toArray, List.set_cons_zero, List.set_cons_succ]
      refine wpAnyD_takeD (i := 0) (oi := { dst := some 14, op := Op.load 28 (Operand.tmp 2), type := 28, pos := "ref.go:34", after := #[], guard := none }) (d := 14) (v := ?_) rfl rfl (by kernel_rfl) (by kernel_rfl) (by kernel_rfl) (by kernel_rfl) (fun _ _ _ h => h) (Or.inl ⟨by rfl, ?_⟩) hHeld ?_
      rotate_left
      · (intro w' hSw; (try dsimp only at hSw); go_simp; (try with_reducible rfl))
      simp only [List.setIfInBounds_toArray, List.set_cons_zero, List.set_cons_succ]
      refine wpAnyD_takeD (i := 4) (oi := { dst := some 18, op := Op.load 3 (Operand.tmp 17), type := 3, pos := "ref.go:34", after := #[{ on := 3, ground := Ground.data }], guard := none }) (d := 18) (v := ?_) rfl rfl (by kernel_rfl) (by kernel_rfl) (by kernel_rfl) (by kernel_rfl) (fun _ _ _ h => h) (Or.inl ⟨by rfl, ?_⟩) hHeld ?_
      rotate_left
      · (intro w' hSw; (try dsimp only at hSw); go_simp; (try with_reducible rfl))
      simp only [List.setIfInBounds_toArray, List.set_cons_zero, List.set_cons_succ]
      refine wpAnyD_one (i := 5) (o := { dst := some 19, op := Op.call { callee := Callee.value (Operand.func 40), args := #[Operand.tmp 14, Operand.tmp 18], argTypes := #[28, 3] }, type := 4, pos := "ref.go:34", after := #[{ on := 0, ground := Ground.data }, { on := 4, ground := Ground.data }], guard := none }) (by kernel_rfl) rfl (by rfl) (fun K hK => ?_)
      go_simp; refine (rhas_any (j : Int) (HRW.out.below HBB.out (Nat.le_refl _))).mono ?_; rintro e w' ⟨rfl, hb'⟩; have HBB := Lib.hid (HBB.out.trans (hb'.mono HBB.out.size)); have h := HSC.out _ HBB.out; clear hb'; rw [HX.out]; go_simp
      refine hK.out _ _ h (fun hHeld => ?_)
      clear hK K
      try simp only [Act.put, List.setIfInBounds_toArray, List.set_cons_zero, List.set_cons_succ]
      refine wpAnyD_takeP (i := 6) (oi := { dst := some 20, op := Op.unOp UnOp.not 4 (Operand.tmp 19), type := 4, pos := "ref.go:34", after := #[{ on := 5, ground := Ground.data }], guard := none }) (d := 20) (v := ?_) rfl rfl (by kernel_rfl) (by kernel_rfl) (by kernel_rfl) (fun _ _ _ h => h) (Or.inl ⟨by rfl, ?_⟩) ?_
      rotate_left
      · (intro w' _; go_simp; (try with_reducible rfl))
      simp only [List.setIfInBounds_toArray, List.set_cons_zero, List.set_cons_succ]
      refine wpAnyD_done (by kernel_rfl) ?_ _
      clear hHeld h g0 g1 c1 cb
      have HR5 := Lib.hid (own_below HROW.out HBB.out (Nat.le_refl _))
      have HB5 := Lib.hid (HBL2.out.trans (HBB.out.mono HBL2.out.size))
      obtain ⟨g0, g1, c1, cb⟩ := HSC.out _ HBB.out
      go_upto_region 7 with fail
      clear g1
      have hsz : (bs (bytesT T (j : Int))).size ≤ 64 := by rw [bs_size]; exact HBL.out _
      unfold strV at cb
      have HSB := Lib.hid (strCells_bs (bytesT T (j : Int)))
      have HSS : Hid ((bs (bytesT T (j : Int))).size = (bytesT T (j : Int)).length) := Lib.hid (bs_size _)
      generalize bs (bytesT T (j : Int)) = Z at *
      refine wp_region_D (Ds := [9]) (S := fun V => V.cell? ⟨w.heap.size, 0, none⟩ = some (.slice (some ⟨bb, ob, none⟩) T.length c) ∧ V.cell? ⟨b1, o1 + k, none⟩ = some (.int .i64 (j : Int)) ∧ V.cell? ⟨bb, ob + j, none⟩ = some (.string Z)) (by kernel_rfl) (by exact ⟨g0, c1, cb⟩) (fun hHeld => ?_)
      (replace HB5 := Lib.hid HB5.out.drew); (replace HR5 := Lib.hid (own_drew HR5.out)); clear g0 c1 cb; generalize w'.drew = W6 at *
      refine wpAnyD_takeP (i := 0) (oi := { dst := some 21, op := Op.move (Operand.tmp 6), type := 79, pos := "ref.go:37", after := #[], guard := none }) (d := 21) (v := ?_) rfl rfl (by kernel_rfl) (by kernel_rfl) (by kernel_rfl) (fun _ _ _ h => h) (Or.inl ⟨by rfl, ?_⟩) ?_
      rotate_left
      · (intro w' _; go_simp; (try with_reducible rfl))
      simp only [List.setIfInBounds_toArray, List.set_cons_zero, List.set_cons_succ]
      refine wpAnyD_takeP (i := 1) (oi := { dst := some 22, op := Op.fieldAddr 28 (Operand.tmp 2) 0, type := 0, pos := "ref.go:37", after := #[], guard := none }) (d := 22) (v := ?_) rfl rfl (by kernel_rfl) (by kernel_rfl) (by kernel_rfl) (fun _ _ _ h => h) (Or.inl ⟨by rfl, ?_⟩) ?_
      rotate_left
      · (intro w' _; go_simp; (try with_reducible rfl))
      simp only [List.setIfInBounds_toArray, List.set_cons_zero, List.set_cons_succ]
      refine wpAnyD_takeP (i := 3) (oi := { dst := some 24, op := Op.move (Operand.tmp 1), type := 31, pos := "ref.go:37", after := #[], guard := none }) (d := 24) (v := ?_) rfl rfl (by kernel_rfl) (by kernel_rfl) (by kernel_rfl) (fun _ _ _ h => h) (Or.inl ⟨by rfl, ?_⟩) ?_
      rotate_left
      · (intro w' _; go_simp; (try with_reducible rfl))
      simp only [List.setIfInBounds_toArray, List.set_cons_zero, List.set_cons_succ]
      refine wpAnyD_takeP (i := 4) (oi := { dst := some 25, op := Op.move (Operand.tmp 7), type := 3, pos := "ref.go:37", after := #[], guard := none }) (d := 25) (v := ?_) rfl rfl (by kernel_rfl) (by kernel_rfl) (by kernel_rfl) (fun _ _ _ h => h) (Or.inl ⟨by rfl, ?_⟩) ?_
      rotate_left
      · (intro w' _; go_simp; (try with_reducible rfl))
      simp only [List.setIfInBounds_toArray, List.set_cons_zero, List.set_cons_succ]
      refine wpAnyD_takeP (i := 5) (oi := { dst := some 26, op := Op.indexAddr 31 (Operand.tmp 24) (Operand.tmp 25), type := 0, pos := "ref.go:37", after := #[{ on := 3, ground := Ground.data }, { on := 4, ground := Ground.data }], guard := none }) (d := 26) (v := ?_) rfl rfl (by kernel_rfl) (by kernel_rfl) (by kernel_rfl) (fun _ _ _ h => h) (Or.inl ⟨by rfl, ?_⟩) ?_
      rotate_left
      · (intro w' _; go_simp; (try with_reducible rfl))
      simp only [List.setIfInBounds_toArray, List.set_cons_zero, List.set_cons_succ]
      refine wpAnyD_two (i := 2) (j := 6) (oi := { dst := some 23, op := Op.load 25 (Operand.tmp 22), type := 25, pos := "ref.go:37", after := #[{ on := 1, ground := Ground.data }], guard := none }) (oj := { dst := some 27, op := Op.load 3 (Operand.tmp 26), type := 3, pos := "ref.go:37", after := #[{ on := 5, ground := Ground.data }], guard := none }) (by kernel_rfl) rfl rfl (by rfl) (by rfl) (fun K hK => ?_) (fun K hK => ?_)
      ·
        go_simp
        refine hK.out _ _ hHeld (fun hHeld => ?_)
        clear hK K
        try simp only [Act.put, List.setIfInBounds_toArray, List.set_cons_zero, List.set_cons_succ]
        refine wpAnyD_one (i := 6) (o := { dst := some 27, op := Op.load 3 (Operand.tmp 26), type := 3, pos := "ref.go:37", after := #[{ on := 5, ground := Ground.data }], guard := none }) (by kernel_rfl) rfl (by rfl) (fun K hK => ?_)
        go_simp
        refine hK.out _ _ hHeld (fun hHeld => ?_)
        clear hK K
        try simp only [Act.put, List.setIfInBounds_toArray, List.set_cons_zero, List.set_cons_succ]
        refine wpAnyD_takeP (i := 7) (oi := { dst := some 28, op := Op.indexAddr 25 (Operand.tmp 23) (Operand.tmp 27), type := 0, pos := "ref.go:37", after := #[{ on := 2, ground := Ground.data }, { on := 6, ground := Ground.data }], guard := none }) (d := 28) (v := ?_) rfl rfl (by kernel_rfl) (by kernel_rfl) (by kernel_rfl) (fun _ _ _ h => h) (Or.inl ⟨by rfl, ?_⟩) ?_
        rotate_left
        · (intro w' _; go_simp; (try with_reducible rfl))
        simp only [List.setIfInBounds_toArray, List.set_cons_zero, List.set_cons_succ]
        refine wpAnyD_takeD (i := 8) (oi := { dst := some 29, op := Op.load 9 (Operand.tmp 28), type := 9, pos := "ref.go:37", after := #[{ on := 7, ground := Ground.data }], guard := none }) (d := 29) (v := ?_) rfl rfl (by kernel_rfl) (by kernel_rfl) (by kernel_rfl) (by kernel_rfl) (fun _ _ _ h => h) (Or.inl ⟨by rfl, ?_⟩) hHeld ?_
        rotate_left
        · (intro w' hSw; (try dsimp only at hSw); go_simp; (try with_reducible rfl))
        simp only [List.setIfInBounds_toArray, List.set_cons_zero, List.set_cons_succ]
        refine wpAnyD_last (D := 9) (by decide) (o := { dst := some 30, op := Op.call { callee := Callee.builtin Builtin.append, args := #[Operand.tmp 21, Operand.tmp 29], argTypes := #[79, 9] }, type := 79, pos := "ref.go:37", after := #[{ on := 0, ground := Ground.data }, { on := 8, ground := Ground.data }], guard := none }) (by kernel_rfl) rfl (by rfl) (fun K hK => ?_)
        refine wp_app_str (.tmp 21) (.tmp 29) 79 9 (by rfl) W0.heap.size 5 Try.underlying79 Try.underlying9 info_u8 (.slice A3 n3 c3) n3 _ (by rfl) HR5.out Z (by rfl) (by omega) HB5.out.size ?_; intro v' W7 hown hg; obtain ⟨A4, c4, rfl⟩ := own_slice hown; have HR7 : Hid (W7.ownsRow W0.heap.size 5 1 (.slice A4 (n3 + Z.size) c4) (n3 + Z.size) (bytesV (catT T (l.take (k + 1))))) := Lib.hid (by rw [HTK.out, catT_snoc]; unfold bytesV; rw [List.map_append]; have h := hown; rw [HSB.out] at h; exact h); have HB7 := Lib.hid (HB5.out.trans (Keep.below (Keep.of_grown (F := fun g => (Value.slice A3 n3 c3).ownBlock = some g) hg (fun g hg => hg)) HB5.out.size (fun x hx => own_base HR5.out x hx))); clear hown hg
        refine hK.out _ _ ?_
        clear hK K
        try simp only [Act.put, List.setIfInBounds_toArray, List.set_cons_zero, List.set_cons_succ]
        refine wpAnyD_takeP (i := 10) (oi := { dst := some 6, op := Op.assign (Operand.tmp 30), type := 79, pos := "ref.go:37", after := #[{ on := 9, ground := Ground.data }, { on := 9, ground := Ground.chain }, { on := 0, ground := Ground.phase }, { on := 1, ground := Ground.phase }, { on := 2, ground := Ground.phase }, { on := 3, ground := Ground.phase }, { on := 4, ground := Ground.phase }, { on := 5, ground := Ground.phase }, { on := 6, ground := Ground.phase }, { on := 7, ground := Ground.phase }, { on := 8, ground := Ground.phase }, { on := 9, ground := Ground.phase }], guard := none }) (d := 6) (v := ?_) rfl rfl (by kernel_rfl) (by kernel_rfl) (by kernel_rfl) (fun _ _ _ h => h) (Or.inl ⟨by rfl, ?_⟩) ?_
        rotate_left
        · (intro w' _; go_simp; (try with_reducible rfl))
        simp only [List.setIfInBounds_toArray, List.set_cons_zero, List.set_cons_succ]
        refine wpAnyD_done (by kernel_rfl) ?_ _
        have HN7 : Hid (n3 + Z.size = (catT T (l.take (k + 1))).length) := Lib.hid (by rw [HTK.out, catT_snoc, List.length_append, ← HN3.out, HSS.out])
        go_wp2_with fail
        go_roundg (gk - 1)
        case measure => have := HK.out; omega
        case rel => exact ⟨k + 1, A4, n3 + Z.size, c4, by have := HK.out; omega, rfl, rfl, HN7.out, HR7.out, HB7.out⟩
      ·
        go_simp
        refine hK.out _ _ hHeld (fun hHeld => ?_)
        clear hK K
        try simp only [Act.put, List.setIfInBounds_toArray, List.set_cons_zero, List.set_cons_succ]
        refine wpAnyD_one (i := 2) (o := { dst := some 23, op := Op.load 25 (Operand.tmp 22), type := 25, pos := "ref.go:37", after := #[{ on := 1, ground := Ground.data }], guard := none }) (by kernel_rfl) rfl (by rfl) (fun K hK => ?_)
        go_simp
        refine hK.out _ _ hHeld (fun hHeld => ?_)
        clear hK K
        try simp only [Act.put, List.setIfInBounds_toArray, List.set_cons_zero, List.set_cons_succ]
        refine wpAnyD_takeP (i := 7) (oi := { dst := some 28, op := Op.indexAddr 25 (Operand.tmp 23) (Operand.tmp 27), type := 0, pos := "ref.go:37", after := #[{ on := 2, ground := Ground.data }, { on := 6, ground := Ground.data }], guard := none }) (d := 28) (v := ?_) rfl rfl (by kernel_rfl) (by kernel_rfl) (by kernel_rfl) (fun _ _ _ h => h) (Or.inl ⟨by rfl, ?_⟩) ?_
        rotate_left
        · (intro w' _; go_simp; (try with_reducible rfl))
        simp only [List.setIfInBounds_toArray, List.set_cons_zero, List.set_cons_succ]
        refine wpAnyD_takeD (i := 8) (oi := { dst := some 29, op := Op.load 9 (Operand.tmp 28), type := 9, pos := "ref.go:37", after := #[{ on := 7, ground := Ground.data }], guard := none }) (d := 29) (v := ?_) rfl rfl (by kernel_rfl) (by kernel_rfl) (by kernel_rfl) (by kernel_rfl) (fun _ _ _ h => h) (Or.inl ⟨by rfl, ?_⟩) hHeld ?_
        rotate_left
        · (intro w' hSw; (try dsimp only at hSw); go_simp; (try with_reducible rfl))
        simp only [List.setIfInBounds_toArray, List.set_cons_zero, List.set_cons_succ]
        refine wpAnyD_last (D := 9) (by decide) (o := { dst := some 30, op := Op.call { callee := Callee.builtin Builtin.append, args := #[Operand.tmp 21, Operand.tmp 29], argTypes := #[79, 9] }, type := 79, pos := "ref.go:37", after := #[{ on := 0, ground := Ground.data }, { on := 8, ground := Ground.data }], guard := none }) (by kernel_rfl) rfl (by rfl) (fun K hK => ?_)
        refine wp_app_str (.tmp 21) (.tmp 29) 79 9 (by rfl) W0.heap.size 5 Try.underlying79 Try.underlying9 info_u8 (.slice A3 n3 c3) n3 _ (by rfl) HR5.out Z (by rfl) (by omega) HB5.out.size ?_; intro v' W7 hown hg; obtain ⟨A4, c4, rfl⟩ := own_slice hown; have HR7 : Hid (W7.ownsRow W0.heap.size 5 1 (.slice A4 (n3 + Z.size) c4) (n3 + Z.size) (bytesV (catT T (l.take (k + 1))))) := Lib.hid (by rw [HTK.out, catT_snoc]; unfold bytesV; rw [List.map_append]; have h := hown; rw [HSB.out] at h; exact h); have HB7 := Lib.hid (HB5.out.trans (Keep.below (Keep.of_grown (F := fun g => (Value.slice A3 n3 c3).ownBlock = some g) hg (fun g hg => hg)) HB5.out.size (fun x hx => own_base HR5.out x hx))); clear hown hg
        refine hK.out _ _ ?_
        clear hK K
        try simp only [Act.put, List.setIfInBounds_toArray, List.set_cons_zero, List.set_cons_succ]
        refine wpAnyD_takeP (i := 10) (oi := { dst := some 6, op := Op.assign (Operand.tmp 30), type := 79, pos := "ref.go:37", after := #[{ on := 9, ground := Ground.data }, { on := 9, ground := Ground.chain }, { on := 0, ground := Ground.phase }, { on := 1, ground := Ground.phase }, { on := 2, ground := Ground.phase }, { on := 3, ground := Ground.phase }, { on := 4, ground := Ground.phase }, { on := 5, ground := Ground.phase }, { on := 6, ground := Ground.phase }, { on := 7, ground := Ground.phase }, { on := 8, ground := Ground.phase }, { on := 9, ground := Ground.phase }], guard := none }) (d := 6) (v := ?_) rfl rfl (by kernel_rfl) (by kernel_rfl) (by kernel_rfl) (fun _ _ _ h => h) (Or.inl ⟨by rfl, ?_⟩) ?_
        rotate_left
        · (intro w' _; go_simp; (try with_reducible rfl))
        simp only [List.setIfInBounds_toArray, List.set_cons_zero, List.set_cons_succ]
        refine wpAnyD_done (by kernel_rfl) ?_ _
        have HN7 : Hid (n3 + Z.size = (catT T (l.take (k + 1))).length) := Lib.hid (by rw [HTK.out, catT_snoc, List.length_append, ← HN3.out, HSS.out])
        go_wp2_with fail
        go_roundg (gk - 1)
        case measure => have := HK.out; omega
        case rel => exact ⟨k + 1, A4, n3 + Z.size, c4, by have := HK.out; omega, rfl, rfl, HN7.out, HR7.out, HB7.out⟩
    · have hke : k = l.length := by omega
      have HCV := Lib.hid (conv_own HROW.out)
      have htk : l.take k = l := by rw [hke, List.take_length]
      rw [htk] at HCV
      have hq : ¬ (k : Int) < (l.length : Int) := by omega
      clear hk HK hke htk
      go_wp2_with (rw [HCV.out])
      exact bodyPost_ret (v := .tuple #[.string (bs (catT T l)), .bool true]) (by simp [results, Try.results19, go_sem]) rfl ⟨rfl, HB.out.trans (HBL2.out.mono HB.out.size)⟩
end
end Go.Proofs.Ytpkmcokkapfnmaa
/- Layer 5 (chain): the law's own table. -/
namespace Go.Proofs.Ytpkmcokkapfnmaa
open Go.RowKit Go.Maps Go.WideMaps
set_option maxRecDepth 100000
set_option linter.unusedVariables false
set_option linter.unusedSimpArgs false

theorem results_tmp_cell {fn : Func} {p u : Tmp} {ty : TypeId} (h : fn.results = #[.tmp u, .cell p ty]) (tmps : Array Value) (P : Program) (w : World) :
    (results fn tmps).run P w = ((asAddr (tmps.getD p undef)).run P w).andThen fun a w₁ => ((loadVar ty a).run P w₁).andThen fun x w₂ => .ok (.tuple #[tmps.getD u undef, x]) w₂ := by
  simp only [results, h]
  simp [Sem.run_bind, Result.andThen]
/-- two results, a value and a struct in memory -/
theorem ret_tmp_cell {P : Program} {fn : Func} {R : Ending → World → Prop} {tmps : Array Value} {w : World} {r : Nat} {p u : Tmp} {ty : TypeId} {v x : Value}
    (h : fn.results = #[.tmp u, .cell p ty]) (hu : tmps.getD u undef = x) (hp : tmps.getD p undef = .pointer (some ⟨r, 0, none⟩))
    (hl : (loadVar ty ⟨r, 0, none⟩).run P w = .ok v w) (hR : R (.returned (.tuple #[x, v])) w) : bodyPost P fn R .ret ⟨tmps, []⟩ w := by
  refine bodyPost_ret (v := .tuple #[x, v]) ?_ rfl hR
  rw [results_tmp_cell h, hp, hu]
  simp [asAddr, hl, Result.andThen]
theorem adds_take (l : List (Int × Int)) : ∀ (T T' : List Ent) (k : Nat) (hk : k < l.length) (Tk : List Ent), addsT T l = some T' → addsT T (l.take k) = some Tk → (addT Tk l[k].1 l[k].2).2.1 = 0 := by
  induction l with
  | nil => intro T T' k hk; exact absurd hk (by simp)
  | cons a l ih =>
    intro T T' k hk Tk h1 h2
    simp only [addsT] at h1
    split at h1
    · rename_i h0
      match k, hk, h2 with
      | 0, _, h2 => simp only [List.take_zero, addsT, Option.some.injEq] at h2; subst h2; exact h0
      | k + 1, hk, h2 =>
        simp only [List.take_succ_cons, addsT, if_pos h0] at h2
        exact ih _ _ k (by simpa using hk) _ h1 h2
    · cases h1
/-- both tables -/
structure BothIs (w w' : World) (T : List Ent) (tb : Nat) (sv : Value) (mb mp : Nat) (vb vm : Value) : Prop where
  tab : TabIs w' w.heap.size tb T sv mb mp
  ref : RefIs w' w.heap.size T vb vm
  bl : Below w.heap.size w w'
theorem BothIs.step {w w' w2 : World} {T : List Ent} {tb : Nat} {sv : Value} {mb mp : Nat} {vb vm : Value} (h : BothIs w w' T tb sv mb mp vb vm) (hb : Below w'.heap.size w' w2) : BothIs w w2 T tb sv mb mp vb vm :=
  ⟨h.tab.below hb (Nat.le_refl _), h.ref.below hb (Nat.le_refl _), h.bl.trans (hb.mono h.bl.size)⟩
theorem TabIs.less {w : World} {b base tb : Nat} {T : List Ent} {sv : Value} {mb mp : Nat} (h : TabIs w b tb T sv mb mp) (hle : base ≤ b) : TabIs w base tb T sv mb mp :=
  ⟨h.blk, own_less h.row hle, h.bys, h.prs, h.ne, by have := h.lt; omega⟩
set_option maxHeartbeats 4000000 in
theorem table_any (l : List Nat) (A : Option Addr) (c : Nat) (w : World) (hl : Sl1 w A (fun x : Nat => .int .u16 (x : Int)) l) (hsm : ∀ x ∈ l, x < 65536) (hlen : l.length ≤ 60) :
    Calls Try.prog 12 #[.slice A l.length c] w fun e w' => ∃ T tb sv mb mp A1 n1 c1 A2 n2 c2, e = .returned (.tuple #[.pointer (some ⟨tb, 0, none⟩), .agg #[.slice A1 n1 c1, .slice A2 n2 c2]]) ∧ AddsT T ∧ T = growT l (min (l.length / 2) 30) ∧ BothIs w w' T tb sv mb mp (.slice A1 n1 c1) (.slice A2 n2 c2) := by
  have hb0 := (Below.refl w.heap.size w).alloc (Nat.le_refl _) (.cells #[.slice none 0 0, .slice none 0 0] 28)
  have HN3 := Lib.hid (blk_new w (.cells #[.slice none 0 0, .slice none 0 0] 28))
  have HB0 := Lib.hid hb0
  have HL := Lib.hid (hl.below hb0 (Nat.le_refl _))
  have HS0 := Lib.hid (show (w.alloc (.cells #[.slice none 0 0, .slice none 0 0] 28)).heap.size = w.heap.size + 1 from by simp)
  clear hl hb0
  go_enter Try.func12, Try.ntmps12
  go_wp2_with fail
  generalize w.alloc (.cells #[.slice none 0 0, .slice none 0 0] 28) = W0 at *
  refine (grow_any l A c W0 HL.out hsm (by omega)).mono ?_
  rintro e w2 ⟨hb2, A1, n1, c1, A2, n2, c2, rfl, href⟩
  obtain ⟨T, hT⟩ : ∃ T, growT l (min (l.length / 2) 30) = T := ⟨_, rfl⟩
  have HGT := Lib.hid hT
  have hadds := addsT_grow l (min (l.length / 2) 30)
  rw [hT] at href hadds
  have hn2 : n2 = (mrgsT T).length := by obtain ⟨_, _, e⟩ := own_slice href.mrg; injection e
  subst hn2
  have HADDS := Lib.hid hadds
  have hba := (Below.refl w2.heap.size w2).alloc (Nat.le_refl _) (.cells #[.slice A1 n1 c1, .slice A2 (mrgsT T).length c2] 28)
  have HN4 := Lib.hid (blk_new w2 (.cells #[.slice A1 n1 c1, .slice A2 (mrgsT T).length c2] 28))
  replace HN3 := Lib.hid (blk_alloc (blk_below hb2 (by rw [HS0.out]; exact Nat.lt_succ_self _) HN3.out) (.cells #[.slice A1 n1 c1, .slice A2 (mrgsT T).length c2] 28))
  have HSZ := Lib.hid (Nat.lt_of_lt_of_le (by rw [HS0.out]; exact Nat.lt_succ_self _) hb2.size)
  have HREF := Lib.hid ((href.less (Nat.le_of_eq HS0.out.symm)).below hba (Nat.le_refl _))
  have HM := Lib.hid ((own_sl (enc := encM) (fun _ => rfl) href.mrg (by decide)).below hba (Nat.le_refl _))
  have hb3 := (HB0.out.trans (hb2.mono HB0.out.size))
  have HB2 := Lib.hid (hb3.trans (hba.mono hb3.size))
  have hsm2 := hadds.1.small
  have hm3 : (mrgsT T).length < 9000000000000000000 := by rw [mrgs_len]; omega
  have m1 := blk_cell (blk_new w2 (.cells #[.slice A1 n1 c1, .slice A2 (mrgsT T).length c2] 28)) 1
  simp only [List.getElem?_toArray, List.getElem?_cons_zero, List.getElem?_cons_succ] at m1
  clear hT href hadds hb2 hba hb3
  go_upto_region 2 with fail
  generalize w2.heap.size = g4 at *
  generalize w2.alloc (.cells #[.slice A1 n1 c1, .slice A2 (mrgsT T).length c2] 28) = W2 at *
  go_wp2_with fail
  refine (new_any (mrgsT T) A2 c2 W2 HM.out hm3).mono ?_
  rintro e w3 ⟨hb3, (⟨T', tb, sv, mb, mp, rfl, ha, hok, ht⟩ | ⟨k, hk, T', ha, hok, he, rfl⟩)⟩
  · rw [HADDS.out.2] at ha
    injection ha with ha
    subst ha
    have HT3 := Lib.hid (ht.less (b := W2.heap.size) (base := w.heap.size + 1) (Nat.le_trans HSZ.out (Nat.le_of_lt (blk_lt HN4.out))))
    have HB3 := Lib.hid (HB2.out.trans (hb3.mono HB2.out.size))
    replace HREF := Lib.hid (HREF.out.below hb3 (Nat.le_refl _))
    replace HN3 := Lib.hid (blk_below hb3 (blk_lt HN3.out) HN3.out)
    replace HN4 := Lib.hid (blk_below hb3 (blk_lt HN4.out) HN4.out)
    clear hok ht hb3 m1
    have m0 := blk_cell HN4.out 0
    have m1 := blk_cell HN4.out 1
    simp only [List.getElem?_toArray, List.getElem?_cons_zero, List.getElem?_cons_succ] at m0 m1
    go_upto_region 5 with fail
    refine wp_region_D (Ds := [3]) (S := fun V => V.cell? ⟨g4, 0, none⟩ = some (.slice A1 n1 c1) ∧ V.cell? ⟨g4, 1, none⟩ = some (.slice A2 (mrgsT T).length c2)) (by kernel_rfl) (by exact ⟨m0, m1⟩) (fun hHeld => ?_)
    (replace HT3 := Lib.hid HT3.out.drew); (replace HB3 := Lib.hid HB3.out.drew); (have HREF : Hid (RefIs w3.drew (w.heap.size + 1) T (.slice A1 n1 c1) (.slice A2 (mrgsT T).length c2)) := Lib.hid ⟨HREF.out.row, HREF.out.mrg, HREF.out.nil⟩); (have HN3 : Hid (w3.drew.heap[w.heap.size]? = some (.cells #[.slice none 0 0, .slice none 0 0] 28)) := Lib.hid HN3.out); clear m0 m1; generalize w3.drew = w4 at *
    refine wpAnyD_takeP (i := 0) (oi := { dst := some 20, op := Op.move (Operand.tmp 5), type := 24, pos := "law.go:27", after := #[], guard := none }) (d := 20) (v := ?_) rfl rfl (by kernel_rfl) (by kernel_rfl) (by kernel_rfl) (fun _ _ _ h => h) (Or.inl ⟨by rfl, ?_⟩) ?_
    rotate_left
    · (intro w' _; go_simp; (try with_reducible rfl))
    simp only [List.setIfInBounds_toArray, List.set_cons_zero, List.set_cons_succ]
    refine wpAnyD_takeP (i := 2) (oi := { dst := some 2, op := Op.assign (Operand.tmp 20), type := 24, pos := "law.go:27", after := #[{ on := 0, ground := Ground.data }, { on := 0, ground := Ground.phase }, { on := 1, ground := Ground.textOnly Departure.lateStores }], guard := none }) (d := 2) (v := ?_) rfl rfl (by kernel_rfl) (by kernel_rfl) (by kernel_rfl) (fun _ _ _ h => h) (Or.inl ⟨by rfl, ?_⟩) ?_
    rotate_left
    · (intro w' _; go_simp; (try with_reducible rfl))
    simp only [List.setIfInBounds_toArray, List.set_cons_zero, List.set_cons_succ]
    refine wpAnyD_takeD (i := 1) (oi := { dst := some 21, op := Op.load 28 (Operand.tmp 4), type := 28, pos := "law.go:27", after := #[{ on := 2, ground := Ground.gcOnly Departure.lateStores }], guard := none }) (d := 21) (v := ?_) rfl rfl (by kernel_rfl) (by kernel_rfl) (by kernel_rfl) (by kernel_rfl) (fun _ _ _ h => h) (Or.inl ⟨by rfl, ?_⟩) hHeld ?_
    rotate_left
    · (intro w' hSw; (try dsimp only at hSw); go_simp; (try with_reducible rfl))
    simp only [List.setIfInBounds_toArray, List.set_cons_zero, List.set_cons_succ]
    refine wpAnyD_last (D := 3) (by decide) (o := { dst := none, op := Op.store 28 (Operand.tmp 3) (Operand.tmp 21), type := 0, pos := "law.go:27", after := #[{ on := 1, ground := Ground.data }, { on := 2, ground := Ground.chain }, { on := 0, ground := Ground.phase }, { on := 1, ground := Ground.phase }, { on := 2, ground := Ground.phase }], guard := none }) (by kernel_rfl) rfl (by rfl) (fun K hK => ?_)
    have z0 := blk_froz HN3.out 0; have z1 := blk_froz HN3.out 1; have d0 := blk_cell HN3.out 0; have d1 := blk_cell HN3.out 1; simp only [List.getElem?_toArray, List.getElem?_cons_zero, List.getElem?_cons_succ] at d0 d1; go_simp; clear z0 z1 d0 d1
    refine hK.out _ _ ?_
    clear hK K
    try simp only [Act.put, List.setIfInBounds_toArray, List.set_cons_zero, List.set_cons_succ]
    refine wpAnyD_done (by kernel_rfl) ?_ _
    have KF : Keep (fun x => x = w.heap.size) w4 ((w4.setCell ⟨w.heap.size, 0, none⟩ (.slice A1 n1 c1)).setCell ⟨w.heap.size, 1, none⟩ (.slice A2 (mrgsT T).length c2)) := ((Keep.refl (fun x => x = w.heap.size) w4).setCell (p := ⟨w.heap.size, 0, none⟩) (.inl rfl) _).setCell (p := ⟨w.heap.size, 1, none⟩) (.inl rfl) _
    have hb5 := KF.below (B := w.heap.size) HB3.out.size (fun x hx => Nat.le_of_eq hx.symm)
    have hn5 := blk_set (blk_set HN3.out 0 (.slice A1 n1 c1)) 1 (.slice A2 (mrgsT T).length c2)
    simp only [List.setIfInBounds_toArray, List.set_cons_zero, List.set_cons_succ] at hn5
    have ht5 := HT3.out.keep KF (fun x hx e => by
      have hl := HT3.out.lt
      rcases hx with rfl | hx | rfl | rfl
      · omega
      · have := own_base HT3.out.row x hx; omega
      · omega
      · omega)
    have hr5 : RefIs ((w4.setCell ⟨w.heap.size, 0, none⟩ (.slice A1 n1 c1)).setCell ⟨w.heap.size, 1, none⟩ (.slice A2 (mrgsT T).length c2)) (w.heap.size + 1) T (.slice A1 n1 c1) (.slice A2 (mrgsT T).length c2) := HREF.out.keep KF (fun g hg => by omega)
    have HBOTH := Lib.hid (show BothIs w ((w4.setCell ⟨w.heap.size, 0, none⟩ (.slice A1 n1 c1)).setCell ⟨w.heap.size, 1, none⟩ (.slice A2 (mrgsT T).length c2)) T tb sv mb mp (.slice A1 n1 c1) (.slice A2 (mrgsT T).length c2) from ⟨ht5.less (Nat.le_succ _), hr5.less (Nat.le_succ _), HB3.out.trans hb5⟩)
    have HN5 := Lib.hid hn5
    clear KF hb5 hn5 ht5 hr5
    go_wp2_with fail
    refine ret_tmp_cell rfl rfl rfl (load_ref HN5.out) ⟨T, tb, sv, mb, mp, A1, n1, c1, A2, (mrgsT T).length, c2, rfl, HADDS.out, HGT.out.symm, HBOTH.out⟩
  · exfalso
    have := adds_take (mrgsT T) baseT T k hk T' HADDS.out.2 ha
    exact he this
end Go.Proofs.Ytpkmcokkapfnmaa
/- Layer 5 (chain): the document's examples. -/
namespace Go.Proofs.Ytpkmcokkapfnmaa
open Go.RowKit Go.Maps Go.WideMaps
set_option maxRecDepth 100000
set_option linter.unusedVariables false
set_option linter.unusedSimpArgs false

def ac0 : List (Int × Int) := [(97, 98), (256, 99)]
def ac1 : List (Int × Int) := [(98, 99), (97, 98), (257, 99)]
def acT1 : List Ent := baseT ++ [([97, 98], 97, 98)]
def acT2 : List Ent := acT1 ++ [([97, 98, 99], 256, 99)]
def acU1 : List Ent := baseT ++ [([98, 99], 98, 99)]
def acU2 : List Ent := acU1 ++ [([97, 98], 97, 98)]
def acU3 : List Ent := acU2 ++ [([97, 98, 99], 257, 99)]
theorem ac_add1 : addT baseT 97 98 = (256, 0, acT1) := by kernel_rfl
theorem ac_add2 : addT acT1 256 99 = (257, 0, acT2) := by kernel_rfl
theorem ac_add3 : addT baseT 98 99 = (256, 0, acU1) := by kernel_rfl
theorem ac_add4 : addT acU1 97 98 = (257, 0, acU2) := by kernel_rfl
theorem ac_add5 : addT acU2 257 99 = (258, 0, acU3) := by kernel_rfl
theorem ac_adds0 : addsT baseT ac0 = some acT2 := by
  simp only [ac0, addsT, ac_add1, ac_add2, if_true]
theorem ac_adds1 : addsT baseT ac1 = some acU3 := by
  simp only [ac1, addsT, ac_add3, ac_add4, ac_add5, if_true]
theorem ac_enc0 : encT acT2 acT2.length [97, 98, 99, 97, 98] = [257, 256] := by kernel_rfl
theorem ac_enc1 : encT acU3 acU3.length [97, 98, 99] = [97, 256] := by kernel_rfl
/-- New of merges that can be added -/
theorem new_ok {l : List (Int × Int)} {T : List Ent} (hT : addsT baseT l = some T) (A : Option Addr) (c : Nat) (w : World) (hl : Sl w A encM 2 l) (hlen : l.length < 9000000000000000000) :
    Calls Try.prog 22 #[.slice A l.length c] w fun e w' => ∃ tb sv mb mp, e = .returned (.tuple #[.pointer (some ⟨tb, 0, none⟩), .int .i64 (l.length : Nat), .int .i64 0]) ∧ OkT T ∧ TabIs w' w.heap.size tb T sv mb mp ∧ Below w.heap.size w w' := by
  refine (new_any l A c w hl hlen).mono ?_
  rintro e w' ⟨hb, (⟨T', tb, sv, mb, mp, rfl, ha, hok, ht⟩ | ⟨k, hk, T', ha, hok, he, rfl⟩)⟩
  · rw [hT] at ha
    injection ha with ha
    subst ha
    exact ⟨tb, sv, mb, mp, rfl, hok, ht, hb⟩
  · exact absurd (adds_take l baseT T k hk T' hT ha) he
/-- merges that were just built -/
theorem sl_mrg {w : World} {g : Nat} {l : List (Int × Int)} (h : w.heap[g]? = some (.cells (l.flatMap encM).toArray 71)) : Sl w (some ⟨g, 0, none⟩) encM 2 l := by
  intro i x hx
  refine ⟨g, 0, rfl, fun j v hv => ?_⟩
  rw [blk_cell h, List.getElem?_toArray, Nat.zero_add]
  have key : ∀ (l : List (Int × Int)) (i : Nat), l[i]? = some x → (l.flatMap encM)[i * 2 + j]? = some v := by
    intro l
    induction l with
    | nil => intro i h; simp at h
    | cons y ys ih =>
      intro i hx
      have hj : j < 2 := (List.getElem?_eq_some_iff.1 hv).1
      cases i with
      | zero =>
        simp at hx
        subst hx
        rw [List.flatMap_cons, List.getElem?_append_left (by show 0 * 2 + j < 2; omega)]
        simpa using hv
      | succ i =>
        simp at hx
        rw [List.flatMap_cons, List.getElem?_append_right (by show 2 ≤ _; omega)]
        have := ih i hx
        rw [show (i + 1) * 2 + j - (encM y).length = i * 2 + j by show (i + 1) * 2 + j - 2 = _; omega]
        exact this
  exact key l i hx
/-- numbers that were just built -/
theorem sl_int {w : World} {g : Nat} {l : List Int} (h : w.heap[g]? = some (.cells (l.map (Value.int .i64)).toArray 3)) : Sl1 w (some ⟨g, 0, none⟩) (Value.int .i64) l := by
  intro i x hx
  refine ⟨g, 0, rfl, ?_⟩
  rw [blk_cell h, List.getElem?_toArray, Nat.zero_add, List.getElem?_map, hx]
  rfl
theorem ints_sl {w : World} {base : Nat} {v : Value} {l : List Int} (h : IntsIs w base v l) : ∃ A c, v = .slice A l.length c ∧ Sl1 w A (Value.int .i64) l := by
  obtain ⟨A, c, e, hr⟩ := h
  exact ⟨A, c, e, own_sl1 hr⟩
set_option maxHeartbeats 4000000 in
theorem awake5_any (w : World) : Calls Try.prog 11 #[] w fun e w' => e = .returned (.bool true) ∧ Below w.heap.size w w' := by
  have HB0 := Lib.hid ((Below.refl w.heap.size w).alloc (Nat.le_refl _) (.cells #[.int .i64 97, .int .i64 98, .int .i64 256, .int .i64 99] 71))
  have HSL := Lib.hid (sl_mrg (l := ac0) (blk_new w (.cells #[.int .i64 97, .int .i64 98, .int .i64 256, .int .i64 99] 71)))
  go_enter Try.func11, Try.ntmps11
  go_wp2_with fail
  generalize w.alloc (.cells #[.int .i64 97, .int .i64 98, .int .i64 256, .int .i64 99] 71) = w1 at *
  refine (new_ok ac_adds0 _ 2 w1 HSL.out (by decide)).mono ?_
  rintro e w2 ⟨tb, sv, mb, mp, rfl, hok, ht, hb⟩
  have HB2 := Lib.hid (HB0.out.trans (hb.mono HB0.out.size))
  have HT := Lib.hid ht
  have HOK := Lib.hid hok
  clear hb ht hok HSL HB0
  have HBA := Lib.hid ((Below.refl w2.heap.size w2).alloc (Nat.le_refl _) (.cells #[.int .i64 98, .int .i64 99, .int .i64 97, .int .i64 98, .int .i64 257, .int .i64 99] 71))
  have HSL := Lib.hid (sl_mrg (l := ac1) (blk_new w2 (.cells #[.int .i64 98, .int .i64 99, .int .i64 97, .int .i64 98, .int .i64 257, .int .i64 99] 71)))
  have HL0 : Hid (((ac0.length : Nat) : Int) = 2) := Lib.hid rfl
  rw [HL0.out]
  go_wp2_with fail
  have HB3 := Lib.hid (HB2.out.trans (HBA.out.mono HB2.out.size))
  replace HT := Lib.hid (HT.out.below HBA.out (Nat.le_refl _))
  clear HBA HB2 HL0
  generalize w2.alloc (.cells #[.int .i64 98, .int .i64 99, .int .i64 97, .int .i64 98, .int .i64 257, .int .i64 99] 71) = w3 at *
  generalize w2.heap.size = g2 at *
  refine (new_ok ac_adds1 _ 3 w3 HSL.out (by decide)).mono ?_
  rintro e w4 ⟨ub, su, nb, np, rfl, hok, ht, hb⟩
  have HB4 := Lib.hid (HB3.out.trans (hb.mono HB3.out.size))
  replace HT := Lib.hid (HT.out.below hb (Nat.le_refl _))
  have HU := Lib.hid ht
  have HOU := Lib.hid hok
  clear hb ht hok HSL HB3
  have HL0 : Hid (((ac1.length : Nat) : Int) = 3) := Lib.hid rfl
  rw [HL0.out]
  go_wp2_with fail
  refine (encode_any HT.out HOK.out _ (by decide)).mono ?_
  rintro e w5 ⟨⟨v, rfl, hv⟩, hb⟩
  have hv : IntsIs w5 w4.heap.size v [257, 256] := hv
  have hba := (Below.refl w5.heap.size w5).alloc (Nat.le_refl _) (.cells #[.int .i64 257, .int .i64 256] 3)
  have hn := blk_new w5 (.cells #[.int .i64 257, .int .i64 256] 3)
  obtain ⟨A, c, rfl, hs⟩ := ints_sl (ints_below hv hba (Nat.le_refl _))
  have HI := Lib.hid (ints_any [257, 256] [257, 256] A (some ⟨w5.heap.size, 0, none⟩) c 2 _ hs (sl_int (l := [257, 256]) hn) (by decide))
  have hb6 := hb.trans (hba.mono hb.size)
  have HB6 := Lib.hid (HB4.out.trans (hb6.mono HB4.out.size))
  replace HU := Lib.hid (HU.out.below hb6 (Nat.le_refl _))
  clear hv hba hn hs hb hb6 HT HL0
  go_wp2_with fail
  generalize w5.alloc (.cells #[.int .i64 257, .int .i64 256] 3) = w6 at *
  refine HI.out.mono ?_
  rintro e w7 ⟨rfl, hb⟩
  have HB7 := Lib.hid (HB6.out.trans (hb.mono HB6.out.size))
  replace HU := Lib.hid (HU.out.below hb (Nat.le_refl _))
  clear hb HI
  go_wp2_with fail
  refine (encode_any HU.out HOU.out _ (by decide)).mono ?_
  rintro e w8 ⟨⟨v, rfl, hv⟩, hb⟩
  have hv : IntsIs w8 w7.heap.size v [97, 256] := hv
  have hba := (Below.refl w8.heap.size w8).alloc (Nat.le_refl _) (.cells #[.int .i64 97, .int .i64 256] 3)
  have hn := blk_new w8 (.cells #[.int .i64 97, .int .i64 256] 3)
  obtain ⟨A, c, rfl, hs⟩ := ints_sl (ints_below hv hba (Nat.le_refl _))
  have HI := Lib.hid (ints_any [97, 256] [97, 256] A (some ⟨w8.heap.size, 0, none⟩) c 2 _ hs (sl_int (l := [97, 256]) hn) (by decide))
  have hb6 := hb.trans (hba.mono hb.size)
  have HB6 := Lib.hid (HB7.out.trans (hb6.mono HB7.out.size))
  clear hv hba hn hs hb hb6 HU
  go_wp2_with fail
  generalize w8.alloc (.cells #[.int .i64 97, .int .i64 256] 3) = w9 at *
  refine HI.out.mono ?_
  rintro e w10 ⟨rfl, hb⟩
  have HB10 := Lib.hid (HB6.out.trans (hb.mono HB6.out.size))
  clear hb HI
  go_wp2_with fail
  go_ret
  exact ⟨rfl, HB10.out⟩
end Go.Proofs.Ytpkmcokkapfnmaa
/- Layer 5 (chain): of what is made: its bytes, what stands side by side, where it may be cut: the plain law. -/
namespace Go.Proofs.Ytpkmcokkapfnmaa
set_option linter.unusedVariables false
set_option linter.unusedSimpArgs false

theorem rep_len (a b c : Int) : ∀ l, (rep a b c l).length ≤ l.length
  | [] => Nat.le_refl _
  | [x] => Nat.le_refl _
  | x :: y :: l => by
    rw [rep]
    split
    · have := rep_len a b c l
      simp only [List.length_cons]; omega
    · have := rep_len a b c (y :: l)
      simp only [List.length_cons] at this ⊢; omega
theorem seqE_len : ∀ (M : List (Int × Int)) (c : Int) (l : List Int), (seqE M c l).length ≤ l.length
  | [], _, _ => Nat.le_refl _
  | m :: M, c, l => Nat.le_trans (seqE_len M (c + 1) (rep m.1 m.2 c l)) (rep_len _ _ _ _)
theorem encT_len (T : List Ent) (bel : Int) (s : ByteArray) : (encT T bel s.data.toList).length ≤ s.size := by
  refine Nat.le_trans (seqE_len _ _ _) ?_
  unfold bysI
  rw [List.length_map, dataLen]
  exact Nat.le_refl _

/-! what stands side by side -/
theorem adj_cons (x : Int) (R : List Int) (u v : Int) : Adj (x :: R) u v ↔ (u = x ∧ R.head? = some v) ∨ Adj R u v := by
  rcases R with _ | ⟨y, R⟩
  · simp [adj_one, adj_nil]
  · rw [adj_cons2]
    simp only [List.head?_cons, Option.some.injEq]
    constructor
    · rintro (⟨h1, h2⟩ | h)
      · exact .inl ⟨h1.symm, h2⟩
      · exact .inr h
    · rintro (⟨h1, h2⟩ | h)
      · exact .inl ⟨h1.symm, h2⟩
      · exact .inr h
theorem rep_head (a b c : Int) : ∀ (l : List Int) (z : Int), (rep a b c l).head? = some z → z = c ∨ l.head? = some z
  | [], z, h => .inr h
  | [x], z, h => .inr h
  | x :: y :: l, z, h => by
    rw [rep] at h
    split at h
    · simp at h; exact .inl h.symm
    · simp at h; exact .inr (by simp [h])
theorem rep_adj (a b c : Int) : ∀ (l : List Int) (x y : Int), Adj (rep a b c l) x y → x = c ∨ y = c ∨ Adj l x y
  | [], x, y, h => .inr (.inr h)
  | [z], x, y, h => .inr (.inr h)
  | u :: v :: l, x, y, h => by
    rw [rep] at h
    split at h
    · rw [adj_cons] at h
      rcases h with ⟨h1, _⟩ | h
      · exact .inl h1
      · rcases rep_adj a b c l x y h with h | h | h
        · exact .inl h
        · exact .inr (.inl h)
        · refine .inr (.inr ?_)
          rw [adj_cons, adj_cons]
          exact .inr (.inr h)
    · rw [adj_cons] at h
      rcases h with ⟨h1, h2⟩ | h
      · rcases rep_head a b c (v :: l) y h2 with h | h
        · exact .inr (.inl h)
        · refine .inr (.inr ?_)
          rw [adj_cons]
          exact .inl ⟨h1, h⟩
      · rcases rep_adj a b c (v :: l) x y h with h | h | h
        · exact .inl h
        · exact .inr (.inl h)
        · refine .inr (.inr ?_)
          rw [adj_cons]
          exact .inr h
theorem rep_no (a b c : Int) (h1 : c ≠ a) (h2 : c ≠ b) : ∀ l : List Int, ¬ Adj (rep a b c l) a b
  | [], h => adj_nil _ _ h
  | [x], h => adj_one _ _ _ h
  | x :: y :: l, h => by
    rw [rep] at h
    split at h
    · rw [adj_cons] at h
      rcases h with ⟨e, _⟩ | h
      · exact h1 e.symm
      · exact rep_no a b c h1 h2 l h
    · rename_i hn
      rw [adj_cons] at h
      rcases h with ⟨e, e2⟩ | h
      · rcases rep_head a b c (y :: l) b e2 with e3 | e3
        · exact h2 e3.symm
        · simp at e3
          exact hn ⟨e.symm, e3⟩
      · exact rep_no a b c h1 h2 (y :: l) h
theorem seqE_keep (a b : Int) : ∀ (M : List (Int × Int)) (c : Int) (l : List Int), a < c → b < c → ¬ Adj l a b → ¬ Adj (seqE M c l) a b
  | [], _, _, _, _, h => h
  | m :: M, c, l, ha, hb, h => seqE_keep a b M (c + 1) (rep m.1 m.2 c l) (by omega) (by omega) (fun e => by
      rcases rep_adj _ _ _ _ _ _ e with h1 | h1 | h1
      · omega
      · omega
      · exact h h1)
theorem seqE_no : ∀ (M : List (Int × Int)) (c : Int) (l : List Int), OkM M c → ∀ (k : Nat) m, M[k]? = some m → ¬ Adj (seqE M c l) m.1 m.2
  | [], _, _, _, k, m, h => by simp at h
  | x :: M, c, l, ho, 0, m, h => by
    simp at h
    subst h
    have h0 := ho 0 x rfl
    exact seqE_keep _ _ M (c + 1) _ (by omega) (by omega) (rep_no _ _ _ (by omega) (by omega) l)
  | x :: M, c, l, ho, k + 1, m, h => seqE_no M (c + 1) _ ho.tail k m (by simpa using h)

/-! the bytes -/
theorem rep_cat (T : List Ent) (a b c : Int) (h : bytesT T c = bytesT T a ++ bytesT T b) : ∀ l : List Int, catT T (rep a b c l) = catT T l
  | [] => rfl
  | [x] => rfl
  | x :: y :: l => by
    rw [rep]
    split
    · rename_i e
      have ih := rep_cat T a b c h l
      unfold catT at ih ⊢
      rw [List.flatMap_cons, List.flatMap_cons, List.flatMap_cons, ih, h, e.1, e.2, List.append_assoc]
    · have ih := rep_cat T a b c h (y :: l)
      unfold catT at ih ⊢
      rw [List.flatMap_cons, ih]
      simp
theorem seqE_cat (T : List Ent) : ∀ (M : List (Int × Int)) (c : Int) (l : List Int), (∀ (k : Nat) m, M[k]? = some m → bytesT T (c + k) = bytesT T m.1 ++ bytesT T m.2) → catT T (seqE M c l) = catT T l
  | [], _, _, _ => rfl
  | m :: M, c, l, h => by
    rw [seqE, seqE_cat T M (c + 1) _ (fun k x hx => by have := h (k + 1) x (by simpa using hx); rw [← this]; congr 1; omega)]
    exact rep_cat T _ _ _ (by have := h 0 m rfl; simpa using this) l
theorem rep_all (p : Int → Prop) (a b c : Int) (hc : p c) : ∀ l : List Int, (∀ x ∈ l, p x) → ∀ x ∈ rep a b c l, p x
  | [], h => h
  | [x], h => h
  | x :: y :: l, h => by
    rw [rep]
    split
    · intro z hz
      rcases List.mem_cons.1 hz with rfl | hz
      · exact hc
      · exact rep_all p a b c hc l (fun u hu => h u (by simp [hu])) z hz
    · intro z hz
      rcases List.mem_cons.1 hz with rfl | hz
      · exact h _ (by simp)
      · exact rep_all p a b c hc (y :: l) (fun u hu => h u (List.mem_cons_of_mem _ hu)) z hz
theorem seqE_all (p : Int → Prop) : ∀ (M : List (Int × Int)) (c : Int) (l : List Int), (∀ k : Nat, k < M.length → p (c + k)) → (∀ x ∈ l, p x) → ∀ x ∈ seqE M c l, p x
  | [], _, _, _, h => h
  | m :: M, c, l, hM, h => by
    rw [seqE]
    refine seqE_all p M (c + 1) _ (fun k hk => ?_) (rep_all p _ _ _ ?_ l h)
    · have := hM (k + 1) (by simpa using hk)
      rw [show c + 1 + (k : Int) = c + ((k + 1 : Nat) : Int) by omega]
      exact this
    · have := hM 0 (by simp)
      simpa using this
theorem mrgsB_at {T : List Ent} (hT : OkT T) {bel : Int} {k : Nat} {m : Int × Int} (h : (mrgsB T bel)[k]? = some m) : hasT T (256 + (k : Int)) = true ∧ bytesT T (256 + (k : Int)) = bytesT T m.1 ++ bytesT T m.2 := by
  unfold mrgsB at h
  rw [List.getElem?_take] at h
  by_cases hlt : k < (bel - 256).toNat
  · rw [if_pos hlt] at h
    obtain ⟨h1, h2⟩ := mrgs_at h
    obtain ⟨q1, _, _, q4, q5, _⟩ := made_all hT (i := 256 + k) (by omega) h1
    have e : parT T ((256 + k : Nat) : Int) = m := by unfold parT; rw [if_pos q1]; exact h2
    rw [e] at q5
    rw [show (256 : Int) + (k : Int) = ((256 + k : Nat) : Int) by omega]
    exact ⟨q4, q5⟩
  · rw [if_neg hlt] at h; simp at h
theorem byte_has {T : List Ent} (hT : OkT T) {i : Nat} (hi : i < 256) : hasT T (i : Int) = true ∧ bytesT T (i : Int) = [UInt8.ofNat i] := by
  have h2 := okT_256 hT
  have hh : hasT T (i : Int) = true := by simp [hasT]; omega
  refine ⟨hh, ?_⟩
  unfold bytesT
  rw [if_pos hh, base_ent hT hi]
theorem bysI_cat {T : List Ent} (hT : OkT T) (s : List UInt8) : catT T (bysI s) = s := by
  induction s with
  | nil => rfl
  | cons x s ih =>
    have e : catT T (bysI (x :: s)) = bytesT T (x.toNat : Int) ++ catT T (bysI s) := rfl
    rw [e, ih, (byte_has hT x.toNat_lt).2]
    simp
theorem bysI_has {T : List Ent} (hT : OkT T) (s : List UInt8) : ∀ x ∈ bysI s, hasT T x = true := by
  intro x hx
  unfold bysI at hx
  obtain ⟨c, _, rfl⟩ := List.mem_map.1 hx
  exact (byte_has hT c.toNat_lt).1
/-- the tokens' bytes are the bytes again -/
theorem encT_cat {T : List Ent} (hT : OkT T) (bel : Int) (s : List UInt8) : catT T (encT T bel s) = s := by
  unfold encT
  rw [seqE_cat T _ _ _ (fun k m h => (mrgsB_at hT h).2), bysI_cat hT]
theorem encT_has {T : List Ent} (hT : OkT T) (bel : Int) (s : List UInt8) : ∀ x ∈ encT T bel s, hasT T x = true := by
  unfold encT
  refine seqE_all (fun x => hasT T x = true) _ _ _ (fun k hk => (mrgsB_at hT (List.getElem?_eq_getElem hk)).1) (bysI_has hT s)
/-- what stands side by side are no token's parents -/
theorem encT_no {T : List Ent} (hT : OkT T) (s : List UInt8) {a b : Int} (h : Adj (encT T T.length s) a b) : pairT T (a, b) = none := by
  cases hp : pairT T (a, b) with
  | none => rfl
  | some i =>
    exfalso
    have hlt : i < T.length := by
      unfold pairT at hp
      rw [List.findIdx?_eq_some_iff_getElem] at hp
      exact hp.1
    have hb : pairB T T.length a b = some (i : Int) := by unfold pairB; rw [hp]; simp; omega
    obtain ⟨k, hk, _⟩ := (pairB_iff hT _ a b _).1 hb
    exact seqE_no _ _ _ (mrgsB_ok hT _) k _ hk h

/-! where it may be cut -/
theorem rep_split (a b c : Int) : ∀ (l W1 W2 : List Int), rep a b c l = W1 ++ W2 → ∃ U1 U2, l = U1 ++ U2 ∧ W1 = rep a b c U1 ∧ W2 = rep a b c U2
  | l, [], W2, h => ⟨[], l, rfl, rfl, h.symm⟩
  | [], w :: W1, W2, h => by simp [rep] at h
  | [x], w :: W1, W2, h => by
    simp [rep] at h
    obtain ⟨rfl, rfl, rfl⟩ := h
    exact ⟨[x], [], rfl, rfl, rfl⟩
  | x :: y :: l, w :: W1, W2, h => by
    rw [rep] at h
    split at h
    · rename_i e
      simp at h
      obtain ⟨rfl, h⟩ := h
      obtain ⟨U1, U2, rfl, rfl, rfl⟩ := rep_split a b c l W1 W2 h
      exact ⟨x :: y :: U1, U2, rfl, by rw [rep, if_pos e], rfl⟩
    · rename_i e
      simp at h
      obtain ⟨rfl, h⟩ := h
      obtain ⟨U1, U2, h1, rfl, rfl⟩ := rep_split a b c (y :: l) W1 W2 h
      refine ⟨x :: U1, U2, by rw [List.cons_append, ← h1], ?_, rfl⟩
      rcases U1 with _ | ⟨z, U1⟩
      · rfl
      · simp at h1
        rw [← h1.1, rep, if_neg e]
theorem seqE_split : ∀ (M : List (Int × Int)) (c : Int) (l W1 W2 : List Int), seqE M c l = W1 ++ W2 → ∃ U1 U2, l = U1 ++ U2 ∧ W1 = seqE M c U1 ∧ W2 = seqE M c U2
  | [], _, l, W1, W2, h => ⟨W1, W2, h, rfl, rfl⟩
  | m :: M, c, l, W1, W2, h => by
    obtain ⟨V1, V2, h1, rfl, rfl⟩ := seqE_split M (c + 1) _ W1 W2 h
    obtain ⟨U1, U2, rfl, rfl, rfl⟩ := rep_split _ _ _ l V1 V2 h1
    exact ⟨U1, U2, rfl, rfl, rfl⟩
theorem bysI_len (s : List UInt8) : (bysI s).length = s.length := by unfold bysI; rw [List.length_map]
theorem bysI_append (a b : List UInt8) : bysI (a ++ b) = bysI a ++ bysI b := by unfold bysI; rw [List.map_append]
theorem cat_len_bys {T : List Ent} (hT : OkT T) (U : List Int) (s : List UInt8) (h : ∀ x ∈ U, x ∈ bysI s) : (catT T U).length = U.length := by
  induction U with
  | nil => rfl
  | cons x U ih =>
    have hx := h x (by simp)
    unfold bysI at hx
    obtain ⟨c, _, rfl⟩ := List.mem_map.1 hx
    have e : catT T ((c.toNat : Int) :: U) = bytesT T (c.toNat : Int) ++ catT T U := rfl
    rw [e, List.length_append, ih (fun y hy => h y (by simp [hy])), (byte_has hT c.toNat_lt).2]
    simp; omega
/-- where nothing goes across, both sides are made alone -/
theorem encT_cut {T : List Ent} (hT : OkT T) (bel : Int) (a b : List UInt8) {W1 W2 : List Int} (h : encT T bel (a ++ b) = W1 ++ W2) (hl : (catT T W1).length = a.length) : W1 = encT T bel a ∧ W2 = encT T bel b := by
  unfold encT at h ⊢
  obtain ⟨U1, U2, h1, h2, h3⟩ := seqE_split _ _ _ _ _ h
  have hmem : ∀ x ∈ U1, x ∈ bysI (a ++ b) := fun x hx => by rw [h1]; simp [hx]
  have hc : (catT T W1).length = U1.length := by
    rw [h2, seqE_cat T _ _ _ (fun k m h => (mrgsB_at hT h).2)]
    exact cat_len_bys hT U1 (a ++ b) hmem
  rw [bysI_append] at h1
  obtain ⟨e1, e2⟩ := List.append_inj h1 (by rw [bysI_len]; omega)
  rw [e1, e2]
  exact ⟨h2, h3⟩
end Go.Proofs.Ytpkmcokkapfnmaa
/- Layer 7 (grow): tables of tokens that are told by their bytes: the plain law. -/
namespace Go.Proofs.Ytpkmcokkapfnmaa
set_option linter.unusedVariables false
set_option linter.unusedSimpArgs false

/-- the two of which bytes are made -/
def twoT (T : List Ent) (s : List UInt8) : Option (Int × Int) := match encT T T.length s with
  | [a, b] => some (a, b)
  | _ => none
theorem twoT_some {T : List Ent} {s : List UInt8} {a b : Int} (h : twoT T s = some (a, b)) : encT T T.length s = [a, b] := by
  unfold twoT at h
  split at h
  · rename_i x y e
    injection h with h
    injection h with h1 h2
    subst h1; subst h2
    exact e
  · cases h
theorem twoT_of {T : List Ent} {s : List UInt8} {a b : Int} (h : encT T T.length s = [a, b]) : twoT T s = some (a, b) := by
  unfold twoT; rw [h]
theorem twoT_none {T : List Ent} {s : List UInt8} (h : (encT T T.length s).length ≠ 2) : twoT T s = none := by
  unfold twoT
  split
  · rename_i x y e
    rw [e] at h
    exact absurd rfl h
  · rfl
/-- the error's number of one more token; the table behind it -/
def errT (T : List Ent) (s : List UInt8) : Int := match twoT T s with
  | none => 2
  | some m => (addT T m.1 m.2).2.1
def nextT (T : List Ent) (s : List UInt8) : List Ent := match twoT T s with
  | none => T
  | some m => (addT T m.1 m.2).2.2
def impsT (T : List Ent) : List (List UInt8) → Option (List Ent)
  | [] => some T
  | s :: l => if errT T s = 0 then impsT (nextT T s) l else none
theorem errT_some {T : List Ent} {s : List UInt8} {m : Int × Int} (h : twoT T s = some m) : errT T s = (addT T m.1 m.2).2.1 ∧ nextT T s = (addT T m.1 m.2).2.2 := by
  unfold errT nextT; rw [h]; exact ⟨rfl, rfl⟩
theorem errT_none {T : List Ent} {s : List UInt8} (h : twoT T s = none) : errT T s = 2 := by unfold errT; rw [h]
theorem errT_ok {T : List Ent} {s : List UInt8} (h : errT T s = 0) : ∃ a b, twoT T s = some (a, b) ∧ (addT T a b).2.1 = 0 ∧ nextT T s = (addT T a b).2.2 := by
  cases ht : twoT T s with
  | none => rw [errT_none ht] at h; cases h
  | some m =>
    obtain ⟨a, b⟩ := m
    obtain ⟨h1, h2⟩ := errT_some ht
    rw [h1] at h
    exact ⟨a, b, rfl, h, h2⟩
theorem okT_next {T : List Ent} {s : List UInt8} (hT : OkT T) (h : errT T s = 0) : OkT (nextT T s) := by
  obtain ⟨a, b, _, h1, h2⟩ := errT_ok h
  rw [h2]
  exact okT_add hT a b h1
theorem addsT_next {T : List Ent} {s : List UInt8} (hT : AddsT T) (h : errT T s = 0) : AddsT (nextT T s) := by
  obtain ⟨a, b, _, h1, h2⟩ := errT_ok h
  rw [h2]
  exact addsT_add hT a b h1
theorem impsT_snoc (s : List UInt8) : ∀ (l : List (List UInt8)) (T : List Ent), impsT T (l ++ [s]) = (impsT T l).bind (fun T' => if errT T' s = 0 then some (nextT T' s) else none)
  | [], T => by simp only [List.nil_append, impsT, Option.bind_some]
  | x :: l, T => by
    simp only [List.cons_append, impsT]
    split
    · exact impsT_snoc s l _
    · rfl
theorem impsT_take (l : List (List UInt8)) : ∀ (T T' : List Ent) (k : Nat) (hk : k < l.length) (Tk : List Ent), impsT T l = some T' → impsT T (l.take k) = some Tk → errT Tk l[k] = 0 := by
  induction l with
  | nil => intro T T' k hk; exact absurd hk (by simp)
  | cons a l ih =>
    intro T T' k hk Tk h1 h2
    simp only [impsT] at h1
    split at h1
    · rename_i h0
      match k, hk, h2 with
      | 0, _, h2 => simp only [List.take_zero, impsT, Option.some.injEq] at h2; subst h2; exact h0
      | k + 1, hk, h2 =>
        simp only [List.take_succ_cons, impsT, if_pos h0] at h2
        exact ih _ _ k (by simpa using hk) _ h1 h2
    · cases h1
theorem impsT_adds : ∀ (l : List (List UInt8)) (T T' : List Ent), AddsT T → impsT T l = some T' → AddsT T'
  | [], T, T', h, e => by simp only [impsT, Option.some.injEq] at e; subst e; exact h
  | s :: l, T, T', h, e => by
    simp only [impsT] at e
    split at e
    · rename_i h0
      exact impsT_adds l _ _ (addsT_next h h0) e
    · cases e
/-- the bytes of the tokens that a table makes -/
def expT (T : List Ent) : List (List UInt8) := (T.drop 256).map (·.1)
theorem expT_len (T : List Ent) : (expT T).length = T.length - 256 := by simp [expT]
/-- can a table's tokens be imported? -/
def plainT (T : List Ent) : Bool := match impsT baseT (expT T) with
  | some T' => decide (mrgsT T' = mrgsT T)
  | none => false
theorem expT_base : expT baseT = [] := by
  apply List.eq_nil_of_length_eq_zero
  rw [expT_len, base_len]
theorem adds_eq {T T' : List Ent} (h : AddsT T) (h' : AddsT T') (e : mrgsT T' = mrgsT T) : T' = T := by
  have h1 := h.2
  have h2 := h'.2
  rw [e, h1] at h2
  exact (Option.some.inj h2).symm
/-- what was imported is what was told -/
theorem impsT_exp : ∀ (l : List (List UInt8)) (T T' : List Ent), OkT T → impsT T l = some T' → expT T' = expT T ++ l
  | [], T, T', _, e => by simp only [impsT, Option.some.injEq] at e; subst e; simp
  | s :: l, T, T', hT, e => by
    simp only [impsT] at e
    split at e
    · rename_i h0
      have ih := impsT_exp l _ _ (okT_next hT h0) e
      obtain ⟨a, b, h1, h2, h3⟩ := errT_ok h0
      obtain ⟨_, _, h4, _⟩ := addT_fine h2
      have h5 := twoT_some h1
      have hcat := encT_cat hT T.length s
      rw [h5] at hcat
      have hhas := encT_has hT T.length s
      rw [h5] at hhas
      have hs : (entT T a).1 ++ (entT T b).1 = s := by
        rw [← hcat]
        show _ = bytesT T a ++ (bytesT T b ++ [])
        unfold bytesT
        rw [if_pos (hhas a (by simp)), if_pos (hhas b (by simp)), List.append_nil]
      rw [ih, h3, h4, hs]
      have h256 := okT_256 hT
      unfold expT
      rw [List.drop_append_of_le_length h256]
      simp
    · cases e
theorem mrgsT_app {T : List Ent} (h : 256 ≤ T.length) (e : Ent) : mrgsT (T ++ [e]) = mrgsT T ++ [e.2] := by
  unfold mrgsT
  rw [List.drop_append_of_le_length h]
  simp
/-- tables that grow by import: the first ones' merges are the first ones -/
theorem impsT_mrgs : ∀ (l : List (List UInt8)) (T T' : List Ent), OkT T → impsT T l = some T' → ∃ M, mrgsT T' = mrgsT T ++ M
  | [], T, T', _, e => by simp only [impsT, Option.some.injEq] at e; subst e; exact ⟨[], by simp⟩
  | s :: l, T, T', hT, e => by
    simp only [impsT] at e
    split at e
    · rename_i h0
      obtain ⟨M, hM⟩ := impsT_mrgs l _ _ (okT_next hT h0) e
      obtain ⟨a, b, h1, h2, h3⟩ := errT_ok h0
      obtain ⟨_, _, h4, _⟩ := addT_fine h2
      rw [h3, h4, mrgsT_app (okT_256 hT)] at hM
      exact ⟨_, by rw [hM, List.append_assoc]⟩
    · cases e
theorem seqE_one (M : List (Int × Int)) (c x : Int) : seqE M c [x] = [x] := by
  induction M generalizing c with
  | nil => rfl
  | cons m M ih => rw [seqE]; exact ih _
theorem seqE_app (M N : List (Int × Int)) (c : Int) (l : List Int) : seqE (M ++ N) c l = seqE N (c + M.length) (seqE M c l) := by
  induction M generalizing c l with
  | nil => simp [seqE]
  | cons m M ih =>
    rw [List.cons_append, seqE, seqE, ih]
    congr 1
    simp; omega
theorem mrgsB_len (T : List Ent) : mrgsB T T.length = mrgsT T := by
  unfold mrgsB
  apply List.take_of_length_le
  rw [mrgs_len]
  omega
/-- each token that was imported is made of its bytes -/
theorem plain_alone : ∀ (l : List (List UInt8)) (T T' : List Ent), OkT T → impsT T l = some T' → ∀ (k : Nat) (hk : k < l.length), encT T' T'.length l[k] = [((T.length + k : Nat) : Int)]
  | [], _, _, _, _, k, hk => absurd hk (by simp)
  | s :: l, T, T', hT, e, k, hk => by
    simp only [impsT] at e
    split at e
    · rename_i h0
      obtain ⟨a, b, h1, h2, h3⟩ := errT_ok h0
      obtain ⟨_, _, h4, _⟩ := addT_fine h2
      have hT2 := okT_next hT h0
      rw [h3, h4] at hT2 e
      cases k with
      | zero =>
        obtain ⟨M, hM⟩ := impsT_mrgs l _ _ hT2 e
        rw [mrgsT_app (okT_256 hT)] at hM
        have h5 := twoT_some h1
        unfold encT at h5 ⊢
        rw [mrgsB_len] at h5 ⊢
        rw [hM, List.append_assoc, seqE_app]
        show seqE ([(a, b)] ++ M) _ (seqE (mrgsT T) 256 (bysI s)) = _
        rw [h5, List.singleton_append, seqE, rep, if_pos ⟨rfl, rfl⟩]
        have h6 := okT_256 hT
        have h7 : (256 : Int) + ((mrgsT T).length : Nat) = ((T.length + 0 : Nat) : Int) := by rw [mrgs_len]; omega
        rw [← h7]
        exact seqE_one M _ _
      | succ k =>
        have ih := plain_alone l _ _ hT2 e k (by simpa using hk)
        simp only [List.getElem_cons_succ]
        rw [ih]
        congr 1
        simp only [List.length_append, List.length_singleton]
        omega
    · cases e
end Go.Proofs.Ytpkmcokkapfnmaa
/- Layer 7 (grow): parents, Import. -/
namespace Go.Proofs.Ytpkmcokkapfnmaa
open Go.RowKit Go.Maps Go.WideMaps
set_option maxRecDepth 100000
set_option linter.unusedVariables false
set_option linter.unusedSimpArgs false

section
variable {w w' : World} {tbase tb : Nat} {T : List Ent} {sv : Value} {mb mp : Nat}
theorem parents_any (h : TabIs w tbase tb T sv mb mp) (hT : OkT T) (s : ByteArray) (hs : s.size ≤ 100000000) :
    Calls Try.prog 47 #[.pointer (some ⟨tb, 0, none⟩), .string s] w fun e w' => e = .returned (.tuple #[pairV ((twoT T s.data.toList).getD (0, 0)), .bool (twoT T s.data.toList).isSome]) ∧ Below w.heap.size w w' := by
  have hba := (Below.refl w.heap.size w).alloc (Nat.le_refl _) (.cells #[.int .i64 0, .int .i64 0] 71)
  have HN := Lib.hid (blk_new w (.cells #[.int .i64 0, .int .i64 0] 71))
  have HB := Lib.hid hba
  have HT := Lib.hid (h.below hba (Nat.le_refl _))
  have HLT := Lib.hid (show w.heap.size < (w.alloc (.cells #[.int .i64 0, .int .i64 0] 71)).heap.size from by simp)
  have HOK := Lib.hid hT
  clear h hT hba
  go_enter Try.func47, Try.ntmps47
  go_wp2_with fail
  generalize w.alloc (.cells #[.int .i64 0, .int .i64 0] 71) = w1 at *
  refine (encode_any HT.out HOK.out s hs).mono ?_
  rintro e w2 ⟨⟨v, rfl, hv⟩, hb⟩
  obtain ⟨A, c, rfl, hsl⟩ := ints_sl hv
  replace HN := Lib.hid (blk_below hb HLT.out HN.out)
  replace HB := Lib.hid (HB.out.trans (hb.mono HB.out.size))
  have hsz := encT_len T T.length s
  have H2 := Lib.hid (fun a b => twoT_of (T := T) (s := s.data.toList) (a := a) (b := b))
  have HNO := Lib.hid (twoT_none (T := T) (s := s.data.toList))
  generalize encT T T.length s.data.toList = ids at *
  have d0 := blk_cell HN.out 0
  have d1 := blk_cell HN.out 1
  have z0 := blk_froz HN.out 0
  have z1 := blk_froz HN.out 1
  simp only [List.getElem?_toArray, List.getElem?_cons_zero, List.getElem?_cons_succ] at d0 d1
  have HSL := Lib.hid hsl
  clear hv hb hsl HT
  by_cases h2 : ids.length = 2
  · obtain ⟨a, b, rfl⟩ : ∃ a b, ids = [a, b] := by
      match ids, h2 with
      | [a, b], _ => exact ⟨a, b, rfl⟩
    have h3 := H2.out a b rfl
    have H3 := Lib.hid h3
    have HX := Lib.hid HSL.out
    obtain ⟨b1, o1, hA, c0⟩ := HSL.out 0 a rfl
    subst hA
    obtain ⟨b1', o1', e, c1⟩ := HSL.out 1 b rfl
    injection e with e
    injection e with e1 e2
    subst e1; subst e2
    clear h3 h2 HX
    have hl2 : ([a, b] : List Int).length = 2 := rfl
    rw [hl2]
    clear hl2
    go_upto_region 4 with fail
    clear d0 d1 z0 z1
    refine wp_region_D (Ds := [7]) (S := fun V => V.cell? ⟨b1, o1, none⟩ = some (.int .i64 a) ∧ V.cell? ⟨b1, o1 + 1, none⟩ = some (.int .i64 b)) (by kernel_rfl) (by exact ⟨c0, c1⟩) (fun hHeld => ?_)
    (replace HB := Lib.hid HB.out.drew); (have HN : Hid (w2.drew.heap[w.heap.size]? = some (.cells #[.int .i64 0, .int .i64 0] 71)) := Lib.hid HN.out); clear c0 c1; generalize w2.drew = w3 at *
    refine wpAnyD_takeP (i := 0) (oi := { dst := some 14, op := Op.move (Operand.tmp 6), type := 31, pos := "grow.go:18", after := #[], guard := none }) (d := 14) (v := ?_) rfl rfl (by kernel_rfl) (by kernel_rfl) (by kernel_rfl) (fun _ _ _ h => h) (Or.inl ⟨by rfl, ?_⟩) ?_
    rotate_left
    · (intro w' _; go_simp; (try with_reducible rfl))
    simp only [List.setIfInBounds_toArray, List.set_cons_zero, List.set_cons_succ]
    refine wpAnyD_takeP (i := 1) (oi := { dst := some 15, op := Op.indexAddr 31 (Operand.tmp 14) (Operand.const (Value.int IntKind.i64 0)), type := 0, pos := "grow.go:18", after := #[{ on := 0, ground := Ground.data }], guard := none }) (d := 15) (v := ?_) rfl rfl (by kernel_rfl) (by kernel_rfl) (by kernel_rfl) (fun _ _ _ h => h) (Or.inl ⟨by rfl, ?_⟩) ?_
    rotate_left
    · (intro w' _; go_simp; (try with_reducible rfl))
    simp only [List.setIfInBounds_toArray, List.set_cons_zero, List.set_cons_succ]
    refine wpAnyD_takeP (i := 3) (oi := { dst := some 17, op := Op.move (Operand.tmp 6), type := 31, pos := "grow.go:18", after := #[], guard := none }) (d := 17) (v := ?_) rfl rfl (by kernel_rfl) (by kernel_rfl) (by kernel_rfl) (fun _ _ _ h => h) (Or.inl ⟨by rfl, ?_⟩) ?_
    rotate_left
    · (intro w' _; go_simp; (try with_reducible rfl))
    simp only [List.setIfInBounds_toArray, List.set_cons_zero, List.set_cons_succ]
    refine wpAnyD_takeP (i := 4) (oi := { dst := some 18, op := Op.indexAddr 31 (Operand.tmp 17) (Operand.const (Value.int IntKind.i64 1)), type := 0, pos := "grow.go:18", after := #[{ on := 3, ground := Ground.data }], guard := none }) (d := 18) (v := ?_) rfl rfl (by kernel_rfl) (by kernel_rfl) (by kernel_rfl) (fun _ _ _ h => h) (Or.inl ⟨by rfl, ?_⟩) ?_
    rotate_left
    · (intro w' _; go_simp; (try with_reducible rfl))
    simp only [List.setIfInBounds_toArray, List.set_cons_zero, List.set_cons_succ]
    refine wpAnyD_takeD (i := 2) (oi := { dst := some 16, op := Op.load 3 (Operand.tmp 15), type := 3, pos := "grow.go:18", after := #[{ on := 1, ground := Ground.data }], guard := none }) (d := 16) (v := ?_) rfl rfl (by kernel_rfl) (by kernel_rfl) (by kernel_rfl) (by kernel_rfl) (fun _ _ _ h => h) (Or.inl ⟨by rfl, ?_⟩) hHeld ?_
    rotate_left
    · (intro w' hSw; (try dsimp only at hSw); go_simp; (try with_reducible rfl))
    simp only [List.setIfInBounds_toArray, List.set_cons_zero, List.set_cons_succ]
    refine wpAnyD_takeD (i := 5) (oi := { dst := some 19, op := Op.load 3 (Operand.tmp 18), type := 3, pos := "grow.go:18", after := #[{ on := 4, ground := Ground.data }], guard := none }) (d := 19) (v := ?_) rfl rfl (by kernel_rfl) (by kernel_rfl) (by kernel_rfl) (by kernel_rfl) (fun _ _ _ h => h) (Or.inl ⟨by rfl, ?_⟩) hHeld ?_
    rotate_left
    · (intro w' hSw; (try dsimp only at hSw); go_simp; (try with_reducible rfl))
    simp only [List.setIfInBounds_toArray, List.set_cons_zero, List.set_cons_succ]
    refine wpAnyD_takeP (i := 6) (oi := { dst := some 20, op := Op.build 71 #[(0, Operand.tmp 16), (1, Operand.tmp 19)], type := 71, pos := "grow.go:18", after := #[{ on := 2, ground := Ground.data }, { on := 5, ground := Ground.data }], guard := none }) (d := 20) (v := ?_) rfl rfl (by kernel_rfl) (by kernel_rfl) (by kernel_rfl) (fun _ _ _ h => h) (Or.inl ⟨by rfl, ?_⟩) ?_
    rotate_left
    · (intro w' _; go_simp; (try with_reducible rfl))
    simp only [List.setIfInBounds_toArray, List.set_cons_zero, List.set_cons_succ]
    refine wpAnyD_last (D := 7) (by decide) (o := { dst := none, op := Op.store 71 (Operand.tmp 4) (Operand.tmp 20), type := 0, pos := "grow.go:18", after := #[{ on := 6, ground := Ground.data }, { on := 0, ground := Ground.phase }, { on := 1, ground := Ground.phase }, { on := 2, ground := Ground.phase }, { on := 3, ground := Ground.phase }, { on := 4, ground := Ground.phase }, { on := 5, ground := Ground.phase }, { on := 6, ground := Ground.phase }], guard := none }) (by kernel_rfl) rfl (by rfl) (fun K hK => ?_)
    have d0 := blk_cell HN.out 0; have d1 := blk_cell HN.out 1; have z0 := blk_froz HN.out 0; have z1 := blk_froz HN.out 1; simp only [List.getElem?_toArray, List.getElem?_cons_zero, List.getElem?_cons_succ] at d0 d1; go_simp; clear d0 d1 z0 z1
    refine hK.out _ _ ?_
    clear hK K
    try simp only [Act.put, List.setIfInBounds_toArray, List.set_cons_zero, List.set_cons_succ]
    refine wpAnyD_takeP (i := 8) (oi := { dst := some 5, op := Op.assign (Operand.const (Value.bool true)), type := 4, pos := "grow.go:18", after := #[{ on := 7, ground := Ground.chain }, { on := 0, ground := Ground.phase }, { on := 1, ground := Ground.phase }, { on := 2, ground := Ground.phase }, { on := 3, ground := Ground.phase }, { on := 4, ground := Ground.phase }, { on := 5, ground := Ground.phase }, { on := 6, ground := Ground.phase }, { on := 7, ground := Ground.phase }], guard := none }) (d := 5) (v := ?_) rfl rfl (by kernel_rfl) (by kernel_rfl) (by kernel_rfl) (fun _ _ _ h => h) (Or.inl ⟨by rfl, ?_⟩) ?_
    rotate_left
    · (intro w' _; go_simp; (try with_reducible rfl))
    simp only [List.setIfInBounds_toArray, List.set_cons_zero, List.set_cons_succ]
    refine wpAnyD_done (by kernel_rfl) ?_ _
    have hn5 := blk_set (blk_set HN.out 0 (.int .i64 a)) 1 (.int .i64 b)
    simp only [List.setIfInBounds_toArray, List.set_cons_zero, List.set_cons_succ] at hn5
    have HN5 := Lib.hid hn5
    clear hn5
    go_wp2_with fail
    refine ret_cell_tmp1 rfl rfl rfl (load_mrg HN5.out) ⟨by rw [H3.out]; rfl, ?_⟩
    exact (HB.out.setCell (p := ⟨w.heap.size, 0, none⟩) (Nat.le_refl _) _).setCell (p := ⟨w.heap.size, 1, none⟩) (Nat.le_refl _) _
  · have h3 := HNO.out h2
    have H3 := Lib.hid h3
    have hn1 : (ids.length != 2) = true := by simpa using h2
    have hn2 : ((ids.length : Int) != 2) = true := by simp; omega
    clear h3 h2
    go_wp2_with fail
    have hn5 := blk_set (blk_set HN.out 0 (.int .i64 0)) 1 (.int .i64 0)
    simp only [List.setIfInBounds_toArray, List.set_cons_zero, List.set_cons_succ] at hn5
    refine ret_cell_tmp1 rfl rfl rfl (load_mrg hn5) ⟨by rw [H3.out]; rfl, ?_⟩
    exact (HB.out.setCell (p := ⟨w.heap.size, 0, none⟩) (Nat.le_refl _) _).setCell (p := ⟨w.heap.size, 1, none⟩) (Nat.le_refl _) _
end
structure ImpIs (w W : World) (l : List (List UInt8)) (tb mb mp k : Nat) : Prop where
  ex : ∃ T sv, impsT baseT (l.take k) = some T ∧ OkT T ∧ TabIs W w.heap.size tb T sv mb mp
  below : Below w.heap.size w W
set_option maxHeartbeats 4000000 in
theorem import_any (l : List (List UInt8)) (A : Option Addr) (c : Nat) (w : World) (hl : Sl1 w A strV l) (hlen : l.length < 9000000000000000000) (hsz : ∀ s ∈ l, s.length ≤ 100000000) :
    Calls Try.prog 30 #[.slice A l.length c] w fun e w' => Below w.heap.size w w' ∧
      ((∃ T tb sv mb mp, e = .returned (.tuple #[.pointer (some ⟨tb, 0, none⟩), .int .i64 (l.length : Nat), .int .i64 0]) ∧ impsT baseT l = some T ∧ OkT T ∧ TabIs w' w.heap.size tb T sv mb mp) ∨
      (∃ (k : Nat) (hk : k < l.length) (T : List Ent), impsT baseT (l.take k) = some T ∧ OkT T ∧ errT T l[k] ≠ 0 ∧ e = .returned (.tuple #[.pointer none, .int .i64 (k : Nat), .int .i64 (errT T l[k])]))) := by
  have HL := Lib.hid hl
  have HSZ := Lib.hid hsz
  clear hl hsz
  go_enter Try.func30, Try.ntmps30
  go_wp2_with fail
  refine (new_ok (l := []) (T := baseT) rfl none 0 w (Sl.nil _ _ _ _) (by decide)).mono ?_
  rintro e w0 ⟨tb, sv, mb, mp, rfl, hok, ht, hb⟩
  have HS := Lib.hid (show ImpIs w w0 l tb mb mp 0 from ⟨⟨baseT, sv, by simp [impsT], hok, ht⟩, hb⟩)
  have HLZ : Hid (((([] : List (Int × Int)).length : Nat) : Int) = 0) := Lib.hid rfl
  rw [HLZ.out]
  clear hok ht hb HLZ
  go_wp2_with fail
  go_loopg [24] l.length (fun n i W => ∃ k : Nat, k + n = l.length ∧ i = .int .i64 (k : Int) ∧ ImpIs w W l tb mb mp k)
  case atStart => exact ⟨0, by omega, rfl, HS.out⟩
  case round =>
    obtain ⟨k, hk, rfl, hW⟩ := hrel
    clear HS
    rename World => W
    have HK := Lib.hid hk
    by_cases hlt : k < l.length
    · obtain ⟨T, sv, ha, hok, ht⟩ := hW.ex
      obtain ⟨ba, o, rfl, g0⟩ := (HL.out.below hW.below (Nat.le_refl _)).at k hlt
      obtain ⟨x, hx⟩ : ∃ x, l[k] = x := ⟨_, rfl⟩
      rw [hx] at g0
      have HX := Lib.hid hx
      have hxs : x.length ≤ 100000000 := by rw [← hx]; exact HSZ.out _ (List.getElem_mem hlt)
      have HA := Lib.hid ha
      have HOK := Lib.hid hok
      have HT := Lib.hid ht
      have HB := Lib.hid hW.below
      have HTK := Lib.hid (take_snoc hlt)
      have q0 : 0 ≤ (k : Int) := by omega
      have q1 : (k : Int) < (l.length : Int) := by omega
      have wk : IntKind.i64.wrap ((k : Int) + 1) = (k : Int) + 1 := IntWalk.i64_in _ (by omega)
      have HPA := Lib.hid (parents_any ht hok (bs x) (by rw [bs_size]; exact hxs))
      have HDX : Hid ((bs x).data.toList = x) := Lib.hid rfl
      rw [HDX.out] at HPA
      unfold strV at g0
      clear hx ha hok ht hW hk hxs
      generalize bs x = Z at *
      go_wp2_with fail
      refine HPA.out.mono ?_
      rintro e W1 ⟨rfl, hb⟩
      replace HT := Lib.hid (HT.out.below hb (Nat.le_refl _))
      replace HB := Lib.hid (HB.out.trans (hb.mono HB.out.size))
      clear hb HPA g0
      cases h2 : twoT T x with
      | none =>
        have HE := Lib.hid (errT_none h2)
        have HB2 := Lib.hid (HB.out.alloc HB.out.size (.cells #[.int .i64 0, .int .i64 0] 71))
        simp only [Option.getD_none, Option.isSome_none, pairV]
        clear h2
        go_wp2_with fail
        refine bodyPost_ret (results_tmp3 rfl _ _ _) rfl ⟨HB2.out, .inr ⟨k, hlt, T, HA.out, HOK.out, ?_, ?_⟩⟩
        · rw [HX.out, HE.out]; decide
        · rw [HX.out, HE.out]; rfl
      | some m =>
        obtain ⟨a, b⟩ := m
        have HE := Lib.hid (errT_some h2)
        simp only [Option.getD_some, Option.isSome_some, pairV]
        have hba := (Below.refl W1.heap.size W1).alloc (Nat.le_refl _) (.cells #[.int .i64 a, .int .i64 b] 71)
        have bn := blk_new W1 (.cells #[.int .i64 a, .int .i64 b] 71)
        have n0 := blk_cell bn 0
        have n1 := blk_cell bn 1
        simp only [List.getElem?_toArray, List.getElem?_cons_zero, List.getElem?_cons_succ] at n0 n1
        replace HT := Lib.hid (HT.out.below hba (Nat.le_refl _))
        replace HB := Lib.hid (HB.out.trans (hba.mono HB.out.size))
        clear h2 bn hba
        go_upto_region 8 with fail
        generalize W1.alloc (.cells #[.int .i64 a, .int .i64 b] 71) = W2 at *
        generalize W1.heap.size = g2 at *
        go_wp2_with fail
        by_cases he : (addT T a b).2.1 = 0
        · have HZ := Lib.hid he
          refine (add_ok a b HT.out HOK.out he HB.out.size).mono ?_
          rintro e w' ⟨rfl, had⟩
          obtain ⟨sv', ht', hn⟩ := had.ex
          have HT2 := Lib.hid ht'
          have HB2 := Lib.hid (HB.out.trans (had.keep.below HB.out.size (fun g hg => by
            rcases hg with rfl | hg | rfl | rfl
            · exact HT.out.lt.1
            · exact own_base HT.out.row g hg
            · exact HT.out.lt.2.1
            · exact HT.out.lt.2.2)))
          clear ht' hn had he n0 n1
          go_wp2_with fail
          go_roundg (gk - 1)
          case measure => have := HK.out; omega
          case rel =>
            refine ⟨k + 1, by have := HK.out; omega, by simp, ⟨⟨(addT T a b).2.2, sv', ?_, okT_add HOK.out _ _ HZ.out, HT2.out⟩, HB2.out⟩⟩
            have e1 := HE.out.1
            have e2 := HE.out.2
            (try simp only at e1 e2)
            rw [HTK.out, HX.out, impsT_snoc, HA.out]
            simp only [Option.bind_some, e1, e2, HZ.out, if_true]
        · have HZ := Lib.hid he
          refine (add_err a b HT.out HOK.out he).mono ?_
          rintro e w' ⟨rfl, hbw⟩
          have HB2 := Lib.hid (HB.out.trans (hbw.mono HB.out.size))
          obtain ⟨E, hE⟩ : ∃ E, (addT T a b).2.1 = E := ⟨_, rfl⟩
          have HEE := Lib.hid hE
          rw [hE] at he ⊢
          have hne : (E != 0) = true := by simpa using he
          clear hbw hE he n0 n1
          go_wp2_with fail
          refine bodyPost_ret (results_tmp3 rfl _ _ _) rfl ⟨HB2.out, .inr ⟨k, hlt, T, HA.out, HOK.out, ?_, ?_⟩⟩
          · rw [HX.out, HE.out.1]; exact HZ.out
          · rw [HX.out, HE.out.1]; (try simp only); rw [HEE.out]; rfl
    · have hke : k = l.length := by omega
      subst hke
      obtain ⟨T, sv, ha, hok, ht⟩ := hW.ex
      rw [List.take_length] at ha
      have HA := Lib.hid ha
      have HOK := Lib.hid hok
      have HT := Lib.hid ht
      have HB := Lib.hid hW.below
      clear hW ha hok ht hk HK
      go_wp2_with fail
      refine bodyPost_ret (results_tmp3 rfl _ _ _) rfl ⟨HB.out, .inl ⟨T, tb, sv, mb, mp, rfl, HA.out, HOK.out, HT.out⟩⟩
end Go.Proofs.Ytpkmcokkapfnmaa
/- Layer 7 (grow): the document's answer: Import. -/
namespace Go.Proofs.Ytpkmcokkapfnmaa
open Go.RowKit Go.Maps Go.WideMaps
set_option maxRecDepth 100000
set_option linter.unusedVariables false
set_option linter.unusedSimpArgs false

structure RImp (w W : World) (l : List (List UInt8)) (r tb k : Nat) (T : List Ent) : Prop where
  imps : impsT baseT (l.take k) = some T
  ok : OkT T
  var : RVar w W r tb T
set_option maxHeartbeats 4000000 in
theorem rimport_any (l : List (List UInt8)) (A : Option Addr) (c : Nat) (w : World) (hl : Sl1 w A strV l) (hlen : l.length < 9000000000000000000) (hsz : ∀ s ∈ l, s.length ≤ 100000000) :
    Calls Try.prog 31 #[.slice A l.length c] w fun e w' => Below w.heap.size w w' ∧ ∃ (k : Nat) (T : List Ent) (A1 : Option Addr) (n1 c1 : Nat) (A2 : Option Addr) (n2 c2 : Nat) (no : Int), e = .returned (.tuple #[.agg #[.slice A1 n1 c1, .slice A2 n2 c2], .int .i64 (k : Nat), .int .i64 no]) ∧
      RefIs w' w.heap.size T (.slice A1 n1 c1) (.slice A2 n2 c2) ∧ OkT T ∧ impsT baseT (l.take k) = some T ∧ ((k = l.length ∧ no = 0) ∨ ∃ hk : k < l.length, no = errT T l[k] ∧ no ≠ 0) := by
  have HL := Lib.hid hl
  have HSZ := Lib.hid hsz
  clear hl hsz
  go_enter Try.func31, Try.ntmps31
  go_wp2_with fail
  refine (rbegin_any _).mono ?_
  rintro e w1 ⟨vb, rfl, hr, hb⟩
  obtain ⟨A1, c1, rfl⟩ := own_slice hr.row
  go_wp2_with fail
  have HS := Lib.hid (RVar.start hr hb)
  clear hr hb
  generalize hW : w1.alloc (.cells #[.slice A1 baseT.length c1, .slice none 0 0] 28) = W0 at *
  obtain ⟨r, hr⟩ : ∃ r, w.heap.size = r := ⟨_, rfl⟩
  obtain ⟨tb, ht⟩ : ∃ tb, w1.heap.size = tb := ⟨_, rfl⟩
  have HS1 : Hid (RVar w W0 r tb baseT) := Lib.hid (by rw [← hr, ← ht]; exact HS.out)
  rw [hr, ht]
  clear HS hr ht hW
  go_loopg [6] l.length (fun n i W => ∃ k T, k + n = l.length ∧ i = .int .i64 ((k : Nat) : Int) ∧ RImp w W l r tb k T)
  case atStart => exact ⟨0, baseT, by omega, rfl, by simp [impsT], okT_base, HS1.out⟩
  case round =>
    obtain ⟨k, T, hk, rfl, hW⟩ := hrel
    clear HS1
    rename World => W
    obtain ⟨A3, c3, A4, c4, hbk, href⟩ := hW.var.ex
    have HREF := Lib.hid href
    have HK := Lib.hid hk
    by_cases hlt : k < l.length
    · have q0 : 0 ≤ (k : Int) := by omega
      have q1 : (k : Int) < (l.length : Int) := by omega
      have wk : IntKind.i64.wrap ((k : Int) + 1) = (k : Int) + 1 := IntWalk.i64_in _ (by omega)
      have c0 := blk_cell hbk 0
      have c1' := blk_cell hbk 1
      simp only [List.getElem?_toArray, List.getElem?_cons_zero, List.getElem?_cons_succ] at c0 c1'
      obtain ⟨ba, o, rfl, g0⟩ := (HL.out.below hW.var.below (Nat.le_refl _)).at k hlt
      obtain ⟨x, hx⟩ : ∃ x, l[k] = x := ⟨_, rfl⟩
      rw [hx] at g0
      have HX := Lib.hid hx
      have hxs : x.length ≤ 100000000 := by rw [← hx]; exact HSZ.out _ (List.getElem_mem hlt)
      have HTK := Lib.hid (take_snoc hlt)
      have HW := Lib.hid hW
      have HALL : Hid (∀ V, Below W.heap.size W V → Calls Try.prog 15 #[.agg #[.slice A3 T.length c3, .slice A4 (mrgsT T).length c4], .string (bs x)] V fun e w' => (∃ v, e = .returned v ∧ IntsIs w' V.heap.size v (encT T T.length x)) ∧ Below V.heap.size V w') := Lib.hid (fun V hV => rall_any (HREF.out.below hV (Nat.le_refl _)) HW.out.ok (bs x) (by rw [bs_size]; exact hxs))
      unfold strV at g0
      have HEL := Lib.hid (encT_len T T.length (bs x))
      have HDX : Hid ((bs x).data.toList = x) := Lib.hid rfl
      rw [HDX.out] at HEL
      have HZS := Lib.hid (show (bs x).size ≤ 100000000 by rw [bs_size]; exact hxs)
      clear hx hxs hk hW href hbk
      generalize bs x = Z at *
      have HSC : Hid (∀ V, Below W.heap.size W V → V.cell? ⟨tb, 0, none⟩ = some (.slice A3 T.length c3) ∧ V.cell? ⟨tb, 1, none⟩ = some (.slice A4 (mrgsT T).length c4) ∧ V.cell? ⟨ba, o + k, none⟩ = some (.string Z)) := Lib.hid (fun V hV => ⟨below_cell hV (Nat.le_refl _) c0, below_cell hV (Nat.le_refl _) c1', below_cell hV (Nat.le_refl _) g0⟩)
      have HBB : Hid (Below W.heap.size W W.drew) := Lib.hid ⟨rfl, rfl, rfl, Nat.le_refl _, fun _ _ => rfl⟩
      clear c0 c1' g0
      go_upto_region 5 with fail
      refine wp_region_D (Ds := []) (S := fun V => V.cell? ⟨tb, 0, none⟩ = some (.slice A3 T.length c3) ∧ V.cell? ⟨tb, 1, none⟩ = some (.slice A4 (mrgsT T).length c4) ∧ V.cell? ⟨ba, o + k, none⟩ = some (.string Z)) (by kernel_rfl) (by exact HSC.out _ HBB.out) (fun hHeld => ?_)
      refine wpAnyD_takeP (i := 1) (oi := { dst := some 18, op := Op.move (Operand.tmp 0), type := 25, pos := "ref.go:14", after := #[], guard := none }) (d := 18) (v := ?_) rfl rfl (by kernel_rfl) (by kernel_rfl) (by kernel_rfl) (fun _ _ _ h => h) (Or.inl ⟨by rfl, ?_⟩) ?_
      rotate_left
      · (intro w' _; go_simp; (try with_reducible rfl))
      simp only [List.setIfInBounds_toArray, List.set_cons_zero, List.set_cons_succ]
      refine wpAnyD_takeP (i := 2) (oi := { dst := some 19, op := Op.move (Operand.tmp 6), type := 3, pos := "ref.go:14", after := #[], guard := none }) (d := 19) (v := ?_) rfl rfl (by kernel_rfl) (by kernel_rfl) (by kernel_rfl) (fun _ _ _ h => h) (Or.inl ⟨by rfl, ?_⟩) ?_
      rotate_left
      · (intro w' _; go_simp; (try with_reducible rfl))
      simp only [List.setIfInBounds_toArray, List.set_cons_zero, List.set_cons_succ]
      refine wpAnyD_takeP (i := 3) (oi := { dst := some 20, op := Op.indexAddr 25 (Operand.tmp 18) (Operand.tmp 19), type := 0, pos := "ref.go:14", after := #[{ on := 1, ground := Ground.data }, { on := 2, ground := Ground.data }], guard := none }) (d := 20) (v := ?_) rfl rfl (by kernel_rfl) (by kernel_rfl) (by kernel_rfl) (fun _ _ _ h => h) (Or.inl ⟨by rfl, ?_⟩) ?_
      rotate_left
      · (intro w' _; go_simp; (try with_reducible rfl))
      simp only [List.setIfInBounds_toArray, List.set_cons_zero, List.set_cons_succ]
      refine wpAnyD_takeD (i := 0) (oi := { dst := some 17, op := Op.load 28 (Operand.tmp 5), type := 28, pos := "ref.go:14", after := #[], guard := none }) (d := 17) (v := ?_) rfl rfl (by kernel_rfl) (by kernel_rfl) (by kernel_rfl) (by kernel_rfl) (fun _ _ _ h => h) (Or.inl ⟨by rfl, ?_⟩) hHeld ?_
      rotate_left
      · (intro w' hSw; (try dsimp only at hSw); go_simp; (try with_reducible rfl))
      simp only [List.setIfInBounds_toArray, List.set_cons_zero, List.set_cons_succ]
      refine wpAnyD_takeD (i := 4) (oi := { dst := some 21, op := Op.load 9 (Operand.tmp 20), type := 9, pos := "ref.go:14", after := #[{ on := 3, ground := Ground.data }], guard := none }) (d := 21) (v := ?_) rfl rfl (by kernel_rfl) (by kernel_rfl) (by kernel_rfl) (by kernel_rfl) (fun _ _ _ h => h) (Or.inl ⟨by rfl, ?_⟩) hHeld ?_
      rotate_left
      · (intro w' hSw; (try dsimp only at hSw); go_simp; (try with_reducible rfl))
      simp only [List.setIfInBounds_toArray, List.set_cons_zero, List.set_cons_succ]
      refine wpAnyD_one (i := 5) (o := { dst := some 22, op := Op.call { callee := Callee.value (Operand.func 15), args := #[Operand.tmp 17, Operand.tmp 21], argTypes := #[28, 9] }, type := 31, pos := "ref.go:14", after := #[{ on := 0, ground := Ground.data }, { on := 4, ground := Ground.data }], guard := none }) (by kernel_rfl) rfl (by rfl) (fun K hK => ?_)
      go_simp; refine (HALL.out _ HBB.out).mono ?_; rintro e V1 ⟨⟨v, rfl, hv⟩, hb⟩; obtain ⟨A5, c5, rfl, hs5⟩ := ints_sl hv; have HS5 := Lib.hid hs5; replace HBB := Lib.hid (HBB.out.trans (hb.mono HBB.out.size)); have h := HSC.out _ HBB.out; clear hv hb hs5; go_simp
      refine hK.out _ _ h (fun hHeld => ?_)
      clear hK K
      try simp only [Act.put, List.setIfInBounds_toArray, List.set_cons_zero, List.set_cons_succ]
      refine wpAnyD_takeP (i := 6) (oi := { dst := some 7, op := Op.assign (Operand.tmp 22), type := 31, pos := "ref.go:14", after := #[{ on := 5, ground := Ground.data }, { on := 5, ground := Ground.chain }, { on := 0, ground := Ground.phase }, { on := 1, ground := Ground.phase }, { on := 2, ground := Ground.phase }, { on := 3, ground := Ground.phase }, { on := 4, ground := Ground.phase }, { on := 5, ground := Ground.phase }], guard := none }) (d := 7) (v := ?_) rfl rfl (by kernel_rfl) (by kernel_rfl) (by kernel_rfl) (fun _ _ _ h => h) (Or.inl ⟨by rfl, ?_⟩) ?_
      rotate_left
      · (intro w' _; go_simp; (try with_reducible rfl))
      simp only [List.setIfInBounds_toArray, List.set_cons_zero, List.set_cons_succ]
      refine wpAnyD_done (by kernel_rfl) ?_ _
      clear hHeld h
      have H2 := Lib.hid (fun a b => twoT_of (T := T) (s := x) (a := a) (b := b))
      have HNO := Lib.hid (twoT_none (T := T) (s := x))
      generalize encT T T.length x = ids at *
      have HV := Lib.hid (HW.out.var.step HBB.out)
      obtain ⟨c0, c1', _⟩ := HSC.out _ HBB.out
      by_cases h2 : ids.length = 2
      · obtain ⟨a, b, rfl⟩ : ∃ a b, ids = [a, b] := by
          match ids, h2 with
          | [a, b], _ => exact ⟨a, b, rfl⟩
        have HE := Lib.hid (errT_some (H2.out a b rfl))
        obtain ⟨b1, o1, hA, e0⟩ := HS5.out 0 a rfl
        subst hA
        obtain ⟨b1', o1', e, e1⟩ := HS5.out 1 b rfl
        injection e with e
        injection e with ea eb
        subst ea; subst eb
        have hl2 : ([a, b] : List Int).length = 2 := rfl
        rw [hl2]
        clear hl2 h2
        have HADD : Hid (∀ V, Below W.heap.size W V → Calls Try.prog 49 #[.agg #[.slice A3 T.length c3, .slice A4 (mrgsT T).length c4], .agg #[.int .i64 a, .int .i64 b]] V (RAddOk V w.heap.size T a b)) := Lib.hid (fun V hV => radd_any a b (HREF.out.below hV (Nat.le_refl _)) HW.out.ok (Nat.le_trans HW.out.var.below.size hV.size))
        go_upto_region 8 with fail
        have HSC2 : Hid (∀ V, Below V1.heap.size V1 V → V.cell? ⟨tb, 0, none⟩ = some (.slice A3 T.length c3) ∧ V.cell? ⟨tb, 1, none⟩ = some (.slice A4 (mrgsT T).length c4) ∧ V.cell? ⟨b1, o1, none⟩ = some (.int .i64 a) ∧ V.cell? ⟨b1, o1 + 1, none⟩ = some (.int .i64 b)) := Lib.hid (fun V hV => ⟨below_cell hV (Nat.le_refl _) c0, below_cell hV (Nat.le_refl _) c1', below_cell hV (Nat.le_refl _) e0, below_cell hV (Nat.le_refl _) e1⟩)
        have HB1 := HBB
        replace HBB : Hid (Below V1.heap.size V1 V1.drew) := Lib.hid ⟨rfl, rfl, rfl, Nat.le_refl _, fun _ _ => rfl⟩
        clear c0 c1' e0 e1 HV
        have HE2 := HE
        refine wp_region_G (D := 14) (S := fun V => V.cell? ⟨tb, 0, none⟩ = some (.slice A3 T.length c3) ∧ V.cell? ⟨tb, 1, none⟩ = some (.slice A4 (mrgsT T).length c4) ∧ V.cell? ⟨b1, o1, none⟩ = some (.int .i64 a) ∧ V.cell? ⟨b1, o1 + 1, none⟩ = some (.int .i64 b)) (by kernel_rfl) (by exact HSC2.out _ HBB.out) (fun hHeld => ?_)
        refine wpAnyG_takeD (i := 0) (oi := { dst := some 29, op := Op.load 28 (Operand.tmp 5), type := 28, pos := "ref.go:18", after := #[], guard := none }) (d := 29) (v := ?_) rfl rfl (by kernel_rfl) (by kernel_rfl) (by kernel_rfl) (by kernel_rfl) (fun _ _ _ h => h) (Or.inl ⟨by rfl, ?_⟩) hHeld ?_
        rotate_left
        · (intro w' hSw; (try dsimp only at hSw); go_simp; (try with_reducible rfl))
        simp only [List.setIfInBounds_toArray, List.set_cons_zero, List.set_cons_succ]
        refine wpAnyG_takeD (i := 1) (oi := { dst := some 30, op := Op.move (Operand.tmp 7), type := 31, pos := "ref.go:18", after := #[], guard := none }) (d := 30) (v := ?_) rfl rfl (by kernel_rfl) (by kernel_rfl) (by kernel_rfl) (by kernel_rfl) (fun _ _ _ h => h) (Or.inl ⟨by rfl, ?_⟩) hHeld ?_
        rotate_left
        · (intro w' hSw; (try dsimp only at hSw); go_simp; (try with_reducible rfl))
        simp only [List.setIfInBounds_toArray, List.set_cons_zero, List.set_cons_succ]
        refine wpAnyG_takeD (i := 2) (oi := { dst := some 31, op := Op.indexAddr 31 (Operand.tmp 30) (Operand.const (Value.int IntKind.i64 0)), type := 0, pos := "ref.go:18", after := #[{ on := 1, ground := Ground.data }], guard := none }) (d := 31) (v := ?_) rfl rfl (by kernel_rfl) (by kernel_rfl) (by kernel_rfl) (by kernel_rfl) (fun _ _ _ h => h) (Or.inl ⟨by rfl, ?_⟩) hHeld ?_
        rotate_left
        · (intro w' hSw; (try dsimp only at hSw); go_simp; (try with_reducible rfl))
        simp only [List.setIfInBounds_toArray, List.set_cons_zero, List.set_cons_succ]
        refine wpAnyG_takeD (i := 3) (oi := { dst := some 32, op := Op.load 3 (Operand.tmp 31), type := 3, pos := "ref.go:18", after := #[{ on := 2, ground := Ground.data }], guard := none }) (d := 32) (v := ?_) rfl rfl (by kernel_rfl) (by kernel_rfl) (by kernel_rfl) (by kernel_rfl) (fun _ _ _ h => h) (Or.inl ⟨by rfl, ?_⟩) hHeld ?_
        rotate_left
        · (intro w' hSw; (try dsimp only at hSw); go_simp; (try with_reducible rfl))
        simp only [List.setIfInBounds_toArray, List.set_cons_zero, List.set_cons_succ]
        refine wpAnyG_takeD (i := 4) (oi := { dst := some 33, op := Op.move (Operand.tmp 7), type := 31, pos := "ref.go:18", after := #[], guard := none }) (d := 33) (v := ?_) rfl rfl (by kernel_rfl) (by kernel_rfl) (by kernel_rfl) (by kernel_rfl) (fun _ _ _ h => h) (Or.inl ⟨by rfl, ?_⟩) hHeld ?_
        rotate_left
        · (intro w' hSw; (try dsimp only at hSw); go_simp; (try with_reducible rfl))
        simp only [List.setIfInBounds_toArray, List.set_cons_zero, List.set_cons_succ]
        refine wpAnyG_takeD (i := 5) (oi := { dst := some 34, op := Op.indexAddr 31 (Operand.tmp 33) (Operand.const (Value.int IntKind.i64 1)), type := 0, pos := "ref.go:18", after := #[{ on := 4, ground := Ground.data }], guard := none }) (d := 34) (v := ?_) rfl rfl (by kernel_rfl) (by kernel_rfl) (by kernel_rfl) (by kernel_rfl) (fun _ _ _ h => h) (Or.inl ⟨by rfl, ?_⟩) hHeld ?_
        rotate_left
        · (intro w' hSw; (try dsimp only at hSw); go_simp; (try with_reducible rfl))
        simp only [List.setIfInBounds_toArray, List.set_cons_zero, List.set_cons_succ]
        refine wpAnyG_takeD (i := 6) (oi := { dst := some 35, op := Op.load 3 (Operand.tmp 34), type := 3, pos := "ref.go:18", after := #[{ on := 5, ground := Ground.data }], guard := none }) (d := 35) (v := ?_) rfl rfl (by kernel_rfl) (by kernel_rfl) (by kernel_rfl) (by kernel_rfl) (fun _ _ _ h => h) (Or.inl ⟨by rfl, ?_⟩) hHeld ?_
        rotate_left
        · (intro w' hSw; (try dsimp only at hSw); go_simp; (try with_reducible rfl))
        simp only [List.setIfInBounds_toArray, List.set_cons_zero, List.set_cons_succ]
        refine wpAnyG_takeD (i := 7) (oi := { dst := some 36, op := Op.build 71 #[(0, Operand.tmp 32), (1, Operand.tmp 35)], type := 71, pos := "ref.go:18", after := #[{ on := 3, ground := Ground.data }, { on := 6, ground := Ground.data }], guard := none }) (d := 36) (v := ?_) rfl rfl (by kernel_rfl) (by kernel_rfl) (by kernel_rfl) (by kernel_rfl) (fun _ _ _ h => h) (Or.inl ⟨by rfl, ?_⟩) hHeld ?_
        rotate_left
        · (intro w' hSw; (try dsimp only at hSw); go_simp; (try with_reducible rfl))
        simp only [List.setIfInBounds_toArray, List.set_cons_zero, List.set_cons_succ]
        refine wpAnyG_two (i := 8) (j := 12) (oi := { dst := some 37, op := Op.call { callee := Callee.value (Operand.func 49), args := #[Operand.tmp 29, Operand.tmp 36], argTypes := #[28, 71] }, type := 100, pos := "ref.go:18", after := #[{ on := 0, ground := Ground.data }, { on := 7, ground := Ground.data }], guard := none }) (oj := { dst := some 8, op := Op.alloc 28, type := 0, pos := "ref.go:18", after := #[], guard := none }) (by kernel_rfl) rfl rfl (by rfl) (by rfl) (fun K hK => ?_) (fun K hK => ?_)
        ·
          go_simp; refine (HADD.out _ (HB1.out.trans (HBB.out.mono HB1.out.size))).mono ?_; rintro e W' ⟨hb, A5, n5, c5, A6, n6, c6, rfl, href⟩; (try have HNB := Lib.hid (And.intro (blk_below hb (blk_lt HNB.out.1) HNB.out.1) HNB.out.2)); have HBB := Lib.hid (HBB.out.trans (hb.mono HBB.out.size)); have HR := Lib.hid href; have h := HSC2.out _ HBB.out; clear hb href; go_simp
          refine hK.out _ _ h (fun hHeld => ?_)
          clear hK K
          try simp only [Act.put, List.setIfInBounds_toArray, List.set_cons_zero, List.set_cons_succ]
          refine wpAnyG_takeD (i := 9) (oi := { dst := some 28, op := Op.move (Operand.tmp 37), type := 100, pos := "ref.go:18", after := #[{ on := 8, ground := Ground.data }], guard := none }) (d := 28) (v := ?_) rfl rfl (by kernel_rfl) (by kernel_rfl) (by kernel_rfl) (by kernel_rfl) (fun _ _ _ h => h) (Or.inl ⟨by rfl, ?_⟩) hHeld ?_
          rotate_left
          · (intro w' hSw; (try dsimp only at hSw); go_simp; (try with_reducible rfl))
          simp only [List.setIfInBounds_toArray, List.set_cons_zero, List.set_cons_succ]
          refine wpAnyG_takeD (i := 10) (oi := { dst := some 38, op := Op.extract (Operand.tmp 28) 0, type := 28, pos := "ref.go:18", after := #[{ on := 9, ground := Ground.data }], guard := none }) (d := 38) (v := ?_) rfl rfl (by kernel_rfl) (by kernel_rfl) (by kernel_rfl) (by kernel_rfl) (fun _ _ _ h => h) (Or.inl ⟨by rfl, ?_⟩) hHeld ?_
          rotate_left
          · (intro w' hSw; (try dsimp only at hSw); go_simp; (try with_reducible rfl))
          simp only [List.setIfInBounds_toArray, List.set_cons_zero, List.set_cons_succ]
          refine wpAnyG_takeD (i := 11) (oi := { dst := some 39, op := Op.extract (Operand.tmp 28) 1, type := 3, pos := "ref.go:18", after := #[{ on := 9, ground := Ground.data }, { on := 13, ground := Ground.gcOnly Departure.lateStores }], guard := none }) (d := 39) (v := ?_) rfl rfl (by kernel_rfl) (by kernel_rfl) (by kernel_rfl) (by kernel_rfl) (fun _ _ _ h => h) (Or.inl ⟨by rfl, ?_⟩) hHeld ?_
          rotate_left
          · (intro w' hSw; (try dsimp only at hSw); go_simp; (try with_reducible rfl))
          simp only [List.setIfInBounds_toArray, List.set_cons_zero, List.set_cons_succ]
          refine wpAnyG_one (i := 12) (o := { dst := some 8, op := Op.alloc 28, type := 0, pos := "ref.go:18", after := #[], guard := none }) (by kernel_rfl) rfl (by rfl) (fun K hK => ?_)
          go_simp; have HNB := Lib.hid (And.intro (bel_new HBB.out (.cells #[.slice none 0 0, .slice none 0 0] 28)) HBB.out.size); (try have HR := Lib.hid (HR.out.below ((Below.refl _ _).alloc (Nat.le_refl _) (.cells #[.slice none 0 0, .slice none 0 0] 28)) (Nat.le_refl _))); have HBB := Lib.hid (bel_alloc HBB.out (.cells #[.slice none 0 0, .slice none 0 0] 28)); refine gen_below HBB.out rfl (fun W' hW' => ?_); rw [← hW'] at HBB HNB; (try rw [← hW'] at HR); (try rw [show V1.drew.heap.size = V1.heap.size from rfl] at HNB); clear hW'; have h := HSC2.out _ HBB.out
          refine hK.out _ _ h (fun hHeld => ?_)
          clear hK K
          try simp only [Act.put, List.setIfInBounds_toArray, List.set_cons_zero, List.set_cons_succ]
          refine wpAnyG_one (i := 13) (o := { dst := none, op := Op.store 28 (Operand.tmp 8) (Operand.tmp 38), type := 0, pos := "ref.go:18", after := #[{ on := 12, ground := Ground.data }, { on := 10, ground := Ground.data }, { on := 8, ground := Ground.chain }, { on := 0, ground := Ground.phase }, { on := 1, ground := Ground.phase }, { on := 2, ground := Ground.phase }, { on := 3, ground := Ground.phase }, { on := 4, ground := Ground.phase }, { on := 5, ground := Ground.phase }, { on := 6, ground := Ground.phase }, { on := 7, ground := Ground.phase }, { on := 8, ground := Ground.phase }, { on := 9, ground := Ground.phase }, { on := 10, ground := Ground.phase }, { on := 11, ground := Ground.textOnly Departure.lateStores }, { on := 12, ground := Ground.phase }], guard := none }) (by kernel_rfl) rfl (by rfl) (fun K hK => ?_)
          have d0 := blk_cell HNB.out.1 0; have d1 := blk_cell HNB.out.1 1; have z0 := blk_froz HNB.out.1 0; have z1 := blk_froz HNB.out.1 1; simp only [List.getElem?_toArray, List.getElem?_cons_zero, List.getElem?_cons_succ] at d0 d1; go_simp; have HNB2 := Lib.hid (And.intro (ref_put HR.out HNB.out.1).1 HNB.out.2); have HR := Lib.hid (ref_put HR.out HNB.out.1).2; have HBB := Lib.hid (bel_put HBB.out HNB.out.2 (.slice A5 n5 c5) (.slice A6 n6 c6)); refine gen_below HBB.out rfl (fun W' hW' => ?_); rw [← hW'] at HBB HNB2 HR; clear hW' d0 d1 z0 z1; have h := HSC2.out _ HBB.out
          refine hK.out _ _ h (fun hHeld => ?_)
          clear hK K
          try simp only [Act.put, List.setIfInBounds_toArray, List.set_cons_zero, List.set_cons_succ]
          refine wpAnyG_last (o := { dst := some 9, op := Op.assign (Operand.tmp 39), type := 3, pos := "ref.go:18", after := #[{ on := 11, ground := Ground.data }, { on := 13, ground := Ground.chain }, { on := 0, ground := Ground.phase }, { on := 1, ground := Ground.phase }, { on := 2, ground := Ground.phase }, { on := 3, ground := Ground.phase }, { on := 4, ground := Ground.phase }, { on := 5, ground := Ground.phase }, { on := 6, ground := Ground.phase }, { on := 7, ground := Ground.phase }, { on := 8, ground := Ground.phase }, { on := 9, ground := Ground.phase }, { on := 10, ground := Ground.phase }, { on := 11, ground := Ground.phase }, { on := 12, ground := Ground.phase }, { on := 13, ground := Ground.phase }], guard := none }) (by kernel_rfl) rfl (by rfl) (fun K hK => ?_)
          go_simp
          refine hK.out _ _ ?_
          clear hK K
          try simp only [Act.put, List.setIfInBounds_toArray, List.set_cons_zero, List.set_cons_succ]
          refine wpAnyG_done (by kernel_rfl) ?_ _
          have HV := Lib.hid (HW.out.var.step (HB1.out.trans (HBB.out.mono HB1.out.size)))
          have e0 := blk_cell HNB2.out.1 0
          have e1 := blk_cell HNB2.out.1 1
          simp only [List.getElem?_toArray, List.getElem?_cons_zero, List.getElem?_cons_succ] at e0 e1
          obtain ⟨_, _, _, _, hbk9, href9⟩ := HV.out.ex
          have t0 := blk_cell hbk9 0
          have t1 := blk_cell hbk9 1
          simp only [List.getElem?_toArray, List.getElem?_cons_zero, List.getElem?_cons_succ] at t0 t1
          clear hHeld h
          rcases Decidable.em ((addT T a b).2.1 = 0) with he | he
          · have f0 := blk_froz hbk9 0
            have f1 := blk_froz hbk9 1
            have HPUT := Lib.hid (HV.out.put HR.out)
            have HE := Lib.hid he
            clear hbk9 href9
            go_wp2_with fail
            go_roundg (gk - 1)
            case measure => have := HK.out; omega
            case rel =>
              refine ⟨k + 1, _, by have := HK.out; omega, by simp, ?_, okT_add HW.out.ok _ _ HE.out, HPUT.out⟩
              have e1 := HE2.out.1
              have e2 := HE2.out.2
              (try simp only at e1 e2)
              rw [HTK.out, HX.out, impsT_snoc, HW.out.imps]
              simp only [Option.bind_some, e1, e2, HE.out, if_true]
          · have f0 := blk_froz HV.out.res 0
            have f1 := blk_froz HV.out.res 1
            have d0 := blk_cell HV.out.res 0
            have d1 := blk_cell HV.out.res 1
            simp only [List.getElem?_toArray, List.getElem?_cons_zero, List.getElem?_cons_succ] at d0 d1
            have HFIN := Lib.hid (HV.out.fin href9)
            have HE := Lib.hid he
            clear hbk9 href9
            go_wp2_with fail
            have h1 : (addT T a b).2.1 = errT T l[k] := by rw [HX.out, HE2.out.1]
            refine ret_ref2 (r := r) rfl rfl rfl rfl HFIN.out.1 ⟨HFIN.out.2.1, _, _, _, _, _, _, _, _, _, rfl, HFIN.out.2.2, HW.out.ok, HW.out.imps, .inr (by first | exact ⟨hlt, h1, HE.out⟩ | exact ⟨⟨hlt, h1⟩, HE.out⟩)⟩
        ·
          go_simp; have HNB := Lib.hid (And.intro (bel_new HBB.out (.cells #[.slice none 0 0, .slice none 0 0] 28)) HBB.out.size); (try have HR := Lib.hid (HR.out.below ((Below.refl _ _).alloc (Nat.le_refl _) (.cells #[.slice none 0 0, .slice none 0 0] 28)) (Nat.le_refl _))); have HBB := Lib.hid (bel_alloc HBB.out (.cells #[.slice none 0 0, .slice none 0 0] 28)); refine gen_below HBB.out rfl (fun W' hW' => ?_); rw [← hW'] at HBB HNB; (try rw [← hW'] at HR); (try rw [show V1.drew.heap.size = V1.heap.size from rfl] at HNB); clear hW'; have h := HSC2.out _ HBB.out
          refine hK.out _ _ h (fun hHeld => ?_)
          clear hK K
          try simp only [Act.put, List.setIfInBounds_toArray, List.set_cons_zero, List.set_cons_succ]
          refine wpAnyG_one (i := 8) (o := { dst := some 37, op := Op.call { callee := Callee.value (Operand.func 49), args := #[Operand.tmp 29, Operand.tmp 36], argTypes := #[28, 71] }, type := 100, pos := "ref.go:18", after := #[{ on := 0, ground := Ground.data }, { on := 7, ground := Ground.data }], guard := none }) (by kernel_rfl) rfl (by rfl) (fun K hK => ?_)
          go_simp; refine (HADD.out _ (HB1.out.trans (HBB.out.mono HB1.out.size))).mono ?_; rintro e W' ⟨hb, A5, n5, c5, A6, n6, c6, rfl, href⟩; (try have HNB := Lib.hid (And.intro (blk_below hb (blk_lt HNB.out.1) HNB.out.1) HNB.out.2)); have HBB := Lib.hid (HBB.out.trans (hb.mono HBB.out.size)); have HR := Lib.hid href; have h := HSC2.out _ HBB.out; clear hb href; go_simp
          refine hK.out _ _ h (fun hHeld => ?_)
          clear hK K
          try simp only [Act.put, List.setIfInBounds_toArray, List.set_cons_zero, List.set_cons_succ]
          refine wpAnyG_takeD (i := 9) (oi := { dst := some 28, op := Op.move (Operand.tmp 37), type := 100, pos := "ref.go:18", after := #[{ on := 8, ground := Ground.data }], guard := none }) (d := 28) (v := ?_) rfl rfl (by kernel_rfl) (by kernel_rfl) (by kernel_rfl) (by kernel_rfl) (fun _ _ _ h => h) (Or.inl ⟨by rfl, ?_⟩) hHeld ?_
          rotate_left
          · (intro w' hSw; (try dsimp only at hSw); go_simp; (try with_reducible rfl))
          simp only [List.setIfInBounds_toArray, List.set_cons_zero, List.set_cons_succ]
          refine wpAnyG_takeD (i := 10) (oi := { dst := some 38, op := Op.extract (Operand.tmp 28) 0, type := 28, pos := "ref.go:18", after := #[{ on := 9, ground := Ground.data }], guard := none }) (d := 38) (v := ?_) rfl rfl (by kernel_rfl) (by kernel_rfl) (by kernel_rfl) (by kernel_rfl) (fun _ _ _ h => h) (Or.inl ⟨by rfl, ?_⟩) hHeld ?_
          rotate_left
          · (intro w' hSw; (try dsimp only at hSw); go_simp; (try with_reducible rfl))
          simp only [List.setIfInBounds_toArray, List.set_cons_zero, List.set_cons_succ]
          refine wpAnyG_takeD (i := 11) (oi := { dst := some 39, op := Op.extract (Operand.tmp 28) 1, type := 3, pos := "ref.go:18", after := #[{ on := 9, ground := Ground.data }, { on := 13, ground := Ground.gcOnly Departure.lateStores }], guard := none }) (d := 39) (v := ?_) rfl rfl (by kernel_rfl) (by kernel_rfl) (by kernel_rfl) (by kernel_rfl) (fun _ _ _ h => h) (Or.inl ⟨by rfl, ?_⟩) hHeld ?_
          rotate_left
          · (intro w' hSw; (try dsimp only at hSw); go_simp; (try with_reducible rfl))
          simp only [List.setIfInBounds_toArray, List.set_cons_zero, List.set_cons_succ]
          refine wpAnyG_one (i := 13) (o := { dst := none, op := Op.store 28 (Operand.tmp 8) (Operand.tmp 38), type := 0, pos := "ref.go:18", after := #[{ on := 12, ground := Ground.data }, { on := 10, ground := Ground.data }, { on := 8, ground := Ground.chain }, { on := 0, ground := Ground.phase }, { on := 1, ground := Ground.phase }, { on := 2, ground := Ground.phase }, { on := 3, ground := Ground.phase }, { on := 4, ground := Ground.phase }, { on := 5, ground := Ground.phase }, { on := 6, ground := Ground.phase }, { on := 7, ground := Ground.phase }, { on := 8, ground := Ground.phase }, { on := 9, ground := Ground.phase }, { on := 10, ground := Ground.phase }, { on := 11, ground := Ground.textOnly Departure.lateStores }, { on := 12, ground := Ground.phase }], guard := none }) (by kernel_rfl) rfl (by rfl) (fun K hK => ?_)
          have d0 := blk_cell HNB.out.1 0; have d1 := blk_cell HNB.out.1 1; have z0 := blk_froz HNB.out.1 0; have z1 := blk_froz HNB.out.1 1; simp only [List.getElem?_toArray, List.getElem?_cons_zero, List.getElem?_cons_succ] at d0 d1; go_simp; have HNB2 := Lib.hid (And.intro (ref_put HR.out HNB.out.1).1 HNB.out.2); have HR := Lib.hid (ref_put HR.out HNB.out.1).2; have HBB := Lib.hid (bel_put HBB.out HNB.out.2 (.slice A5 n5 c5) (.slice A6 n6 c6)); refine gen_below HBB.out rfl (fun W' hW' => ?_); rw [← hW'] at HBB HNB2 HR; clear hW' d0 d1 z0 z1; have h := HSC2.out _ HBB.out
          refine hK.out _ _ h (fun hHeld => ?_)
          clear hK K
          try simp only [Act.put, List.setIfInBounds_toArray, List.set_cons_zero, List.set_cons_succ]
          refine wpAnyG_last (o := { dst := some 9, op := Op.assign (Operand.tmp 39), type := 3, pos := "ref.go:18", after := #[{ on := 11, ground := Ground.data }, { on := 13, ground := Ground.chain }, { on := 0, ground := Ground.phase }, { on := 1, ground := Ground.phase }, { on := 2, ground := Ground.phase }, { on := 3, ground := Ground.phase }, { on := 4, ground := Ground.phase }, { on := 5, ground := Ground.phase }, { on := 6, ground := Ground.phase }, { on := 7, ground := Ground.phase }, { on := 8, ground := Ground.phase }, { on := 9, ground := Ground.phase }, { on := 10, ground := Ground.phase }, { on := 11, ground := Ground.phase }, { on := 12, ground := Ground.phase }, { on := 13, ground := Ground.phase }], guard := none }) (by kernel_rfl) rfl (by rfl) (fun K hK => ?_)
          go_simp
          refine hK.out _ _ ?_
          clear hK K
          try simp only [Act.put, List.setIfInBounds_toArray, List.set_cons_zero, List.set_cons_succ]
          refine wpAnyG_done (by kernel_rfl) ?_ _
          have HV := Lib.hid (HW.out.var.step (HB1.out.trans (HBB.out.mono HB1.out.size)))
          have e0 := blk_cell HNB2.out.1 0
          have e1 := blk_cell HNB2.out.1 1
          simp only [List.getElem?_toArray, List.getElem?_cons_zero, List.getElem?_cons_succ] at e0 e1
          obtain ⟨_, _, _, _, hbk9, href9⟩ := HV.out.ex
          have t0 := blk_cell hbk9 0
          have t1 := blk_cell hbk9 1
          simp only [List.getElem?_toArray, List.getElem?_cons_zero, List.getElem?_cons_succ] at t0 t1
          clear hHeld h
          rcases Decidable.em ((addT T a b).2.1 = 0) with he | he
          · have f0 := blk_froz hbk9 0
            have f1 := blk_froz hbk9 1
            have HPUT := Lib.hid (HV.out.put HR.out)
            have HE := Lib.hid he
            clear hbk9 href9
            go_wp2_with fail
            go_roundg (gk - 1)
            case measure => have := HK.out; omega
            case rel =>
              refine ⟨k + 1, _, by have := HK.out; omega, by simp, ?_, okT_add HW.out.ok _ _ HE.out, HPUT.out⟩
              have e1 := HE2.out.1
              have e2 := HE2.out.2
              (try simp only at e1 e2)
              rw [HTK.out, HX.out, impsT_snoc, HW.out.imps]
              simp only [Option.bind_some, e1, e2, HE.out, if_true]
          · have f0 := blk_froz HV.out.res 0
            have f1 := blk_froz HV.out.res 1
            have d0 := blk_cell HV.out.res 0
            have d1 := blk_cell HV.out.res 1
            simp only [List.getElem?_toArray, List.getElem?_cons_zero, List.getElem?_cons_succ] at d0 d1
            have HFIN := Lib.hid (HV.out.fin href9)
            have HE := Lib.hid he
            clear hbk9 href9
            go_wp2_with fail
            have h1 : (addT T a b).2.1 = errT T l[k] := by rw [HX.out, HE2.out.1]
            refine ret_ref2 (r := r) rfl rfl rfl rfl HFIN.out.1 ⟨HFIN.out.2.1, _, _, _, _, _, _, _, _, _, rfl, HFIN.out.2.2, HW.out.ok, HW.out.imps, .inr (by first | exact ⟨hlt, h1, HE.out⟩ | exact ⟨⟨hlt, h1⟩, HE.out⟩)⟩
      · have HE := Lib.hid (errT_none (HNO.out h2))
        have hn1 : (ids.length != 2) = true := by simpa using h2
        have hn2 : ((ids.length : Int) != 2) = true := by simp; omega
        obtain ⟨_, _, _, _, hbk9, href9⟩ := HV.out.ex
        have f0 := blk_froz HV.out.res 0
        have f1 := blk_froz HV.out.res 1
        have d0 := blk_cell HV.out.res 0
        have d1 := blk_cell HV.out.res 1
        have t0 := blk_cell hbk9 0
        have t1 := blk_cell hbk9 1
        simp only [List.getElem?_toArray, List.getElem?_cons_zero, List.getElem?_cons_succ] at d0 d1 t0 t1
        have HFIN := Lib.hid (HV.out.fin href9)
        clear h2 hbk9 href9 c0 c1'
        go_wp2_with fail
        have h1 : (2 : Int) = errT T l[k] := by rw [HX.out, HE.out]
        refine ret_ref2 (r := r) rfl rfl rfl rfl HFIN.out.1 ⟨HFIN.out.2.1, _, _, _, _, _, _, _, _, _, rfl, HFIN.out.2.2, HW.out.ok, HW.out.imps, .inr (by first | exact ⟨hlt, h1, by decide⟩ | exact ⟨⟨hlt, h1⟩, by decide⟩ | exact ⟨hlt, h1⟩)⟩
    · have hke : k = l.length := by omega
      subst hke
      have hlt' : ¬ ((l.length : Nat) : Int) < (l.length : Int) := by omega
      have d0 := blk_cell hW.var.res 0
      have d1 := blk_cell hW.var.res 1
      have z0 := blk_froz hW.var.res 0
      have z1 := blk_froz hW.var.res 1
      have t0 := blk_cell hbk 0
      have t1 := blk_cell hbk 1
      simp only [List.getElem?_toArray, List.getElem?_cons_zero, List.getElem?_cons_succ] at d0 d1 t0 t1
      have HFIN := Lib.hid (hW.var.fin href)
      have HW := Lib.hid hW
      clear hW hbk href hk HK
      go_wp2_with fail
      refine ret_ref2 (r := r) rfl rfl rfl rfl HFIN.out.1 ⟨HFIN.out.2.1, _, _, _, _, _, _, _, _, _, rfl, HFIN.out.2.2, HW.out.ok, HW.out.imps, .inl ⟨rfl, rfl⟩⟩
end Go.Proofs.Ytpkmcokkapfnmaa
/- Layer 7 (grow): rows of merges, of texts are the same; Export; Plain. -/
namespace Go.Proofs.Ytpkmcokkapfnmaa
open Go.RowKit Go.Maps Go.WideMaps
set_option maxRecDepth 100000
set_option linter.unusedVariables false
set_option linter.unusedSimpArgs false

theorem eq_drop_neM {l m : List (Int × Int)} {k : Nat} (h1 : k < l.length) (h2 : k < m.length) (h : l[k] ≠ m[k]) : l ≠ m := by rintro rfl; exact h rfl
theorem eq_drop_neS {l m : List (List UInt8)} {k : Nat} (h1 : k < l.length) (h2 : k < m.length) (h : l[k] ≠ m[k]) : l ≠ m := by rintro rfl; exact h rfl
theorem toList_ne {X Y : ByteArray} (h : ¬ X = Y) : (X.toList == Y.toList) = false := by
  rw [ByteArray.toList_eq, ByteArray.toList_eq, beq_eq_false_iff_ne]
  intro e
  apply h
  cases X; cases Y
  simp_all
theorem neq_mrgs (x y x' y' : Int) (w : World) : (binOp .neq 71 (.agg #[.int .i64 x, .int .i64 y]) (.agg #[.int .i64 x', .int .i64 y'])).run Try.prog w = .ok (.bool (decide ((x, y) ≠ (x', y')))) w := by
  by_cases h1 : x = x'
  · subst h1
    by_cases h2 : y = y'
    · subst h2; simp [go_sem]
    · have h3 : (y == y') = false := by simpa using h2
      simp [go_sem, h2]
  · simp [go_sem, h1]
set_option maxHeartbeats 2000000 in
theorem merges_any (l m : List (Int × Int)) (A B : Option Addr) (c d : Nat) (w : World) (hl : Sl w A encM 2 l) (hm : Sl w B encM 2 m) (hz : l.length < 1000000000000) :
    Calls Try.prog 28 #[.slice A l.length c, .slice B m.length d] w fun e w' => e = .returned (.bool (decide (l = m))) ∧ Below w.heap.size w w' := by
  obtain ⟨R, hR⟩ : ∃ R, decide (l = m) = R := ⟨_, rfl⟩
  rw [hR]
  have HR := Lib.hid hR
  have HL := Lib.hid hl
  have HM := Lib.hid hm
  clear hl hm hR
  by_cases hlen : l.length = m.length
  · have HLEN := Lib.hid hlen
    rw [← hlen]
    clear hlen
    go_enter Try.func28, Try.ntmps28
    go_wp2_with fail
    go_loopg [5] l.length (fun n i W => ∃ k : Nat, k + n = l.length ∧ i = .int .i64 (k : Int) ∧ l.take k = m.take k ∧ Below w.heap.size w W)
    case atStart => exact ⟨0, by omega, rfl, rfl, Below.refl _ _⟩
    case round =>
      obtain ⟨k, hk, rfl, ht, hb⟩ := hrel
      have HT := Lib.hid ht
      have HB := Lib.hid hb
      have HK := Lib.hid hk
      clear ht hb
      rename World => W
      by_cases hlt : k < l.length
      · have hlt2 : k < m.length := by rw [← HLEN.out]; exact hlt
        have p0 : (0 : Int) ≤ (k : Int) := by omega
        have p1 : (k : Int) < (l.length : Int) := by omega
        obtain ⟨b1, o1, rfl, c1⟩ := (HL.out.below HB.out (Nat.le_refl _)).at k hlt
        obtain ⟨b2, o2, rfl, c2⟩ := (HM.out.below HB.out (Nat.le_refl _)).at k hlt2
        have HNX : Hid (l[k] = m[k] → l.take (k + 1) = m.take (k + 1)) := Lib.hid (fun e => by rw [take_snoc hlt, take_snoc hlt2, HT.out, e])
        have HNE := Lib.hid (fun e => eq_drop_neM hlt hlt2 e)
        have wk : IntKind.i64.wrap ((k : Int) + 1) = (k : Int) + 1 := IntWalk.i64_in _ (by omega)
        generalize l[k] = x at *
        generalize m[k] = y at *
        obtain ⟨x1, x2⟩ := x
        obtain ⟨y1, y2⟩ := y
        have c10 := c1 0 _ rfl
        have c11 := c1 1 _ rfl
        have c20 := c2 0 _ rfl
        have c21 := c2 1 _ rfl
        simp only at c10 c11 c20 c21
        clear c1 c2
        have hq : ∀ V, (binOp .neq 71 (.agg #[.int .i64 x1, .int .i64 x2]) (.agg #[.int .i64 y1, .int .i64 y2])).run Try.prog V = .ok (.bool (decide ((x1, x2) ≠ (y1, y2)))) V := fun V => neq_mrgs x1 x2 y1 y2 V
        obtain ⟨NB, hNB⟩ : ∃ B, decide ((x1, x2) ≠ (y1, y2)) = B := ⟨_, rfl⟩
        rw [hNB] at hq
        have HNB := Lib.hid hNB
        clear hNB
        clear hk
        go_upto_region 6 with fail
        refine wp_region_held_drew (S := fun V => V.cell? ⟨b1, o1 + k * 2, none⟩ = some (.int .i64 x1) ∧ V.cell? ⟨b1, o1 + k * 2 + 1, none⟩ = some (.int .i64 x2) ∧ V.cell? ⟨b2, o2 + k * 2, none⟩ = some (.int .i64 y1) ∧ V.cell? ⟨b2, o2 + k * 2 + 1, none⟩ = some (.int .i64 y2)) (by kernel_rfl) (by exact ⟨c10, c11, c20, c21⟩) (fun hHeld => ?_)
        refine wpAnyH_takeD (i := 0) (oi := { dst := some 17, op := Op.move (Operand.tmp 0), type := 26, pos := "law.go:29", after := #[], guard := none }) (d := 17) (v := ?_) rfl rfl (by kernel_rfl) (by kernel_rfl) (by kernel_rfl) (fun _ _ _ h => h) (Or.inl ⟨by rfl, ?_⟩) hHeld ?_
        rotate_left
        · (intro w' hSw; (try dsimp only at hSw); go_simp; (try with_reducible rfl))
        simp only [List.setIfInBounds_toArray, List.set_cons_zero, List.set_cons_succ]
        refine wpAnyH_takeD (i := 1) (oi := { dst := some 18, op := Op.move (Operand.tmp 5), type := 3, pos := "law.go:29", after := #[], guard := none }) (d := 18) (v := ?_) rfl rfl (by kernel_rfl) (by kernel_rfl) (by kernel_rfl) (fun _ _ _ h => h) (Or.inl ⟨by rfl, ?_⟩) hHeld ?_
        rotate_left
        · (intro w' hSw; (try dsimp only at hSw); go_simp; (try with_reducible rfl))
        simp only [List.setIfInBounds_toArray, List.set_cons_zero, List.set_cons_succ]
        refine wpAnyH_takeD (i := 2) (oi := { dst := some 19, op := Op.indexAddr 26 (Operand.tmp 17) (Operand.tmp 18), type := 0, pos := "law.go:29", after := #[{ on := 0, ground := Ground.data }, { on := 1, ground := Ground.data }], guard := none }) (d := 19) (v := ?_) rfl rfl (by kernel_rfl) (by kernel_rfl) (by kernel_rfl) (fun _ _ _ h => h) (Or.inl ⟨by rfl, ?_⟩) hHeld ?_
        rotate_left
        · (intro w' hSw; (try dsimp only at hSw); go_simp; (try with_reducible rfl))
        simp only [List.setIfInBounds_toArray, List.set_cons_zero, List.set_cons_succ]
        refine wpAnyH_takeD (i := 3) (oi := { dst := some 20, op := Op.load 71 (Operand.tmp 19), type := 71, pos := "law.go:29", after := #[{ on := 2, ground := Ground.data }], guard := none }) (d := 20) (v := ?_) rfl rfl (by kernel_rfl) (by kernel_rfl) (by kernel_rfl) (fun _ _ _ h => h) (Or.inl ⟨by rfl, ?_⟩) hHeld ?_
        rotate_left
        · (intro w' hSw; (try dsimp only at hSw); go_simp; (try with_reducible rfl))
        simp only [List.setIfInBounds_toArray, List.set_cons_zero, List.set_cons_succ]
        refine wpAnyH_takeD (i := 4) (oi := { dst := some 21, op := Op.move (Operand.tmp 1), type := 26, pos := "law.go:29", after := #[], guard := none }) (d := 21) (v := ?_) rfl rfl (by kernel_rfl) (by kernel_rfl) (by kernel_rfl) (fun _ _ _ h => h) (Or.inl ⟨by rfl, ?_⟩) hHeld ?_
        rotate_left
        · (intro w' hSw; (try dsimp only at hSw); go_simp; (try with_reducible rfl))
        simp only [List.setIfInBounds_toArray, List.set_cons_zero, List.set_cons_succ]
        refine wpAnyH_takeD (i := 5) (oi := { dst := some 22, op := Op.move (Operand.tmp 5), type := 3, pos := "law.go:29", after := #[], guard := none }) (d := 22) (v := ?_) rfl rfl (by kernel_rfl) (by kernel_rfl) (by kernel_rfl) (fun _ _ _ h => h) (Or.inl ⟨by rfl, ?_⟩) hHeld ?_
        rotate_left
        · (intro w' hSw; (try dsimp only at hSw); go_simp; (try with_reducible rfl))
        simp only [List.setIfInBounds_toArray, List.set_cons_zero, List.set_cons_succ]
        refine wpAnyH_takeD (i := 6) (oi := { dst := some 23, op := Op.indexAddr 26 (Operand.tmp 21) (Operand.tmp 22), type := 0, pos := "law.go:29", after := #[{ on := 4, ground := Ground.data }, { on := 5, ground := Ground.data }], guard := none }) (d := 23) (v := ?_) rfl rfl (by kernel_rfl) (by kernel_rfl) (by kernel_rfl) (fun _ _ _ h => h) (Or.inl ⟨by rfl, ?_⟩) hHeld ?_
        rotate_left
        · (intro w' hSw; (try dsimp only at hSw); go_simp; (try with_reducible rfl))
        simp only [List.setIfInBounds_toArray, List.set_cons_zero, List.set_cons_succ]
        refine wpAnyH_takeD (i := 7) (oi := { dst := some 24, op := Op.load 71 (Operand.tmp 23), type := 71, pos := "law.go:29", after := #[{ on := 6, ground := Ground.data }], guard := none }) (d := 24) (v := ?_) rfl rfl (by kernel_rfl) (by kernel_rfl) (by kernel_rfl) (fun _ _ _ h => h) (Or.inl ⟨by rfl, ?_⟩) hHeld ?_
        rotate_left
        · (intro w' hSw; (try dsimp only at hSw); go_simp; (try with_reducible rfl))
        simp only [List.setIfInBounds_toArray, List.set_cons_zero, List.set_cons_succ]
        refine wpAnyH_takeD (i := 8) (oi := { dst := some 25, op := Op.binOp BinOp.neq 71 (Operand.tmp 20) (Operand.tmp 24) 71, type := 4, pos := "law.go:29", after := #[{ on := 3, ground := Ground.data }, { on := 7, ground := Ground.data }], guard := none }) (d := 25) (v := ?_) rfl rfl (by kernel_rfl) (by kernel_rfl) (by kernel_rfl) (fun _ _ _ h => h) (Or.inl ⟨by rfl, ?_⟩) hHeld ?_
        rotate_left
        · (intro w' hSw; (try dsimp only at hSw); go_simp; (try with_reducible rfl))
        simp only [List.setIfInBounds_toArray, List.set_cons_zero, List.set_cons_succ]
        refine wpAnyH_done (by kernel_rfl) ?_ _
        replace HB := Lib.hid HB.out.drew
        clear c10 c11 c20 c21 hHeld hq
        by_cases hxy : (x1, x2) = (y1, y2)
        · have HN := Lib.hid (HNX.out hxy)
          have hn : NB = false := by rw [← HNB.out]; simpa using hxy
          subst hn
          clear hxy HNX HNE
          go_wp2_with fail
          go_roundg (gk - 1)
          case measure => have := HK.out; omega
          case rel => exact ⟨k + 1, by have := HK.out; omega, by go_num, HN.out, HB.out⟩
        · have hn : NB = true := by rw [← HNB.out]; exact decide_eq_true hxy
          subst hn
          have HF : Hid (R = false) := Lib.hid (by rw [← HR.out]; simpa using HNE.out hxy)
          clear hxy HNX HNE
          go_wp2_with fail
          go_ret
          exact ⟨ret_bool HF.out.symm, HB.out⟩
      · have hke : k = l.length := by omega
        have HF : Hid (R = true) := Lib.hid (by
          rw [← HR.out]
          have := HT.out
          rw [hke, List.take_length, HLEN.out, List.take_length] at this
          simpa using this)
        have hlt' : ¬ (k : Int) < (l.length : Int) := by omega
        clear hke hk HK
        go_wp2_with fail
        go_ret
        exact ⟨ret_bool HF.out.symm, HB.out⟩
  · have HF : Hid (R = false) := Lib.hid (by rw [← HR.out]; simp; rintro rfl; exact hlen rfl)
    have hn : (l.length != m.length) = true := by simpa using hlen
    have hn2 : ((l.length : Int) != (m.length : Int)) = true := by simp; omega
    clear hlen
    go_enter Try.func28, Try.ntmps28
    go_wp2_with fail
    go_ret
    exact ⟨ret_bool HF.out.symm, Below.refl _ _⟩

set_option maxHeartbeats 2000000 in
theorem texts_any (l m : List (List UInt8)) (A B : Option Addr) (c d : Nat) (w : World) (hl : Sl1 w A strV l) (hm : Sl1 w B strV m) (hz : l.length < 1000000000000) :
    Calls Try.prog 32 #[.slice A l.length c, .slice B m.length d] w fun e w' => e = .returned (.bool (decide (l = m))) ∧ Below w.heap.size w w' := by
  obtain ⟨R, hR⟩ : ∃ R, decide (l = m) = R := ⟨_, rfl⟩
  rw [hR]
  have HR := Lib.hid hR
  have HL := Lib.hid hl
  have HM := Lib.hid hm
  clear hl hm hR
  by_cases hlen : l.length = m.length
  · have HLEN := Lib.hid hlen
    rw [← hlen]
    clear hlen
    go_enter Try.func32, Try.ntmps32
    go_wp2_with fail
    go_loopg [5] l.length (fun n i W => ∃ k : Nat, k + n = l.length ∧ i = .int .i64 (k : Int) ∧ l.take k = m.take k ∧ Below w.heap.size w W)
    case atStart => exact ⟨0, by omega, rfl, rfl, Below.refl _ _⟩
    case round =>
      obtain ⟨k, hk, rfl, ht, hb⟩ := hrel
      have HT := Lib.hid ht
      have HB := Lib.hid hb
      have HK := Lib.hid hk
      clear ht hb
      rename World => W
      by_cases hlt : k < l.length
      · have hlt2 : k < m.length := by rw [← HLEN.out]; exact hlt
        have p0 : (0 : Int) ≤ (k : Int) := by omega
        have p1 : (k : Int) < (l.length : Int) := by omega
        obtain ⟨b1, o1, rfl, c1⟩ := (HL.out.below HB.out (Nat.le_refl _)).at k hlt
        obtain ⟨b2, o2, rfl, c2⟩ := (HM.out.below HB.out (Nat.le_refl _)).at k hlt2
        have HNX : Hid (l[k] = m[k] → l.take (k + 1) = m.take (k + 1)) := Lib.hid (fun e => by rw [take_snoc hlt, take_snoc hlt2, HT.out, e])
        have HNE := Lib.hid (fun e => eq_drop_neS hlt hlt2 e)
        have wk : IntKind.i64.wrap ((k : Int) + 1) = (k : Int) + 1 := IntWalk.i64_in _ (by omega)
        generalize l[k] = x at *
        generalize m[k] = y at *
        unfold strV at c1 c2
        have HXY : Hid (bs x = bs y ↔ x = y) := Lib.hid ⟨bs_inj, fun e => by rw [e]⟩
        generalize bs x = X at *
        generalize bs y = Y at *
        clear hk
        go_upto_region 6 with fail
        refine wp_region_held_drew (S := fun V => V.cell? ⟨b1, o1 + k, none⟩ = some (.string X) ∧ V.cell? ⟨b2, o2 + k, none⟩ = some (.string Y)) (by kernel_rfl) (by exact ⟨c1, c2⟩) (fun hHeld => ?_)
        refine wpAnyH_takeD (i := 0) (oi := { dst := some 17, op := Op.move (Operand.tmp 0), type := 25, pos := "ref.go:98", after := #[], guard := none }) (d := 17) (v := ?_) rfl rfl (by kernel_rfl) (by kernel_rfl) (by kernel_rfl) (fun _ _ _ h => h) (Or.inl ⟨by rfl, ?_⟩) hHeld ?_
        rotate_left
        · (intro w' hSw; (try dsimp only at hSw); go_simp; (try with_reducible rfl))
        simp only [List.setIfInBounds_toArray, List.set_cons_zero, List.set_cons_succ]
        refine wpAnyH_takeD (i := 1) (oi := { dst := some 18, op := Op.move (Operand.tmp 5), type := 3, pos := "ref.go:98", after := #[], guard := none }) (d := 18) (v := ?_) rfl rfl (by kernel_rfl) (by kernel_rfl) (by kernel_rfl) (fun _ _ _ h => h) (Or.inl ⟨by rfl, ?_⟩) hHeld ?_
        rotate_left
        · (intro w' hSw; (try dsimp only at hSw); go_simp; (try with_reducible rfl))
        simp only [List.setIfInBounds_toArray, List.set_cons_zero, List.set_cons_succ]
        refine wpAnyH_takeD (i := 2) (oi := { dst := some 19, op := Op.indexAddr 25 (Operand.tmp 17) (Operand.tmp 18), type := 0, pos := "ref.go:98", after := #[{ on := 0, ground := Ground.data }, { on := 1, ground := Ground.data }], guard := none }) (d := 19) (v := ?_) rfl rfl (by kernel_rfl) (by kernel_rfl) (by kernel_rfl) (fun _ _ _ h => h) (Or.inl ⟨by rfl, ?_⟩) hHeld ?_
        rotate_left
        · (intro w' hSw; (try dsimp only at hSw); go_simp; (try with_reducible rfl))
        simp only [List.setIfInBounds_toArray, List.set_cons_zero, List.set_cons_succ]
        refine wpAnyH_takeD (i := 3) (oi := { dst := some 20, op := Op.load 9 (Operand.tmp 19), type := 9, pos := "ref.go:98", after := #[{ on := 2, ground := Ground.data }], guard := none }) (d := 20) (v := ?_) rfl rfl (by kernel_rfl) (by kernel_rfl) (by kernel_rfl) (fun _ _ _ h => h) (Or.inl ⟨by rfl, ?_⟩) hHeld ?_
        rotate_left
        · (intro w' hSw; (try dsimp only at hSw); go_simp; (try with_reducible rfl))
        simp only [List.setIfInBounds_toArray, List.set_cons_zero, List.set_cons_succ]
        refine wpAnyH_takeD (i := 4) (oi := { dst := some 21, op := Op.move (Operand.tmp 1), type := 25, pos := "ref.go:98", after := #[], guard := none }) (d := 21) (v := ?_) rfl rfl (by kernel_rfl) (by kernel_rfl) (by kernel_rfl) (fun _ _ _ h => h) (Or.inl ⟨by rfl, ?_⟩) hHeld ?_
        rotate_left
        · (intro w' hSw; (try dsimp only at hSw); go_simp; (try with_reducible rfl))
        simp only [List.setIfInBounds_toArray, List.set_cons_zero, List.set_cons_succ]
        refine wpAnyH_takeD (i := 5) (oi := { dst := some 22, op := Op.move (Operand.tmp 5), type := 3, pos := "ref.go:98", after := #[], guard := none }) (d := 22) (v := ?_) rfl rfl (by kernel_rfl) (by kernel_rfl) (by kernel_rfl) (fun _ _ _ h => h) (Or.inl ⟨by rfl, ?_⟩) hHeld ?_
        rotate_left
        · (intro w' hSw; (try dsimp only at hSw); go_simp; (try with_reducible rfl))
        simp only [List.setIfInBounds_toArray, List.set_cons_zero, List.set_cons_succ]
        refine wpAnyH_takeD (i := 6) (oi := { dst := some 23, op := Op.indexAddr 25 (Operand.tmp 21) (Operand.tmp 22), type := 0, pos := "ref.go:98", after := #[{ on := 4, ground := Ground.data }, { on := 5, ground := Ground.data }], guard := none }) (d := 23) (v := ?_) rfl rfl (by kernel_rfl) (by kernel_rfl) (by kernel_rfl) (fun _ _ _ h => h) (Or.inl ⟨by rfl, ?_⟩) hHeld ?_
        rotate_left
        · (intro w' hSw; (try dsimp only at hSw); go_simp; (try with_reducible rfl))
        simp only [List.setIfInBounds_toArray, List.set_cons_zero, List.set_cons_succ]
        refine wpAnyH_takeD (i := 7) (oi := { dst := some 24, op := Op.load 9 (Operand.tmp 23), type := 9, pos := "ref.go:98", after := #[{ on := 6, ground := Ground.data }], guard := none }) (d := 24) (v := ?_) rfl rfl (by kernel_rfl) (by kernel_rfl) (by kernel_rfl) (fun _ _ _ h => h) (Or.inl ⟨by rfl, ?_⟩) hHeld ?_
        rotate_left
        · (intro w' hSw; (try dsimp only at hSw); go_simp; (try with_reducible rfl))
        simp only [List.setIfInBounds_toArray, List.set_cons_zero, List.set_cons_succ]
        refine wpAnyH_takeD (i := 8) (oi := { dst := some 25, op := Op.binOp BinOp.neq 9 (Operand.tmp 20) (Operand.tmp 24) 9, type := 4, pos := "ref.go:98", after := #[{ on := 3, ground := Ground.data }, { on := 7, ground := Ground.data }], guard := none }) (d := 25) (v := ?_) rfl rfl (by kernel_rfl) (by kernel_rfl) (by kernel_rfl) (fun _ _ _ h => h) (Or.inl ⟨by rfl, ?_⟩) hHeld ?_
        rotate_left
        · (intro w' hSw; (try dsimp only at hSw); go_simp; (try with_reducible rfl))
        simp only [List.setIfInBounds_toArray, List.set_cons_zero, List.set_cons_succ]
        refine wpAnyH_done (by kernel_rfl) ?_ _
        replace HB := Lib.hid HB.out.drew
        clear c1 c2 hHeld
        obtain ⟨NB, hNB⟩ : ∃ B, (!X.toList == Y.toList) = B := ⟨_, rfl⟩
        rw [hNB]
        have HNB := Lib.hid hNB
        clear hNB
        by_cases hxy : x = y
        · have HN := Lib.hid (HNX.out hxy)
          have hn : NB = false := by rw [← HNB.out, HXY.out.2 hxy]; simp
          subst hn
          clear hxy HNX HNE HXY
          go_wp2_with fail
          go_roundg (gk - 1)
          case measure => have := HK.out; omega
          case rel => exact ⟨k + 1, by have := HK.out; omega, by go_num, HN.out, HB.out⟩
        · have hn : NB = true := by rw [← HNB.out, toList_ne (fun e => hxy (HXY.out.1 e))]; rfl
          subst hn
          have HF : Hid (R = false) := Lib.hid (by rw [← HR.out]; simpa using HNE.out hxy)
          clear hxy HNX HNE HXY
          go_wp2_with fail
          go_ret
          exact ⟨ret_bool HF.out.symm, HB.out⟩
      · have hke : k = l.length := by omega
        have HF : Hid (R = true) := Lib.hid (by
          rw [← HR.out]
          have := HT.out
          rw [hke, List.take_length, HLEN.out, List.take_length] at this
          simpa using this)
        have hlt' : ¬ (k : Int) < (l.length : Int) := by omega
        clear hke hk HK
        go_wp2_with fail
        go_ret
        exact ⟨ret_bool HF.out.symm, HB.out⟩
  · have HF : Hid (R = false) := Lib.hid (by rw [← HR.out]; simp; rintro rfl; exact hlen rfl)
    have hn : (l.length != m.length) = true := by simpa using hlen
    have hn2 : ((l.length : Int) != (m.length : Int)) = true := by simp; omega
    clear hlen
    go_enter Try.func32, Try.ntmps32
    go_wp2_with fail
    go_ret
    exact ⟨ret_bool HF.out.symm, Below.refl _ _⟩

set_option maxHeartbeats 2000000 in
theorem equal_any (l m : List (Int × Int)) (A B : Option Addr) (c d : Nat) (w : World) (hl : Sl w A encM 2 l) (hm : Sl w B encM 2 m) (hz : l.length < 1000000000000) :
    Calls Try.prog 50 #[.slice A l.length c, .slice B m.length d] w fun e w' => e = .returned (.bool (decide (l = m))) ∧ Below w.heap.size w w' := by
  obtain ⟨R, hR⟩ : ∃ R, decide (l = m) = R := ⟨_, rfl⟩
  rw [hR]
  have HR := Lib.hid hR
  have HL := Lib.hid hl
  have HM := Lib.hid hm
  clear hl hm hR
  by_cases hlen : l.length = m.length
  · have HLEN := Lib.hid hlen
    rw [← hlen]
    clear hlen
    go_enter Try.func50, Try.ntmps50
    go_wp2_with fail
    go_loopg [13] l.length (fun n i W => ∃ k : Nat, k + n = l.length ∧ i = .int .i64 (k : Int) ∧ l.take k = m.take k ∧ Below w.heap.size w W)
    case atStart => exact ⟨0, by omega, rfl, rfl, Below.refl _ _⟩
    case round =>
      obtain ⟨k, hk, rfl, ht, hb⟩ := hrel
      have HT := Lib.hid ht
      have HB := Lib.hid hb
      have HK := Lib.hid hk
      clear ht hb
      rename World => W
      by_cases hlt : k < l.length
      · have hlt2 : k < m.length := by rw [← HLEN.out]; exact hlt
        have p0 : (0 : Int) ≤ (k : Int) := by omega
        have p1 : (k : Int) < (l.length : Int) := by omega
        obtain ⟨b1, o1, rfl, c1⟩ := (HL.out.below HB.out (Nat.le_refl _)).at k hlt
        obtain ⟨b2, o2, rfl, c2⟩ := (HM.out.below HB.out (Nat.le_refl _)).at k hlt2
        have HNX : Hid (l[k] = m[k] → l.take (k + 1) = m.take (k + 1)) := Lib.hid (fun e => by rw [take_snoc hlt, take_snoc hlt2, HT.out, e])
        have HNE := Lib.hid (fun e => eq_drop_neM hlt hlt2 e)
        have wk : IntKind.i64.wrap ((k : Int) + 1) = (k : Int) + 1 := IntWalk.i64_in _ (by omega)
        generalize l[k] = x at *
        generalize m[k] = y at *
        obtain ⟨x1, x2⟩ := x
        obtain ⟨y1, y2⟩ := y
        have c10 := c1 0 _ rfl
        have c11 := c1 1 _ rfl
        have c20 := c2 0 _ rfl
        have c21 := c2 1 _ rfl
        simp only at c10 c11 c20 c21
        clear c1 c2
        have hq : ∀ V, (binOp .neq 71 (.agg #[.int .i64 x1, .int .i64 x2]) (.agg #[.int .i64 y1, .int .i64 y2])).run Try.prog V = .ok (.bool (decide ((x1, x2) ≠ (y1, y2)))) V := fun V => neq_mrgs x1 x2 y1 y2 V
        obtain ⟨NB, hNB⟩ : ∃ B, decide ((x1, x2) ≠ (y1, y2)) = B := ⟨_, rfl⟩
        rw [hNB] at hq
        have HNB := Lib.hid hNB
        clear hNB
        clear hk
        go_upto_region 6 with fail
        refine wp_region_held_drew (S := fun V => V.cell? ⟨b1, o1 + k * 2, none⟩ = some (.int .i64 x1) ∧ V.cell? ⟨b1, o1 + k * 2 + 1, none⟩ = some (.int .i64 x2) ∧ V.cell? ⟨b2, o2 + k * 2, none⟩ = some (.int .i64 y1) ∧ V.cell? ⟨b2, o2 + k * 2 + 1, none⟩ = some (.int .i64 y2)) (by kernel_rfl) (by exact ⟨c10, c11, c20, c21⟩) (fun hHeld => ?_)
        refine wpAnyH_takeD (i := 0) (oi := { dst := some 16, op := Op.move (Operand.tmp 0), type := 26, pos := "slices.go:25", after := #[], guard := none }) (d := 16) (v := ?_) rfl rfl (by kernel_rfl) (by kernel_rfl) (by kernel_rfl) (fun _ _ _ h => h) (Or.inl ⟨by rfl, ?_⟩) hHeld ?_
        rotate_left
        · (intro w' hSw; (try dsimp only at hSw); go_simp; (try with_reducible rfl))
        simp only [List.setIfInBounds_toArray, List.set_cons_zero, List.set_cons_succ]
        refine wpAnyH_takeD (i := 1) (oi := { dst := some 17, op := Op.move (Operand.tmp 5), type := 3, pos := "slices.go:25", after := #[], guard := none }) (d := 17) (v := ?_) rfl rfl (by kernel_rfl) (by kernel_rfl) (by kernel_rfl) (fun _ _ _ h => h) (Or.inl ⟨by rfl, ?_⟩) hHeld ?_
        rotate_left
        · (intro w' hSw; (try dsimp only at hSw); go_simp; (try with_reducible rfl))
        simp only [List.setIfInBounds_toArray, List.set_cons_zero, List.set_cons_succ]
        refine wpAnyH_takeD (i := 2) (oi := { dst := some 18, op := Op.indexAddr 26 (Operand.tmp 16) (Operand.tmp 17), type := 0, pos := "slices.go:25", after := #[{ on := 0, ground := Ground.data }, { on := 1, ground := Ground.data }], guard := none }) (d := 18) (v := ?_) rfl rfl (by kernel_rfl) (by kernel_rfl) (by kernel_rfl) (fun _ _ _ h => h) (Or.inl ⟨by rfl, ?_⟩) hHeld ?_
        rotate_left
        · (intro w' hSw; (try dsimp only at hSw); go_simp; (try with_reducible rfl))
        simp only [List.setIfInBounds_toArray, List.set_cons_zero, List.set_cons_succ]
        refine wpAnyH_takeD (i := 3) (oi := { dst := some 19, op := Op.load 71 (Operand.tmp 18), type := 71, pos := "slices.go:25", after := #[{ on := 2, ground := Ground.data }], guard := none }) (d := 19) (v := ?_) rfl rfl (by kernel_rfl) (by kernel_rfl) (by kernel_rfl) (fun _ _ _ h => h) (Or.inl ⟨by rfl, ?_⟩) hHeld ?_
        rotate_left
        · (intro w' hSw; (try dsimp only at hSw); go_simp; (try with_reducible rfl))
        simp only [List.setIfInBounds_toArray, List.set_cons_zero, List.set_cons_succ]
        refine wpAnyH_takeD (i := 4) (oi := { dst := some 20, op := Op.move (Operand.tmp 1), type := 26, pos := "slices.go:25", after := #[], guard := none }) (d := 20) (v := ?_) rfl rfl (by kernel_rfl) (by kernel_rfl) (by kernel_rfl) (fun _ _ _ h => h) (Or.inl ⟨by rfl, ?_⟩) hHeld ?_
        rotate_left
        · (intro w' hSw; (try dsimp only at hSw); go_simp; (try with_reducible rfl))
        simp only [List.setIfInBounds_toArray, List.set_cons_zero, List.set_cons_succ]
        refine wpAnyH_takeD (i := 5) (oi := { dst := some 21, op := Op.move (Operand.tmp 5), type := 3, pos := "slices.go:25", after := #[], guard := none }) (d := 21) (v := ?_) rfl rfl (by kernel_rfl) (by kernel_rfl) (by kernel_rfl) (fun _ _ _ h => h) (Or.inl ⟨by rfl, ?_⟩) hHeld ?_
        rotate_left
        · (intro w' hSw; (try dsimp only at hSw); go_simp; (try with_reducible rfl))
        simp only [List.setIfInBounds_toArray, List.set_cons_zero, List.set_cons_succ]
        refine wpAnyH_takeD (i := 6) (oi := { dst := some 22, op := Op.indexAddr 26 (Operand.tmp 20) (Operand.tmp 21), type := 0, pos := "slices.go:25", after := #[{ on := 4, ground := Ground.data }, { on := 5, ground := Ground.data }], guard := none }) (d := 22) (v := ?_) rfl rfl (by kernel_rfl) (by kernel_rfl) (by kernel_rfl) (fun _ _ _ h => h) (Or.inl ⟨by rfl, ?_⟩) hHeld ?_
        rotate_left
        · (intro w' hSw; (try dsimp only at hSw); go_simp; (try with_reducible rfl))
        simp only [List.setIfInBounds_toArray, List.set_cons_zero, List.set_cons_succ]
        refine wpAnyH_takeD (i := 7) (oi := { dst := some 23, op := Op.load 71 (Operand.tmp 22), type := 71, pos := "slices.go:25", after := #[{ on := 6, ground := Ground.data }], guard := none }) (d := 23) (v := ?_) rfl rfl (by kernel_rfl) (by kernel_rfl) (by kernel_rfl) (fun _ _ _ h => h) (Or.inl ⟨by rfl, ?_⟩) hHeld ?_
        rotate_left
        · (intro w' hSw; (try dsimp only at hSw); go_simp; (try with_reducible rfl))
        simp only [List.setIfInBounds_toArray, List.set_cons_zero, List.set_cons_succ]
        refine wpAnyH_takeD (i := 8) (oi := { dst := some 24, op := Op.binOp BinOp.neq 71 (Operand.tmp 19) (Operand.tmp 23) 71, type := 4, pos := "slices.go:25", after := #[{ on := 3, ground := Ground.data }, { on := 7, ground := Ground.data }], guard := none }) (d := 24) (v := ?_) rfl rfl (by kernel_rfl) (by kernel_rfl) (by kernel_rfl) (fun _ _ _ h => h) (Or.inl ⟨by rfl, ?_⟩) hHeld ?_
        rotate_left
        · (intro w' hSw; (try dsimp only at hSw); go_simp; (try with_reducible rfl))
        simp only [List.setIfInBounds_toArray, List.set_cons_zero, List.set_cons_succ]
        refine wpAnyH_done (by kernel_rfl) ?_ _
        replace HB := Lib.hid HB.out.drew
        clear c10 c11 c20 c21 hHeld hq
        by_cases hxy : (x1, x2) = (y1, y2)
        · have HN := Lib.hid (HNX.out hxy)
          have hn : NB = false := by rw [← HNB.out]; simpa using hxy
          subst hn
          clear hxy HNX HNE
          go_wp2_with fail
          go_roundg (gk - 1)
          case measure => have := HK.out; omega
          case rel => exact ⟨k + 1, by have := HK.out; omega, by go_num, HN.out, HB.out⟩
        · have hn : NB = true := by rw [← HNB.out]; exact decide_eq_true hxy
          subst hn
          have HF : Hid (R = false) := Lib.hid (by rw [← HR.out]; simpa using HNE.out hxy)
          clear hxy HNX HNE
          go_wp2_with fail
          go_ret
          exact ⟨ret_bool HF.out.symm, HB.out⟩
      · have hke : k = l.length := by omega
        have HF : Hid (R = true) := Lib.hid (by
          rw [← HR.out]
          have := HT.out
          rw [hke, List.take_length, HLEN.out, List.take_length] at this
          simpa using this)
        have hlt' : ¬ (k : Int) < (l.length : Int) := by omega
        clear hke hk HK
        go_wp2_with fail
        go_ret
        exact ⟨ret_bool HF.out.symm, HB.out⟩
  · have HF : Hid (R = false) := Lib.hid (by rw [← HR.out]; simp; rintro rfl; exact hlen rfl)
    have hn : (l.length != m.length) = true := by simpa using hlen
    have hn2 : ((l.length : Int) != (m.length : Int)) = true := by simp; omega
    clear hlen
    go_enter Try.func50, Try.ntmps50
    go_wp2_with fail
    go_ret
    exact ⟨ret_bool HF.out.symm, Below.refl _ _⟩

end Go.Proofs.Ytpkmcokkapfnmaa
/- Layer 7 (grow): Export, Plain. -/
namespace Go.Proofs.Ytpkmcokkapfnmaa
open Go.RowKit Go.Maps Go.WideMaps
set_option maxRecDepth 100000
set_option linter.unusedVariables false
set_option linter.unusedSimpArgs false

/-- texts in a row of the call's own -/
def StrsIs (w : World) (base : Nat) (v : Value) (l : List (List UInt8)) : Prop := ∃ A c, v = .slice A l.length c ∧ w.ownsRow base 9 1 (.slice A l.length c) l.length (l.map strV)
theorem strs_sl {w : World} {base : Nat} {v : Value} {l : List (List UInt8)} (h : StrsIs w base v l) : ∃ A c, v = .slice A l.length c ∧ Sl1 w A strV l := by
  obtain ⟨A, c, e, hr⟩ := h
  exact ⟨A, c, e, own_sl1 hr⟩
theorem expT_at {T : List Ent} {j : Nat} (h : j < (expT T).length) : hasT T (256 + (j : Int)) = true ∧ bytesT T (256 + (j : Int)) = (expT T)[j] := by
  have h2 : 256 + j < T.length := by rw [expT_len] at h; omega
  have hh : hasT T (256 + (j : Int)) = true := by simp [hasT]; omega
  refine ⟨hh, ?_⟩
  unfold bytesT
  rw [if_pos hh, show (256 : Int) + (j : Int) = ((256 + j : Nat) : Int) by omega, entT_nat _ _ h2]
  simp [expT]
theorem expT_short {T : List Ent} (hT : OkT T) : ∀ s ∈ expT T, s.length ≤ 64 := by
  intro s hs
  unfold expT at hs
  obtain ⟨e, he, rfl⟩ := List.mem_map.1 hs
  exact (hT.len e (List.mem_of_mem_drop he)).2
section
variable {w w' : World} {tbase tb : Nat} {T : List Ent} {sv : Value} {mb mp : Nat}
theorem export_nil (w : World) : Calls Try.prog 33 #[.pointer none] w fun e w' => e = .returned (.slice none 0 0) ∧ w' = w := by
  go_enter Try.func33, Try.ntmps33
  go_wp2_with fail
  go_loopg [3, 4] 0 (fun n u i W => u = .slice none 0 0 ∧ i = .int .i64 256 ∧ W = w)
  case atStart => exact ⟨rfl, rfl, rfl⟩
  case round =>
    obtain ⟨rfl, rfl, rfl⟩ := hrel
    rename World => W
    go_wp2_with fail
    refine (len_nil W).mono ?_
    rintro e W ⟨rfl, rfl⟩
    go_wp2_with fail
    go_ret
    exact ⟨rfl, rfl⟩
structure ExpIs (w W : World) (T : List Ent) (j : Nat) (A2 : Option Addr) (c2 : Nat) : Prop where
  row : W.ownsRow w.heap.size 9 1 (.slice A2 j c2) j (((expT T).take j).map strV)
  bl : Below w.heap.size w W
set_option maxHeartbeats 4000000 in
theorem export_any (h : TabIs w tbase tb T sv mb mp) (hT : OkT T) :
    Calls Try.prog 33 #[.pointer (some ⟨tb, 0, none⟩)] w fun e w' => (∃ v, e = .returned v ∧ StrsIs w' w.heap.size v (expT T)) ∧ Below w.heap.size w w' := by
  have HS : Hid (ExpIs w w T 0 none 0) := Lib.hid ⟨own_nil _ _ _ _, Below.refl _ _⟩
  have HT0 := Lib.hid h
  have hsm := hT.small
  have h256 := okT_256 hT
  have HEL := Lib.hid (expT_len T)
  have HAT := Lib.hid (fun j => expT_at (T := T) (j := j))
  clear h hT
  go_enter Try.func33, Try.ntmps33
  go_wp2_with fail
  go_loopg [3, 4] (expT T).length (fun n u i W => ∃ j A2 c2, j + n = (expT T).length ∧ i = .int .i64 (256 + ((j : Nat) : Int)) ∧ u = .slice A2 j c2 ∧ ExpIs w W T j A2 c2)
  case atStart => exact ⟨0, none, 0, by omega, by simp, rfl, HS.out⟩
  case round =>
    obtain ⟨j, A2, c2, hj, rfl, rfl, hW⟩ := hrel
    clear HS
    rename World => W
    have HW := Lib.hid hW
    have HJ := Lib.hid hj
    clear hW
    go_wp2_with fail
    refine (len_tab (HT0.out.below HW.out.bl (Nat.le_refl _))).mono ?_
    rintro e W ⟨rfl, rfl⟩
    by_cases hlt : j < (expT T).length
    · have hl2 := HEL.out
      have p1 : 256 + (j : Int) < (T.length : Int) := by omega
      have p0 : (0 : Int) ≤ 256 + (j : Int) := by omega
      have wk : IntKind.i64.wrap (256 + (j : Int) + 1) = 256 + (j : Int) + 1 := IntWalk.i64_in _ (by omega)
      have hj9 : j ≤ 1000 := by omega
      have HTK := Lib.hid (take_snoc hlt)
      obtain ⟨hh, hby⟩ := HAT.out j hlt
      clear hj hl2
      go_wp2_with fail
      refine (bytes_tab (256 + (j : Int)) (HT0.out.below HW.out.bl (Nat.le_refl _))).mono ?_
      rintro e W ⟨rfl, rfl⟩
      rw [hh, hby]
      generalize (expT T)[j] = x at *
      clear hh hby
      have HXV : Hid (strV x = Value.string (bs x)) := Lib.hid rfl
      unfold strV
      generalize bs x = Z at *
      go_wp2_with (at_builtin; refine app_one (w.heap.size) 25 9 (.string ⟨#[]⟩) 1 16 [_] 1 _ _ rfl rfl Try.underlying25 info_str4 rfl (by decide) _ _ _ rfl rfl rfl (by intro u hu; simp at hu; subst hu; rfl) HW.out.row (by omega) (by omega) HW.out.bl.size ?_)
      intro v' w6 hown hg6
      obtain ⟨A3, c3, rfl⟩ := own_slice hown
      have hk6 : Below w.heap.size W w6 := Keep.below (Keep.of_grown (F := fun g => (Value.slice A2 j c2).ownBlock = some g) hg6 (fun g hg => hg)) HW.out.bl.size (fun x hx => own_base HW.out.row x hx)
      have HNEW : Hid (ExpIs w w6 T (j + 1) A3 c3) := Lib.hid ⟨by rw [HTK.out, List.map_append, List.map_singleton, HXV.out]; first | exact hown | (rw [List.map_take]; exact hown), HW.out.bl.trans hk6⟩
      clear hown hg6 hk6
      go_wp2_with fail
      go_roundg (gk - 1)
      case measure => have := HJ.out; omega
      case rel => exact ⟨j + 1, A3, c3, by have := HJ.out; omega, by rw [show (256 : Int) + ((j + 1 : Nat) : Int) = 256 + (j : Int) + 1 by omega], rfl, HNEW.out⟩
    · have hl2 := HEL.out
      have hje : j = (expT T).length := by omega
      have p1 : ¬ 256 + (j : Int) < (T.length : Int) := by omega
      have hr := HW.out.row
      rw [List.take_of_length_le (by omega)] at hr
      have HRR := Lib.hid hr
      have HJE := Lib.hid hje
      clear hj HJ hje hl2 hr
      go_wp2_with fail
      go_ret
      refine ⟨⟨.slice A2 j c2, rfl, A2, c2, by rw [← HJE.out], ?_⟩, HW.out.bl⟩
      rw [← HJE.out]
      exact HRR.out
theorem plain_nil (w : World) : Calls Try.prog 35 #[.pointer none] w fun e w' => e = .returned (.bool false) ∧ w' = w := by
  go_enter Try.func35, Try.ntmps35
  go_wp2_with fail
  go_ret
  exact ⟨rfl, rfl⟩
theorem impsT_bad {l : List (List UInt8)} {T T' : List Ent} {k : Nat} (hk : k < l.length) (h1 : impsT T (l.take k) = some T') (h2 : errT T' l[k] ≠ 0) : impsT T l = none := by
  cases h : impsT T l with
  | none => rfl
  | some T2 => exact absurd (impsT_take l T T2 k hk T' h h1) h2
set_option maxHeartbeats 4000000 in
theorem plain_any (h : TabIs w tbase tb T sv mb mp) (hT : OkT T) :
    Calls Try.prog 35 #[.pointer (some ⟨tb, 0, none⟩)] w fun e w' => e = .returned (.bool (plainT T)) ∧ Below w.heap.size w w' := by
  have HT0 := Lib.hid h
  have HOK := Lib.hid hT
  have hsm := hT.small
  have HEL := Lib.hid (expT_len T)
  clear h hT
  go_enter Try.func35, Try.ntmps35
  go_wp2_with fail
  refine (export_any HT0.out HOK.out).mono ?_
  rintro e w1 ⟨⟨v, rfl, hv⟩, hb1⟩
  obtain ⟨A1, c1, rfl, hs1⟩ := strs_sl hv
  have HS1 := Lib.hid hs1
  have HB1 := Lib.hid hb1
  have HIM := Lib.hid (import_any (expT T) A1 c1 w1 hs1 (by rw [expT_len]; omega) (fun s hs => by have := expT_short HOK.out s hs; omega))
  clear hv hb1 hs1
  go_wp2_with fail
  refine HIM.out.mono ?_
  rintro e w2 ⟨hb2, (⟨T', tb', sv', mb', mp', rfl, ha, hok, ht⟩ | ⟨k, hk, T', ha, hok, he, rfl⟩)⟩
  · have HA := Lib.hid ha
    have HOK2 := Lib.hid hok
    have HT2 := Lib.hid ht
    have HB2 := Lib.hid (HB1.out.trans (hb2.mono HB1.out.size))
    clear ha hok ht hb2 HIM
    go_wp2_with fail
    refine (merges_tab HT2.out HOK2.out).mono ?_
    rintro e w3 ⟨A3, c3, rfl, hr3, hb3⟩
    have HR3 := Lib.hid hr3
    have HB3 := Lib.hid (HB2.out.trans (hb3.mono HB2.out.size))
    clear hr3 hb3
    go_wp2_with fail
    refine (merges_tab (HT0.out.below HB3.out (Nat.le_refl _)) HOK.out).mono ?_
    rintro e w4 ⟨A4, c4, rfl, hr4, hb4⟩
    have hs2 := HOK2.out.small
    have HEQ := Lib.hid (equal_any (mrgsT T') (mrgsT T) A3 A4 c3 c4 w4 (own_sl (enc := encM) (fun _ => rfl) (own_below HR3.out hb4 (Nat.le_refl _)) (by decide)) (own_sl (enc := encM) (fun _ => rfl) hr4 (by decide)) (by rw [mrgs_len]; omega))
    have HB4 := Lib.hid (HB3.out.trans (hb4.mono HB3.out.size))
    have HP : Hid (decide (mrgsT T' = mrgsT T) = plainT T) := Lib.hid (by unfold plainT; rw [HA.out])
    clear hr4 hb4 hs2
    generalize decide (mrgsT T' = mrgsT T) = B at *
    go_wp2_with fail
    refine HEQ.out.mono ?_
    rintro e w5 ⟨rfl, hb5⟩
    have HB5 := Lib.hid (HB4.out.trans (hb5.mono HB4.out.size))
    clear hb5 HEQ
    go_wp2_with fail
    go_ret
    exact ⟨ret_bool HP.out, HB5.out⟩
  · have HP : Hid (plainT T = false) := Lib.hid (by unfold plainT; rw [impsT_bad hk ha he])
    have HB2 := Lib.hid (HB1.out.trans (hb2.mono HB1.out.size))
    obtain ⟨E, hE⟩ : ∃ E, errT T' (expT T)[k] = E := ⟨_, rfl⟩
    rw [hE] at he ⊢
    have hne : (E == 0) = false := by simpa using he
    clear hE he ha hb2 hok HIM
    go_wp2_with fail
    go_ret
    exact ⟨ret_bool HP.out.symm, HB2.out⟩
end
end Go.Proofs.Ytpkmcokkapfnmaa
/- Layer 7 (grow): few; the document's examples. -/
namespace Go.Proofs.Ytpkmcokkapfnmaa
open Go.RowKit Go.Maps Go.WideMaps
set_option maxRecDepth 100000
set_option linter.unusedVariables false
set_option linter.unusedSimpArgs false

def fewT (l : List (List UInt8)) : Bool := l.all (fun s => decide (s.length ≤ 100)) && decide (l.length ≤ 40)
theorem fewT_iff (l : List (List UInt8)) : fewT l = true ↔ (∀ s ∈ l, s.length ≤ 100) ∧ l.length ≤ 40 := by simp [fewT]
theorem few_any (l : List (List UInt8)) (A : Option Addr) (c : Nat) (w : World) (hl : Sl1 w A strV l) (hz : l.length ≤ maxLen) :
    Calls Try.prog 24 #[.slice A l.length c] w fun e w' => e = .returned (.bool (fewT l)) ∧ w' = w := by
  obtain ⟨R, hR⟩ : ∃ R, fewT l = R := ⟨_, rfl⟩
  rw [hR]
  have HR := Lib.hid hR
  have HL := Lib.hid hl
  have HZ := Lib.hid hz
  clear hl hR hz
  go_enter Try.func24, Try.ntmps24
  go_wp2_with fail
  go_loopg [3] l.length (fun n i W => ∃ k, k + n = l.length ∧ i = .int .i64 ((k : Nat) : Int) ∧ (∀ s ∈ l.take k, s.length ≤ 100) ∧ W = w)
  case atStart => exact ⟨0, by omega, rfl, by simp, rfl⟩
  case round =>
    obtain ⟨k, hk, rfl, hall, rfl⟩ := hrel
    rename World => W
    have HK := Lib.hid hk
    have HALL := Lib.hid hall
    clear hall
    by_cases hlt : k < l.length
    · have p0 : (0 : Int) ≤ (k : Int) := by omega
      have p1 : (k : Int) < (l.length : Int) := by omega
      have wk : IntKind.i64.wrap ((k : Int) + 1) = (k : Int) + 1 := IntWalk.i64_in _ (by have h := HZ.out; unfold maxLen at h; omega)
      obtain ⟨b1, o1, rfl, c1⟩ := HL.out.at k hlt
      have HTK := Lib.hid (take_snoc hlt)
      have HM : Hid (l[k] ∈ l) := Lib.hid (List.getElem_mem hlt)
      generalize l[k] = x at *
      have HSZ : Hid ((bs x).size = x.length) := Lib.hid (bs_size x)
      unfold strV at c1
      generalize bs x = Z at *
      clear hk
      by_cases hx : x.length ≤ 100
      · have h1 : ¬ (100 : Int) < (Z.size : Int) := by rw [HSZ.out]; omega
        have HN : Hid (∀ s ∈ l.take (k + 1), s.length ≤ 100) := Lib.hid (by
          intro s hs
          rw [HTK.out, List.mem_append, List.mem_singleton] at hs
          rcases hs with hs | rfl
          · exact HALL.out s hs
          · exact hx)
        clear hx
        go_wp2_with fail
        go_roundg (gk - 1)
        case measure => have := HK.out; omega
        case rel => exact ⟨k + 1, by have := HK.out; omega, by go_num, HN.out, rfl⟩
      · have h1 : (100 : Int) < (Z.size : Int) := by rw [HSZ.out]; omega
        have HF : Hid (R = false) := Lib.hid (by
          rw [← HR.out, Bool.eq_false_iff]
          intro e
          exact hx (((fewT_iff l).1 e).1 x HM.out))
        clear hx
        go_wp2_with fail
        go_ret
        exact ⟨ret_bool HF.out.symm, rfl⟩
    · have hke : k = l.length := by omega
      subst hke
      have HF : Hid (decide (l.length ≤ 40) = R) := Lib.hid (by
        rw [← HR.out]
        unfold fewT
        have h1 := HALL.out
        rw [List.take_length] at h1
        have h2 : l.all (fun s => decide (s.length ≤ 100)) = true := by simpa using h1
        rw [h2]; rfl)
      clear hk HK HALL
      by_cases h40 : l.length ≤ 40
      · have h1 : (l.length : Int) ≤ 40 := by omega
        have HF2 : Hid (true = R) := Lib.hid (by rw [← HF.out]; simpa using h40)
        clear HF h40
        go_wp2_with fail
        go_ret
        exact ⟨ret_bool HF2.out, rfl⟩
      · have h1 : ¬ (l.length : Int) ≤ 40 := by omega
        have HF2 : Hid (false = R) := Lib.hid (by rw [← HF.out]; simpa using h40)
        clear HF h40
        go_wp2_with fail
        go_ret
        exact ⟨ret_bool HF2.out, rfl⟩

theorem ag_two1 : twoT baseT [97, 98] = some (97, 98) := by kernel_rfl
theorem ag_two2 : twoT acT1 [97, 98, 99] = some (256, 99) := by kernel_rfl
theorem ag_two3 : twoT baseT [97, 98, 99] = none := by kernel_rfl
theorem ag_imps : impsT baseT [[97, 98], [97, 98, 99]] = some acT2 := by
  have e1 := errT_some ag_two1
  have e2 := errT_some ag_two2
  simp only [ac_add1, ac_add2] at e1 e2
  simp only [impsT, e1, e2, if_true]
theorem ag_par : parT acT2 257 = (256, 99) := by kernel_rfl
theorem ag_born : bornT acT2 257 = true := by kernel_rfl
theorem eql_mrgs (x y : Int) (w : World) : (binOp .eql 71 (.agg #[.int .i64 x, .int .i64 y]) (.agg #[.int .i64 x, .int .i64 y])).run Try.prog w = .ok (.bool true) w := by simp [go_sem]
/-- texts that were just built -/
theorem sl_str {w : World} {g : Nat} {l : List (List UInt8)} (h : w.heap[g]? = some (.cells (l.map strV).toArray 9)) : Sl1 w (some ⟨g, 0, none⟩) strV l := by
  intro i x hx
  refine ⟨g, 0, rfl, ?_⟩
  rw [blk_cell h, List.getElem?_toArray, Nat.zero_add, List.getElem?_map, hx]
  rfl
set_option maxHeartbeats 4000000 in
theorem awake7_any (w : World) : Calls Try.prog 25 #[] w fun e w' => e = .returned (.bool true) ∧ Below w.heap.size w w' := by
  have HB0 := Lib.hid ((Below.refl w.heap.size w).alloc (Nat.le_refl _) (.cells #[.string ⟨#[97, 98]⟩, .string ⟨#[97, 98, 99]⟩] 9))
  have HSL := Lib.hid (sl_str (l := [[97, 98], [97, 98, 99]]) (blk_new w (.cells #[.string ⟨#[97, 98]⟩, .string ⟨#[97, 98, 99]⟩] 9)))
  go_enter Try.func25, Try.ntmps25
  go_wp2_with fail
  generalize w.alloc (.cells #[.string ⟨#[97, 98]⟩, .string ⟨#[97, 98, 99]⟩] 9) = w1 at *
  refine (import_any [[97, 98], [97, 98, 99]] _ 2 w1 HSL.out (by decide) (by decide)).mono ?_
  rintro e w2 ⟨hb, (⟨T, tb, sv, mb, mp, rfl, ha, hok, ht⟩ | ⟨k, hk, T', ha, hok, he, rfl⟩)⟩
  · rw [ag_imps] at ha
    cases ha
    have HB2 := Lib.hid (HB0.out.trans (hb.mono HB0.out.size))
    have HPA := Lib.hid (par_tab 257 ht)
    rw [ag_par, ag_born] at HPA
    unfold pairV at HPA
    clear hb ht hok HSL HB0
    have HL0 : Hid (((([[97, 98], [97, 98, 99]] : List (List UInt8)).length : Nat) : Int) = 2) := Lib.hid rfl
    rw [HL0.out]
    go_wp2_with fail
    refine HPA.out.mono ?_
    rintro e w3 ⟨rfl, hb⟩
    have hba := (Below.refl w3.heap.size w3).alloc (Nat.le_refl _) (.cells #[.int .i64 256, .int .i64 99] 71)
    have hb3 := HB2.out.trans (hb.mono HB2.out.size)
    have HB3 := Lib.hid (hb3.trans (hba.mono hb3.size))
    have HN := Lib.hid (blk_new w3 (.cells #[.int .i64 256, .int .i64 99] 71))
    clear hb hba hb3 HPA HL0
    go_upto_region 3 with fail
    generalize w3.alloc (.cells #[.int .i64 256, .int .i64 99] 71) = w4 at *
    generalize w3.heap.size = g4 at *
    have hba := (Below.refl w4.heap.size w4).alloc (Nat.le_refl _) (.cells #[.string ⟨#[97, 98, 99]⟩] 9)
    have HSL := Lib.hid (sl_str (l := [[97, 98, 99]]) (blk_new w4 (.cells #[.string ⟨#[97, 98, 99]⟩] 9)))
    replace HB3 := Lib.hid (HB3.out.trans (hba.mono HB3.out.size))
    replace HN := Lib.hid (blk_below hba (blk_lt HN.out) HN.out)
    clear hba
    go_wp2_with fail
    generalize w4.alloc (.cells #[.string ⟨#[97, 98, 99]⟩] 9) = w5 at *
    refine (import_any [[97, 98, 99]] _ 1 w5 HSL.out (by decide) (by decide)).mono ?_
    rintro e w6 ⟨hb, (⟨T, tb', sv', mb', mp', rfl, ha, hok, ht⟩ | ⟨k, hk, T', ha, hok, he, rfl⟩)⟩
    · exfalso
      simp only [impsT, errT_none ag_two3] at ha
      cases ha
    · have hk0 : k = 0 := by simp at hk; exact hk
      subst hk0
      simp only [List.take_zero, impsT, Option.some.injEq] at ha
      subst ha
      have HE : Hid (errT baseT ([[97, 98, 99]] : List (List UInt8))[0] = 2) := Lib.hid (errT_none ag_two3)
      rw [HE.out]
      have HB6 := Lib.hid (HB3.out.trans (hb.mono HB3.out.size))
      have hn := blk_below hb (blk_lt HN.out) HN.out
      have n0 := blk_cell hn 0
      have n1 := blk_cell hn 1
      simp only [List.getElem?_toArray, List.getElem?_cons_zero, List.getElem?_cons_succ] at n0 n1
      have hq := eql_mrgs 256 99 w6
      have HZ : Hid (((0 : Nat) : Int) = 0) := Lib.hid rfl
      rw [HZ.out]
      clear hb hn he hok HSL HN HE HZ
      go_wp2_with fail
      go_ret
      exact ⟨rfl, HB6.out⟩
  · exfalso
    have := impsT_bad hk ha he
    rw [ag_imps] at this
    cases this
end Go.Proofs.Ytpkmcokkapfnmaa
/- Arguments of a law, opened: slices of integers, of texts, of structs of integers. -/
namespace Go.Proofs.Ytpkmcokkapfnmaa
open Go.ChangeShapes Go.WideShapes Go.Deep

/-- A law's walk: the call returns true, and nothing that was there has turned. -/
def RetTrue (w : World) (e : Ending) (w' : World) : Prop := e = .returned (.bool true) ∧ Go.RowKit.Below w.heap.size w w'

theorem addr_plain {w : World} {a : Addr} {v : Value} (h : w.cell? a = some v) : a = ⟨a.block, a.off, none⟩ := by
  have := World.cell?_spot h
  cases a
  simp_all

/-- an integer's cells -/
def encInts (k : IntKind) (l : List Int) : List Value := l.map (Value.int k)

section
variable {H : Type} {enc : TypeId × Value → H} {P : Program} {w : World} {base : Nat} {spare : Nat → Bool} {held : Bool}

/-- A slice of integers that came in. -/
theorem arg_ints {t e : TypeId} {k : IntKind} {fuel : Nat} {A : Option Addr} {n c : Nat} {x : DataW H × List MemPlace} (ht : P.underlying t = some (.slice e)) (he : P.underlying e = some (.int k)) (hC : P.cellsOf e = 1)
    (h : DataW.trod enc P w base spare held fuel t [.slice A n c] = some x) :
    ∃ xs : List Int, xs.length = n ∧ n ≤ c ∧ c ≤ maxLen ∧ (∀ y ∈ xs, (Lit.int k y).wf = true) ∧ Sl1 w A (Value.int k) xs := by
  rcases open_slice1 ht hC h with ⟨h0, _⟩ | ⟨a, len, cap, m, f, V, D, Pl, hcs, hb, hl, hm, hmm, hx, hi⟩
  · cases h0
    exact ⟨[], rfl, Nat.le_refl _, Nat.zero_le _, by simp, Sl1.nil _ _ _⟩
  · cases hcs
    have hlm : n ≤ m := by rw [hmm]; split <;> omega
    obtain ⟨g, hg⟩ := choose_lt (α := Int) (p := fun i y => V i = .int k y ∧ (Lit.int k y).wf = true) (n := m) (fun i him => by
      obtain ⟨_, h2⟩ := hi i him
      obtain ⟨y, e1, _, e3⟩ := DataW.trod_int he h2
      exact ⟨y, by simpa using e1, e3⟩)
    refine ⟨(List.range n).map g, by simp, hl, hm, ?_, ?_⟩
    · intro y hy
      obtain ⟨i, hir, rfl⟩ := List.mem_map.1 hy
      rw [List.mem_range] at hir
      exact (hg i (by omega)).2
    · intro i y hy
      rw [List.getElem?_map, Option.map_eq_some_iff] at hy
      obtain ⟨i', hi', rfl⟩ := hy
      obtain ⟨hlt, hi''⟩ := List.getElem?_eq_some_iff.1 hi'
      rw [List.getElem_range] at hi''
      subst hi''
      rw [List.length_range] at hlt
      have hc := (hi i (by omega)).1
      rw [(hg i (by omega)).1] at hc
      have h0 := addr_plain (hi 0 (by omega)).1
      have ha : a = ⟨a.block, a.off, none⟩ := by
        have : a.add 0 = a := by unfold Addr.add; simp
        rwa [this] at h0
      refine ⟨a.block, a.off, by rw [← ha], ?_⟩
      rw [ha] at hc
      have hadd := add_plain a.block a.off i
      rwa [hadd] at hc

/-- A slice of texts that came in. -/
theorem arg_strs {t e : TypeId} {fuel : Nat} {A : Option Addr} {n c : Nat} {x : DataW H × List MemPlace} (ht : P.underlying t = some (.slice e)) (he : P.underlying e = some .string) (hC : P.cellsOf e = 1)
    (h : DataW.trod enc P w base spare held fuel t [.slice A n c] = some x) :
    ∃ xs : List (List UInt8), xs.length = n ∧ n ≤ c ∧ c ≤ maxLen ∧ (∀ y ∈ xs, y.length ≤ maxLen) ∧ Sl1 w A strV xs := by
  rcases open_strings ht he hC h with ⟨h0, _⟩ | ⟨a, len, cap, ss, hcs, hb, hl, hm, hss, hx, hi, hw⟩
  · cases h0
    exact ⟨[], rfl, Nat.le_refl _, Nat.zero_le _, by simp, Sl1.nil _ _ _⟩
  · cases hcs
    have hlm : n ≤ ss.length := by rw [hss]; split <;> omega
    refine ⟨(ss.take n).map (fun s => s.data.toList), by simp; omega, hl, hm, ?_, ?_⟩
    · intro y hy
      obtain ⟨s, hs, rfl⟩ := List.mem_map.1 hy
      have := hw s (List.mem_of_mem_take hs)
      simpa using this
    · intro i y hy
      rw [List.getElem?_map, Option.map_eq_some_iff] at hy
      obtain ⟨s, hs, rfl⟩ := hy
      have hlt : i < n := by
        have := (List.getElem?_eq_some_iff.1 hs).1
        rw [List.length_take] at this
        omega
      rw [List.getElem?_take, if_pos hlt] at hs
      have hc := hi i (by omega)
      rw [List.getD_eq_getElem?_getD, hs] at hc
      have h0 := addr_plain (hi 0 (by omega))
      have ha : a = ⟨a.block, a.off, none⟩ := by
        have : a.add 0 = a := by unfold Addr.add; simp
        rwa [this] at h0
      refine ⟨a.block, a.off, by rw [← ha], ?_⟩
      rw [ha] at hc
      have hadd := add_plain a.block a.off i
      rw [hadd] at hc
      rw [hc]
      simp [strV, bs_data]

/-- all fields are integers -/
def allInts (P : Program) (fs : Array Field) : Prop := ∀ (j : Nat) (f : Field), fs[j]? = some f → P.underlying f.type = some (.int .i64)

theorem arg_structs {t e : TypeId} {fs : Array Field} {fuel : Nat} {A : Option Addr} {n c : Nat} {x : DataW H × List MemPlace} (ht : P.underlying t = some (.slice e)) (he : P.underlying e = some (.struct fs))
    (hone : oneCellFields P fs = true) (hC : P.cellsOf e = fs.size) (hint : allInts P fs) (h0s : 0 < fs.size)
    (h : DataW.trod enc P w base spare held fuel t [.slice A n c] = some x) :
    ∃ xs : List (List Int), xs.length = n ∧ n ≤ c ∧ c ≤ maxLen ∧ (∀ y ∈ xs, y.length = fs.size ∧ ∀ z ∈ y, (Lit.int .i64 z).wf = true) ∧ Sl w A (encInts .i64) fs.size xs := by
  rcases open_slice ht h with ⟨h0, _⟩ | ⟨a, len, cap, m, f, D, Pl, hcs, hb, hl, hm, hmm, hx, hi⟩
  · cases h0
    exact ⟨[], rfl, Nat.le_refl _, Nat.zero_le _, by simp, Sl.nil _ _ _ _⟩
  · cases hcs
    have hlm : n ≤ m := by rw [hmm]; split <;> omega
    obtain ⟨g, hg⟩ := choose_lt (α := List Int) (p := fun i y => y.length = fs.size ∧ (∀ z ∈ y, (Lit.int .i64 z).wf = true) ∧ ∀ j z, y[j]? = some z → w.cell? (a.add (i * fs.size + j)) = some (.int .i64 z)) (n := m) (fun i him => by
      obtain ⟨cs', hc, ht'⟩ := hi i him
      rw [hC] at hc
      obtain ⟨ys, n', hn', hy, hlen, hyl, hf⟩ := DataW.trod_struct he ht'
      obtain ⟨_, hcl, hat⟩ := World.cells?_some hc
      have key : ∀ j, j < fs.size → ∃ z, cs'[j]? = some (.int .i64 z) ∧ (Lit.int .i64 z).wf = true := by
        intro j hjl
        obtain ⟨fj, hj⟩ : ∃ fj, fs[j]? = some fj := ⟨fs[j], by simp [hjl]⟩
        obtain ⟨ho, hk⟩ := hone_of hone j fj hj
        have h1 := hf j fj hj
        rw [ho, hk] at h1
        have hone' : (cs'.drop j).take 1 = [cs'[j]'(by omega)] := by
          rw [List.drop_eq_getElem_cons (by omega)]
          rfl
        rw [hone'] at h1
        have hys : ys[j]? = some (ys[j]'(by omega)) := List.getElem?_eq_getElem (by omega)
        rw [hys] at h1
        obtain ⟨z, e1, _, e3⟩ := DataW.trod_int (hint j fj hj) h1
        refine ⟨z, ?_, e3⟩
        rw [List.getElem?_eq_getElem (by omega)]
        simpa using e1
      obtain ⟨q, hq⟩ := choose_lt (α := Int) key
      refine ⟨(List.range fs.size).map q, by simp, ?_, ?_⟩
      · intro z hz
        obtain ⟨j, hj, rfl⟩ := List.mem_map.1 hz
        exact (hq j (List.mem_range.1 hj)).2
      · intro j z hz
        rw [List.getElem?_map, Option.map_eq_some_iff] at hz
        obtain ⟨j', hj', rfl⟩ := hz
        obtain ⟨hlt, hj''⟩ := List.getElem?_eq_some_iff.1 hj'
        rw [List.getElem_range] at hj''
        subst hj''
        rw [List.length_range] at hlt
        rw [← Go.Deep.add_add, hat j hlt, (hq j hlt).1])
    refine ⟨(List.range n).map g, by simp, hl, hm, ?_, ?_⟩
    · intro y hy
      obtain ⟨i, hir, rfl⟩ := List.mem_map.1 hy
      rw [List.mem_range] at hir
      exact ⟨(hg i (by omega)).1, (hg i (by omega)).2.1⟩
    · intro i y hy
      rw [List.getElem?_map, Option.map_eq_some_iff] at hy
      obtain ⟨i', hi', rfl⟩ := hy
      obtain ⟨hlt, hi''⟩ := List.getElem?_eq_some_iff.1 hi'
      rw [List.getElem_range] at hi''
      subst hi''
      rw [List.length_range] at hlt
      obtain ⟨z0, hz0⟩ : ∃ z, (g 0)[0]? = some z := ⟨(g 0)[0]'(by rw [(hg 0 (by omega)).1]; exact h0s), by simp⟩
      have h0 := addr_plain ((hg 0 (by omega)).2.2 0 z0 hz0)
      have ha : a = ⟨a.block, a.off, none⟩ := by
        have : a.add (0 * fs.size + 0) = a := by unfold Addr.add; simp
        rwa [this] at h0
      refine ⟨a.block, a.off, by rw [← ha], fun j v hv => ?_⟩
      unfold encInts at hv
      rw [List.getElem?_map, Option.map_eq_some_iff] at hv
      obtain ⟨z, hz, rfl⟩ := hv
      have hc := (hg i (by omega)).2.2 j z hz
      rw [ha] at hc
      have hadd := add_plain a.block a.off
      rw [hadd, ← Nat.add_assoc] at hc
      exact hc
end
end Go.Proofs.Ytpkmcokkapfnmaa
