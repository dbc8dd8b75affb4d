/- Texts of several layers, one behind the other: ChainE, ChainF, ChainG, ChainH, ChainI, GrowG, Right2, Copy0, Copy1, Mark0, Mark1, Build0, Build1, Vocab0, Once0, Once1, Once2, Vocab2, Pieces, Bound2, Find0, Find1, Spine0. -/
import Derived.Test.YtbppaiejpgdbiaaGreatZA3
import Derived.WalkKit
import Derived.KernelRfl
import Derived.Lib.Hide
import Derived.Deep.QuietTactic
import Derived.BigQuiet
import Derived.OwnWalk
import Derived.Lib.Strings
import Derived.Deep.DeepCutAuto
import Derived.Deep.RegionHeld3
import Derived.StillTailTactics
import Derived.Test.YtbppaiejpgdbiaaGreatProg
import Derived.Deep.Slices
import Derived.Deep.Fields
import Derived.ChangeSame
import Derived.SliceStrings
import Derived.OpenShut
import Derived.Maps.OwnSet
import Derived.Maps.OwnOps
import Derived.DeepKeys4
import Derived.WideKeyEntry
import Derived.Maps.AppendAt
import Derived.Laws.ResultCell
import Derived.Laws.IdiomStrings
import Derived.Laws.AppendOwnNone
import Derived.Lib.AppendStr
import Derived.Laws.LoneSync
import Derived.Tactics
import Derived.Tactics2
import Derived.Defers
import Derived.Laws.Pointers
import Derived.RegionTactic
import Derived.RegionCalls
import Derived.ChangeAlike
import Derived.Test.YtbppaiejpgdbiaaGreatRows
import Derived.ProofKit
import Derived.ShutString
import Derived.ChangeOld
import Derived.Below
import Derived.Lib.SmallJoins
/- Layer 5 (chain): the document's answer: Encode, All. -/
namespace Go.Proofs.YtbppaiejpgdbiaaGreat
open Go.RowKit Go.Maps Go.WideMaps
set_option maxRecDepth 100000
set_option linter.unusedVariables false
set_option linter.unusedSimpArgs false

theorem rep_two {a b c : Int} {L : List Int} {i : Nat} (h : i + 1 < L.length) (h1 : L[i] = a) (h2 : L[i + 1] = b) : rep a b c (L.drop i) = c :: rep a b c (L.drop (i + 2)) := by
  rw [List.drop_eq_getElem_cons (by omega), List.drop_eq_getElem_cons (i := i + 1) h, rep, if_pos ⟨h1, h2⟩]
theorem rep_one {a b c : Int} {L : List Int} {i : Nat} (h : i < L.length) (hn : ¬ ∃ h2 : i + 1 < L.length, L[i] = a ∧ L[i + 1] = b) : rep a b c (L.drop i) = L[i] :: rep a b c (L.drop (i + 1)) := by
  rw [List.drop_eq_getElem_cons h]
  by_cases h2 : i + 1 < L.length
  · rw [List.drop_eq_getElem_cons (i := i + 1) h2, rep, if_neg (fun e => hn ⟨h2, e⟩)]
  · have : L.drop (i + 1) = [] := List.drop_eq_nil_of_le (by omega)
    rw [this]; rfl
theorem bysI_take {l : List UInt8} {k : Nat} (h : k < l.length) : (bysI l).take (k + 1) = (bysI l).take k ++ [byI l k] := by
  have h' : k < (bysI l).length := by simpa [bysI] using h
  rw [take_snoc h']
  congr 2
  simp [bysI, byI, h]
theorem mrgsB_drop {T : List Ent} {bel : Int} {k : Nat} {a b : Int} {L : List Int} (h1 : k < (mrgsT T).length) (h2 : 256 + (k : Int) < bel) (hm : (mrgsT T)[k] = (a, b)) :
    seqE ((mrgsB T bel).drop k) (256 + k) L = seqE ((mrgsB T bel).drop (k + 1)) (256 + ((k + 1 : Nat) : Int)) (rep a b (256 + k) L) := by
  have h3 : k < (mrgsB T bel).length := by unfold mrgsB; rw [List.length_take]; omega
  rw [List.drop_eq_getElem_cons h3]
  have h4 : (mrgsB T bel)[k] = (a, b) := by
    have : (mrgsB T bel)[k]? = some (a, b) := by unfold mrgsB; rw [List.getElem?_take, if_pos (by omega), List.getElem?_eq_getElem h1, hm]
    rw [List.getElem?_eq_getElem h3] at this
    exact Option.some.inj this
  rw [h4, seqE]
  have e : 256 + (k : Int) + 1 = 256 + ((k + 1 : Nat) : Int) := by omega
  rw [e]
theorem mrgsB_all {T : List Ent} {bel : Int} {k : Nat} {L : List Int} (h : (mrgsT T).length ≤ k ∨ bel ≤ 256 + (k : Int)) : seqE ((mrgsB T bel).drop k) (256 + k) L = L := by
  rw [List.drop_eq_nil_of_le (by unfold mrgsB; rw [List.length_take]; omega)]
  rfl

structure REn (W0 W : World) (v : Value) (L : List Int) : Prop where
  row : IntsIs W W0.heap.size v L
  bl : Below W0.heap.size W0 W
section
variable {w w' : World} {base : Nat} {T : List Ent} {vb vm : Value}
set_option maxHeartbeats 8000000 in
theorem renc_any (h : RefIs w base T vb vm) (hT : OkT T) (s : ByteArray) (hs : s.size ≤ 100000000) (bel : Int) :
    Calls Tryz.prog 102 #[.agg #[vb, vm], .string s, .int .i64 bel] w fun e w' => (∃ v, e = .returned v ∧ IntsIs w' w.heap.size v (encT T bel s.data.toList)) ∧ Below w.heap.size w w' := by
  obtain ⟨A, c, rfl⟩ := own_slice h.row
  obtain ⟨A2, c2, hvm⟩ := own_slice h.mrg
  subst hvm
  have hb0 := (Below.refl w.heap.size w).alloc (Nat.le_refl _) (.cells #[.slice A T.length c, .slice A2 (mrgsT T).length c2] 34)
  have n0 := blk_cell (blk_new w (.cells #[.slice A T.length c, .slice A2 (mrgsT T).length c2] 34)) 1
  simp only [List.getElem?_toArray, List.getElem?_cons_zero, List.getElem?_cons_succ] at n0
  have HSL := Lib.hid ((own_sl (enc := encM) (fun _ => rfl) h.mrg (by decide)).below hb0 (Nat.le_refl _))
  have HB := Lib.hid hb0
  have hsm := hT.small
  have hml : (mrgsT T).length ≤ 1000 := by rw [mrgs_len]; omega
  have HN0 := Lib.hid n0
  have HDL := Lib.hid (dataLen s)
  have HSEQ : Hid (∀ k L a b (h1 : k < (mrgsT T).length), 256 + (k : Int) < bel → (mrgsT T)[k] = (a, b) → seqE ((mrgsB T bel).drop k) (256 + k) L = seqE ((mrgsB T bel).drop (k + 1)) (256 + ((k + 1 : Nat) : Int)) (rep a b (256 + k) L)) := Lib.hid (fun k L a b h1 h2 h3 => mrgsB_drop h1 h2 h3)
  have HALL : Hid (∀ (k : Nat) L, ((mrgsT T).length ≤ k ∨ bel ≤ 256 + (k : Int)) → seqE ((mrgsB T bel).drop k) (256 + k) L = L) := Lib.hid (fun k L h => mrgsB_all h)
  have HE0 : Hid (encT T bel s.data.toList = seqE ((mrgsB T bel).drop 0) (256 + ((0 : Nat) : Int)) (bysI s.data.toList)) := Lib.hid (by rw [List.drop_zero]; rfl)
  clear hb0 h n0 hT
  go_enter Tryz.func102, Tryz.ntmps102
  go_wp2_with fail
  generalize hW : w.alloc (.cells #[.slice A T.length c, .slice A2 (mrgsT T).length c2] 34) = W0 at *
  clear hW
  obtain ⟨E0, hE⟩ : ∃ E, encT T bel s.data.toList = E := ⟨_, rfl⟩
  have HEE := Lib.hid hE
  rw [hE] at HE0
  clear hE
  generalize mrgsB T bel = MB at *
  generalize mrgsT T = M at *
  have HG0 := Lib.hid (show w.heap.size < W0.heap.size from World.block_lt_of_cell? W0 ⟨w.heap.size, 1, none⟩ HN0.out)
  have HS : Hid (W0.ownsRow W0.heap.size 3 1 (.slice none 0 0) 0 ([] : List Value)) := Lib.hid (own_nil _ _ _ _)
  go_loopg [7, 8] s.size (fun n u i W => ∃ k A c, k + n = s.size ∧ i = .int .i64 ((k : Nat) : Int) ∧ u = .slice A k c ∧ W.ownsRow W0.heap.size 3 1 (.slice A k c) k (((bysI s.data.toList).take k).map (Value.int .i64)) ∧ Below W0.heap.size W0 W)
  case atStart => exact ⟨0, none, 0, by omega, rfl, rfl, by simpa using HS.out, Below.refl _ _⟩
  case round =>
    obtain ⟨k, A1, c1, hk, rfl, rfl, hrow, hbl⟩ := hrel
    rename World => W
    have HK := Lib.hid hk
    have HROW := Lib.hid hrow
    have HBL := Lib.hid hbl
    clear hrow hbl
    by_cases hlt : k < s.size
    · have p0 : (0 : Int) ≤ (k : Int) := by omega
      have p1 : (k : Int) < (s.size : Int) := by omega
      have w2 : IntKind.i64.wrap ((k : Int) + 1) = (k : Int) + 1 := IntWalk.i64_in _ (by omega)
      have h8 : IntKind.i64.wrap ((s[k]'hlt).toNat : Int) = ((s[k]'hlt).toNat : Int) := by have := (s[k]'hlt).toNat_lt; exact IntWalk.i64_in _ (by omega)
      have HBY := Lib.hid (byI_at s k hlt)
      have HTK := Lib.hid (bysI_take (l := s.data.toList) (k := k) (by rw [dataLen]; exact hlt))
      clear hk
      go_wp2_with (at_builtin; refine app_one W0.heap.size 57 3 (.int .i64 0) 1 8 [_] 1 _ _ rfl rfl Tryz.underlying57 info_int5 rfl (by decide) _ _ _ rfl rfl rfl (by intro u hu; simp at hu; subst hu; rfl) HROW.out (by omega) (by omega) HBL.out.size ?_)
      intro v' w6 hown hg6
      obtain ⟨A3, c3, rfl⟩ := own_slice hown
      have hk6 : Below W0.heap.size W w6 := Keep.below (Keep.of_grown (F := fun g => (Value.slice A1 k c1).ownBlock = some g) hg6 (fun g hg => hg)) HBL.out.size (fun x hx => own_base HROW.out x hx)
      have HR6 : Hid (w6.ownsRow W0.heap.size 3 1 (.slice A3 (k + 1) c3) (k + 1) (((bysI s.data.toList).take (k + 1)).map (Value.int .i64))) := Lib.hid (by rw [HTK.out, List.map_append, HBY.out]; first | exact hown | (rw [List.map_take]; exact hown))
      have HB6 := Lib.hid (HBL.out.trans hk6)
      clear hown hg6 hk6
      go_wp2_with fail
      go_roundg (gk - 1)
      case measure => have := HK.out; omega
      case rel => exact ⟨k + 1, A3, c3, by have := HK.out; omega, rfl, rfl, HR6.out, HB6.out⟩
    · have hke : k = s.size := by omega
      subst hke
      have HREN : Hid (REn W0 W (.slice A1 s.size c1) (bysI s.data.toList)) := Lib.hid (by
        have e1 : (bysI s.data.toList).length = s.size := by unfold bysI; rw [List.length_map]; exact HDL.out
        refine ⟨⟨A1, c1, by rw [e1], ?_⟩, HBL.out⟩
        have := HROW.out
        rw [List.take_of_length_le (by rw [e1]; exact Nat.le_refl _)] at this
        rw [e1]
        exact this)
      have HZ : Hid (s.size ≤ 100000000) := Lib.hid hs
      clear HROW HBL hk HK HS
      go_wp2_with fail
      go_loopg [7, 9] M.length (fun n u i W => ∃ k L A c, k + n = M.length ∧ i = .int .i64 ((k : Nat) : Int) ∧ u = .slice A (L : List Int).length c ∧ REn W0 W (.slice A L.length c) L ∧ seqE (MB.drop k) (256 + (k : Int)) L = E0 ∧ L.length ≤ s.size)
      case atStart =>
        obtain ⟨⟨A', c', e, hr⟩, hb⟩ := HREN.out
        injection e with e1 e2 e3
        subst e1; subst e3
        refine ⟨0, bysI s.data.toList, A1, c1, by omega, rfl, by rw [e2], ⟨⟨A1, c1, rfl, hr⟩, hb⟩, HE0.out.symm, by rw [e2]; exact Nat.le_refl _⟩
      case round =>
        obtain ⟨k, L, A1, c1, hk, rfl, rfl, hren, hseq, hll⟩ := hrel
        clear HREN
        rename World => W
        have HREN := Lib.hid hren
        have HK := Lib.hid hk
        have HSQ := Lib.hid hseq
        have HLL := Lib.hid (Nat.le_trans hll HZ.out)
        have HLS := Lib.hid hll
        have m1 := below_cell hren.bl (Nat.le_refl _) HN0.out
        clear hren hseq hll
        have w1 : IntKind.i64.wrap (256 + (k : Int)) = 256 + (k : Int) := IntWalk.i64_in _ (by omega)
        by_cases h1 : k < M.length
        · have q1 : (k : Int) < (M.length : Int) := by omega
          by_cases h2 : 256 + (k : Int) < bel
          · obtain ⟨⟨a, b⟩, hab⟩ : ∃ m, M[k] = m := ⟨_, rfl⟩
            have HNX := Lib.hid (HSEQ.out k L a b h1 h2 hab)
            have hab2 := List.getElem?_eq_getElem h1
            rw [hab] at hab2
            obtain ⟨ba, o, hA2, hcc⟩ := HSL.out k (a, b) hab2
            subst hA2
            have HMA : Hid (W.cell? ⟨ba, o + k * 2, none⟩ = some (.int .i64 a)) := Lib.hid (below_cell HREN.out.bl (Nat.le_refl _) (hcc 0 _ rfl))
            have HMB : Hid (W.cell? ⟨ba, o + k * 2 + 1, none⟩ = some (.int .i64 b)) := Lib.hid (below_cell HREN.out.bl (Nat.le_refl _) (hcc 1 _ rfl))
            clear hcc hab hab2 hk
            go_wp2_with fail
            have HM1 := Lib.hid m1
            clear m1
            go_loopg [10, 11] L.length (fun n u j W2 => ∃ i O A3 c3, i + n = L.length ∧ j = .int .i64 ((i : Nat) : Int) ∧ u = .slice A3 (O : List Int).length c3 ∧ W2.ownsRow W.heap.size 3 1 (.slice A3 O.length c3) O.length (O.map (Value.int .i64)) ∧ Below W.heap.size W W2 ∧ O ++ rep a b (256 + (k : Int)) (L.drop i) = rep a b (256 + (k : Int)) L ∧ O.length ≤ i)
            case atStart => exact ⟨0, [], none, 0, by omega, rfl, rfl, own_nil _ _ _ _, Below.refl _ _, rfl, Nat.le_refl _⟩
            case round =>
              obtain ⟨i, O, A3, c3, hi, rfl, rfl, hO, hbO, hrep, hol⟩ := hrel
              rename World => W2
              have HO := Lib.hid hO
              have HBO := Lib.hid hbO
              have HREP0 := Lib.hid hrep
              have HI := Lib.hid hi
              have hll := HLL.out
              clear hO hbO hrep
              have w2 : IntKind.i64.wrap ((i : Int) + 1) = (i : Int) + 1 := IntWalk.i64_in _ (by omega)
              have w3 : IntKind.i64.wrap ((i : Int) + 1 + 1) = (i : Int) + 1 + 1 := IntWalk.i64_in _ (by omega)
              by_cases hlt : i < L.length
              · have p0 : (0 : Int) ≤ (i : Int) := by omega
                have p1 : (i : Int) < (L.length : Int) := by omega
                have q0 : (0 : Int) ≤ (k : Int) := by omega
                obtain ⟨⟨A', c', e, hr⟩, _⟩ := HREN.out
                injection e with e1 e2 e3
                subst e1; subst e3
                have hsl := (own_sl1 hr).below HBO.out (Nat.le_refl _)
                have HSLL := Lib.hid hsl
                obtain ⟨b1, o1, hA1, l0⟩ := hsl.at i hlt
                subst hA1
                have m0 := below_cell HBO.out (Nat.le_refl _) HMA.out
                have m1 := below_cell HBO.out (Nat.le_refl _) HM1.out
                have mb := below_cell HBO.out (Nat.le_refl _) HMB.out
                clear hr hsl hi
                by_cases hn : i + 1 < L.length
                · have p2 : (i : Int) + 1 < (L.length : Int) := by omega
                  have p3 : (0 : Int) ≤ (i : Int) + 1 := by omega
                  have p4 : ((i : Int) + 1).toNat = i + 1 := by omega
                  obtain ⟨b1', o1', e, l1⟩ := HSLL.out.at (i + 1) hn
                  injection e with e
                  injection e with e1 e2
                  subst e1; subst e2
                  have HX : Hid (∀ x y, L[i] = x → L[i + 1] = y → (x = a → y = b → O ++ [256 + (k : Int)] ++ rep a b (256 + (k : Int)) (L.drop (i + 2)) = rep a b (256 + (k : Int)) L) ∧ (¬ (x = a ∧ y = b) → O ++ [x] ++ rep a b (256 + (k : Int)) (L.drop (i + 1)) = rep a b (256 + (k : Int)) L)) := Lib.hid (fun x y hx hy => ⟨fun e1 e2 => by rw [← HREP0.out, rep_two hn (hx.trans e1) (hy.trans e2)]; simp, fun e1 => by rw [← HREP0.out, rep_one hlt (fun ⟨_, e2, e3⟩ => e1 ⟨hx.symm.trans e2, hy.symm.trans e3⟩), hx]; simp⟩)
                  replace HX := Lib.hid (HX.out L[i] L[i + 1] rfl rfl)
                  generalize L[i] = x at *
                  generalize L[i + 1] = y at *
                  by_cases hx : x = a
                  · subst hx
                    by_cases hy : y = b
                    · subst hy
                      have HREP := Lib.hid (HX.out.1 rfl rfl)
                      go_upto_region 13 with fail
                      refine wp_region_held_drew (S := fun V => V.cell? ⟨w.heap.size, 1, none⟩ = some (.slice (some ⟨ba, o, none⟩) M.length c2) ∧ V.cell? ⟨ba, o + k * 2, none⟩ = some (.int .i64 x) ∧ V.cell? ⟨ba, o + k * 2 + 1, none⟩ = some (.int .i64 y) ∧ V.cell? ⟨b1, o1 + i, none⟩ = some (.int .i64 x) ∧ V.cell? ⟨b1, o1 + (i + 1), none⟩ = some (.int .i64 y)) (by kernel_rfl) (by exact ⟨m1, m0, mb, l0, l1⟩) (fun hHeld => ?_)
                      refine wpAnyH_takeD (i := 0) (oi := { dst := some 44, op := Op.move (Operand.tmp 11), type := 3, pos := "ref.go:15", after := #[], guard := none }) (d := 44) (v := ?_) rfl rfl (by kernel_rfl) (by kernel_rfl) (by kernel_rfl) (fun _ _ _ h => h) (Or.inl ⟨by rfl, ?_⟩) hHeld ?_
                      rotate_left
                      · (intro w' hSw; (try dsimp only at hSw); go_simp; (try with_reducible rfl))
                      simp only [List.setIfInBounds_toArray, List.set_cons_zero, List.set_cons_succ]
                      refine wpAnyH_takeD (i := 1) (oi := { dst := some 45, op := Op.binOp BinOp.add 3 (Operand.tmp 44) (Operand.const (Value.int IntKind.i64 1)) 3, type := 3, pos := "ref.go:15", after := #[{ on := 0, ground := Ground.data }], guard := none }) (d := 45) (v := ?_) rfl rfl (by kernel_rfl) (by kernel_rfl) (by kernel_rfl) (fun _ _ _ h => h) (Or.inl ⟨by rfl, ?_⟩) hHeld ?_
                      rotate_left
                      · (intro w' hSw; (try dsimp only at hSw); go_simp; (try with_reducible rfl))
                      simp only [List.setIfInBounds_toArray, List.set_cons_zero, List.set_cons_succ]
                      refine wpAnyH_takeD (i := 2) (oi := { dst := some 46, op := Op.move (Operand.tmp 7), type := 57, pos := "ref.go:15", after := #[], guard := none }) (d := 46) (v := ?_) rfl rfl (by kernel_rfl) (by kernel_rfl) (by kernel_rfl) (fun _ _ _ h => h) (Or.inl ⟨by rfl, ?_⟩) hHeld ?_
                      rotate_left
                      · (intro w' hSw; (try dsimp only at hSw); go_simp; (try with_reducible rfl))
                      simp only [List.setIfInBounds_toArray, List.set_cons_zero, List.set_cons_succ]
                      refine wpAnyH_takeD (i := 3) (oi := { dst := some 47, op := Op.call { callee := Callee.builtin Builtin.len, args := #[Operand.tmp 46], argTypes := #[57] }, type := 3, pos := "ref.go:15", after := #[{ on := 2, ground := Ground.data }], guard := none }) (d := 47) (v := ?_) rfl rfl (by kernel_rfl) (by kernel_rfl) (by kernel_rfl) (fun _ _ _ h => h) (Or.inl ⟨by rfl, ?_⟩) hHeld ?_
                      rotate_left
                      · (intro w' hSw; (try dsimp only at hSw); go_simp; (try with_reducible rfl))
                      simp only [List.setIfInBounds_toArray, List.set_cons_zero, List.set_cons_succ]
                      refine wpAnyH_takeD (i := 4) (oi := { dst := some 48, op := Op.binOp BinOp.lss 3 (Operand.tmp 45) (Operand.tmp 47) 3, type := 4, pos := "ref.go:15", after := #[{ on := 1, ground := Ground.data }, { on := 3, ground := Ground.data }], guard := none }) (d := 48) (v := ?_) rfl rfl (by kernel_rfl) (by kernel_rfl) (by kernel_rfl) (fun _ _ _ h => h) (Or.inl ⟨by rfl, ?_⟩) hHeld ?_
                      rotate_left
                      · (intro w' hSw; (try dsimp only at hSw); go_simp; (try with_reducible rfl))
                      simp only [List.setIfInBounds_toArray, List.set_cons_zero, List.set_cons_succ]
                      refine wpAnyH_takeD (i := 5) (oi := { dst := some 49, op := Op.move (Operand.tmp 48), type := 4, pos := "ref.go:15", after := #[{ on := 4, ground := Ground.data }], guard := none }) (d := 49) (v := ?_) rfl rfl (by kernel_rfl) (by kernel_rfl) (by kernel_rfl) (fun _ _ _ h => h) (Or.inl ⟨by rfl, ?_⟩) hHeld ?_
                      rotate_left
                      · (intro w' hSw; (try dsimp only at hSw); go_simp; (try with_reducible rfl))
                      simp only [List.setIfInBounds_toArray, List.set_cons_zero, List.set_cons_succ]
                      refine wpAnyH_takeD (i := 6) (oi := { dst := some 50, op := Op.move (Operand.tmp 7), type := 57, pos := "ref.go:15", after := #[{ on := 5, ground := Ground.guard }], guard := some (5, true) }) (d := 50) (v := ?_) rfl rfl (by kernel_rfl) (by kernel_rfl) (by kernel_rfl) (fun _ _ _ h => h) (Or.inl ⟨by rfl, ?_⟩) hHeld ?_
                      rotate_left
                      · (intro w' hSw; (try dsimp only at hSw); go_simp; (try with_reducible rfl))
                      simp only [List.setIfInBounds_toArray, List.set_cons_zero, List.set_cons_succ]
                      refine wpAnyH_takeD (i := 7) (oi := { dst := some 51, op := Op.move (Operand.tmp 11), type := 3, pos := "ref.go:15", after := #[{ on := 5, ground := Ground.guard }], guard := some (5, true) }) (d := 51) (v := ?_) rfl rfl (by kernel_rfl) (by kernel_rfl) (by kernel_rfl) (fun _ _ _ h => h) (Or.inl ⟨by rfl, ?_⟩) hHeld ?_
                      rotate_left
                      · (intro w' hSw; (try dsimp only at hSw); go_simp; (try with_reducible rfl))
                      simp only [List.setIfInBounds_toArray, List.set_cons_zero, List.set_cons_succ]
                      refine wpAnyH_takeD (i := 8) (oi := { dst := some 52, op := Op.indexAddr 57 (Operand.tmp 50) (Operand.tmp 51), type := 0, pos := "ref.go:15", after := #[{ on := 6, ground := Ground.data }, { on := 7, ground := Ground.data }, { on := 5, ground := Ground.guard }], guard := some (5, true) }) (d := 52) (v := ?_) rfl rfl (by kernel_rfl) (by kernel_rfl) (by kernel_rfl) (fun _ _ _ h => h) (Or.inl ⟨by rfl, ?_⟩) hHeld ?_
                      rotate_left
                      · (intro w' hSw; (try dsimp only at hSw); go_simp; (try with_reducible rfl))
                      simp only [List.setIfInBounds_toArray, List.set_cons_zero, List.set_cons_succ]
                      refine wpAnyH_takeD (i := 9) (oi := { dst := some 53, op := Op.load 3 (Operand.tmp 52), type := 3, pos := "ref.go:15", after := #[{ on := 8, ground := Ground.data }, { on := 5, ground := Ground.guard }], guard := some (5, true) }) (d := 53) (v := ?_) rfl rfl (by kernel_rfl) (by kernel_rfl) (by kernel_rfl) (fun _ _ _ h => h) (Or.inl ⟨by rfl, ?_⟩) hHeld ?_
                      rotate_left
                      · (intro w' hSw; (try dsimp only at hSw); go_simp; (try with_reducible rfl))
                      simp only [List.setIfInBounds_toArray, List.set_cons_zero, List.set_cons_succ]
                      refine wpAnyH_takeD (i := 10) (oi := { dst := some 54, op := Op.fieldAddr 34 (Operand.tmp 3) 1, type := 0, pos := "ref.go:15", after := #[{ on := 5, ground := Ground.guard }], guard := some (5, true) }) (d := 54) (v := ?_) rfl rfl (by kernel_rfl) (by kernel_rfl) (by kernel_rfl) (fun _ _ _ h => h) (Or.inl ⟨by rfl, ?_⟩) hHeld ?_
                      rotate_left
                      · (intro w' hSw; (try dsimp only at hSw); go_simp; (try with_reducible rfl))
                      simp only [List.setIfInBounds_toArray, List.set_cons_zero, List.set_cons_succ]
                      refine wpAnyH_takeD (i := 11) (oi := { dst := some 55, op := Op.load 32 (Operand.tmp 54), type := 32, pos := "ref.go:15", after := #[{ on := 10, ground := Ground.data }, { on := 5, ground := Ground.guard }], guard := some (5, true) }) (d := 55) (v := ?_) rfl rfl (by kernel_rfl) (by kernel_rfl) (by kernel_rfl) (fun _ _ _ h => h) (Or.inl ⟨by rfl, ?_⟩) hHeld ?_
                      rotate_left
                      · (intro w' hSw; (try dsimp only at hSw); go_simp; (try with_reducible rfl))
                      simp only [List.setIfInBounds_toArray, List.set_cons_zero, List.set_cons_succ]
                      refine wpAnyH_takeD (i := 12) (oi := { dst := some 56, op := Op.move (Operand.tmp 9), type := 3, pos := "ref.go:15", after := #[{ on := 5, ground := Ground.guard }], guard := some (5, true) }) (d := 56) (v := ?_) rfl rfl (by kernel_rfl) (by kernel_rfl) (by kernel_rfl) (fun _ _ _ h => h) (Or.inl ⟨by rfl, ?_⟩) hHeld ?_
                      rotate_left
                      · (intro w' hSw; (try dsimp only at hSw); go_simp; (try with_reducible rfl))
                      simp only [List.setIfInBounds_toArray, List.set_cons_zero, List.set_cons_succ]
                      refine wpAnyH_takeD (i := 13) (oi := { dst := some 57, op := Op.indexAddr 32 (Operand.tmp 55) (Operand.tmp 56), type := 0, pos := "ref.go:15", after := #[{ on := 11, ground := Ground.data }, { on := 12, ground := Ground.data }, { on := 5, ground := Ground.guard }], guard := some (5, true) }) (d := 57) (v := ?_) rfl rfl (by kernel_rfl) (by kernel_rfl) (by kernel_rfl) (fun _ _ _ h => h) (Or.inl ⟨by rfl, ?_⟩) hHeld ?_
                      rotate_left
                      · (intro w' hSw; (try dsimp only at hSw); go_simp; (try with_reducible rfl))
                      simp only [List.setIfInBounds_toArray, List.set_cons_zero, List.set_cons_succ]
                      refine wpAnyH_takeD (i := 14) (oi := { dst := some 58, op := Op.fieldAddr 55 (Operand.tmp 57) 0, type := 0, pos := "ref.go:15", after := #[{ on := 13, ground := Ground.data }, { on := 5, ground := Ground.guard }], guard := some (5, true) }) (d := 58) (v := ?_) rfl rfl (by kernel_rfl) (by kernel_rfl) (by kernel_rfl) (fun _ _ _ h => h) (Or.inl ⟨by rfl, ?_⟩) hHeld ?_
                      rotate_left
                      · (intro w' hSw; (try dsimp only at hSw); go_simp; (try with_reducible rfl))
                      simp only [List.setIfInBounds_toArray, List.set_cons_zero, List.set_cons_succ]
                      refine wpAnyH_takeD (i := 15) (oi := { dst := some 59, op := Op.load 3 (Operand.tmp 58), type := 3, pos := "ref.go:15", after := #[{ on := 14, ground := Ground.data }, { on := 5, ground := Ground.guard }], guard := some (5, true) }) (d := 59) (v := ?_) rfl rfl (by kernel_rfl) (by kernel_rfl) (by kernel_rfl) (fun _ _ _ h => h) (Or.inl ⟨by rfl, ?_⟩) hHeld ?_
                      rotate_left
                      · (intro w' hSw; (try dsimp only at hSw); go_simp; (try with_reducible rfl))
                      simp only [List.setIfInBounds_toArray, List.set_cons_zero, List.set_cons_succ]
                      refine wpAnyH_takeD (i := 16) (oi := { dst := some 60, op := Op.binOp BinOp.eql 3 (Operand.tmp 53) (Operand.tmp 59) 3, type := 4, pos := "ref.go:15", after := #[{ on := 9, ground := Ground.data }, { on := 15, ground := Ground.data }, { on := 5, ground := Ground.guard }], guard := some (5, true) }) (d := 60) (v := ?_) rfl rfl (by kernel_rfl) (by kernel_rfl) (by kernel_rfl) (fun _ _ _ h => h) (Or.inl ⟨by rfl, ?_⟩) hHeld ?_
                      rotate_left
                      · (intro w' hSw; (try dsimp only at hSw); go_simp; (try with_reducible rfl))
                      simp only [List.setIfInBounds_toArray, List.set_cons_zero, List.set_cons_succ]
                      refine wpAnyH_takeD (i := 17) (oi := { dst := some 61, op := Op.pick (Operand.tmp 49) (Operand.tmp 60) (Operand.const (Value.bool false)), type := 4, pos := "ref.go:15", after := #[{ on := 5, ground := Ground.data }, { on := 16, ground := Ground.data }], guard := none }) (d := 61) (v := ?_) rfl rfl (by kernel_rfl) (by kernel_rfl) (by kernel_rfl) (fun _ _ _ h => h) (Or.inl ⟨by rfl, ?_⟩) hHeld ?_
                      rotate_left
                      · (intro w' hSw; (try dsimp only at hSw); go_simp; (try with_reducible rfl))
                      simp only [List.setIfInBounds_toArray, List.set_cons_zero, List.set_cons_succ]
                      refine wpAnyH_takeD (i := 18) (oi := { dst := some 62, op := Op.move (Operand.tmp 61), type := 4, pos := "ref.go:15", after := #[{ on := 17, ground := Ground.data }, { on := 5, ground := Ground.chain }], guard := none }) (d := 62) (v := ?_) rfl rfl (by kernel_rfl) (by kernel_rfl) (by kernel_rfl) (fun _ _ _ h => h) (Or.inl ⟨by rfl, ?_⟩) hHeld ?_
                      rotate_left
                      · (intro w' hSw; (try dsimp only at hSw); go_simp; (try with_reducible rfl))
                      simp only [List.setIfInBounds_toArray, List.set_cons_zero, List.set_cons_succ]
                      refine wpAnyH_takeD (i := 19) (oi := { dst := some 63, op := Op.move (Operand.tmp 7), type := 57, pos := "ref.go:15", after := #[{ on := 18, ground := Ground.guard }], guard := some (18, true) }) (d := 63) (v := ?_) rfl rfl (by kernel_rfl) (by kernel_rfl) (by kernel_rfl) (fun _ _ _ h => h) (Or.inl ⟨by rfl, ?_⟩) hHeld ?_
                      rotate_left
                      · (intro w' hSw; (try dsimp only at hSw); go_simp; (try with_reducible rfl))
                      simp only [List.setIfInBounds_toArray, List.set_cons_zero, List.set_cons_succ]
                      refine wpAnyH_takeD (i := 20) (oi := { dst := some 64, op := Op.move (Operand.tmp 11), type := 3, pos := "ref.go:15", after := #[{ on := 18, ground := Ground.guard }], guard := some (18, true) }) (d := 64) (v := ?_) rfl rfl (by kernel_rfl) (by kernel_rfl) (by kernel_rfl) (fun _ _ _ h => h) (Or.inl ⟨by rfl, ?_⟩) hHeld ?_
                      rotate_left
                      · (intro w' hSw; (try dsimp only at hSw); go_simp; (try with_reducible rfl))
                      simp only [List.setIfInBounds_toArray, List.set_cons_zero, List.set_cons_succ]
                      refine wpAnyH_takeD (i := 21) (oi := { dst := some 65, op := Op.binOp BinOp.add 3 (Operand.tmp 64) (Operand.const (Value.int IntKind.i64 1)) 3, type := 3, pos := "ref.go:15", after := #[{ on := 20, ground := Ground.data }, { on := 18, ground := Ground.guard }], guard := some (18, true) }) (d := 65) (v := ?_) rfl rfl (by kernel_rfl) (by kernel_rfl) (by kernel_rfl) (fun _ _ _ h => h) (Or.inl ⟨by rfl, ?_⟩) hHeld ?_
                      rotate_left
                      · (intro w' hSw; (try dsimp only at hSw); go_simp; (try with_reducible rfl))
                      simp only [List.setIfInBounds_toArray, List.set_cons_zero, List.set_cons_succ]
                      refine wpAnyH_takeD (i := 22) (oi := { dst := some 66, op := Op.indexAddr 57 (Operand.tmp 63) (Operand.tmp 65), type := 0, pos := "ref.go:15", after := #[{ on := 19, ground := Ground.data }, { on := 21, ground := Ground.data }, { on := 18, ground := Ground.guard }], guard := some (18, true) }) (d := 66) (v := ?_) rfl rfl (by kernel_rfl) (by kernel_rfl) (by kernel_rfl) (fun _ _ _ h => h) (Or.inl ⟨by rfl, ?_⟩) hHeld ?_
                      rotate_left
                      · (intro w' hSw; (try dsimp only at hSw); go_simp; (try with_reducible rfl))
                      simp only [List.setIfInBounds_toArray, List.set_cons_zero, List.set_cons_succ]
                      refine wpAnyH_takeD (i := 23) (oi := { dst := some 67, op := Op.load 3 (Operand.tmp 66), type := 3, pos := "ref.go:15", after := #[{ on := 22, ground := Ground.data }, { on := 18, ground := Ground.guard }], guard := some (18, true) }) (d := 67) (v := ?_) rfl rfl (by kernel_rfl) (by kernel_rfl) (by kernel_rfl) (fun _ _ _ h => h) (Or.inl ⟨by rfl, ?_⟩) hHeld ?_
                      rotate_left
                      · (intro w' hSw; (try dsimp only at hSw); go_simp; (try with_reducible rfl))
                      simp only [List.setIfInBounds_toArray, List.set_cons_zero, List.set_cons_succ]
                      refine wpAnyH_takeD (i := 24) (oi := { dst := some 68, op := Op.fieldAddr 34 (Operand.tmp 3) 1, type := 0, pos := "ref.go:15", after := #[{ on := 18, ground := Ground.guard }], guard := some (18, true) }) (d := 68) (v := ?_) rfl rfl (by kernel_rfl) (by kernel_rfl) (by kernel_rfl) (fun _ _ _ h => h) (Or.inl ⟨by rfl, ?_⟩) hHeld ?_
                      rotate_left
                      · (intro w' hSw; (try dsimp only at hSw); go_simp; (try with_reducible rfl))
                      simp only [List.setIfInBounds_toArray, List.set_cons_zero, List.set_cons_succ]
                      refine wpAnyH_takeD (i := 25) (oi := { dst := some 69, op := Op.load 32 (Operand.tmp 68), type := 32, pos := "ref.go:15", after := #[{ on := 24, ground := Ground.data }, { on := 18, ground := Ground.guard }], guard := some (18, true) }) (d := 69) (v := ?_) rfl rfl (by kernel_rfl) (by kernel_rfl) (by kernel_rfl) (fun _ _ _ h => h) (Or.inl ⟨by rfl, ?_⟩) hHeld ?_
                      rotate_left
                      · (intro w' hSw; (try dsimp only at hSw); go_simp; (try with_reducible rfl))
                      simp only [List.setIfInBounds_toArray, List.set_cons_zero, List.set_cons_succ]
                      refine wpAnyH_takeD (i := 26) (oi := { dst := some 70, op := Op.move (Operand.tmp 9), type := 3, pos := "ref.go:15", after := #[{ on := 18, ground := Ground.guard }], guard := some (18, true) }) (d := 70) (v := ?_) rfl rfl (by kernel_rfl) (by kernel_rfl) (by kernel_rfl) (fun _ _ _ h => h) (Or.inl ⟨by rfl, ?_⟩) hHeld ?_
                      rotate_left
                      · (intro w' hSw; (try dsimp only at hSw); go_simp; (try with_reducible rfl))
                      simp only [List.setIfInBounds_toArray, List.set_cons_zero, List.set_cons_succ]
                      refine wpAnyH_takeD (i := 27) (oi := { dst := some 71, op := Op.indexAddr 32 (Operand.tmp 69) (Operand.tmp 70), type := 0, pos := "ref.go:15", after := #[{ on := 25, ground := Ground.data }, { on := 26, ground := Ground.data }, { on := 18, ground := Ground.guard }], guard := some (18, true) }) (d := 71) (v := ?_) rfl rfl (by kernel_rfl) (by kernel_rfl) (by kernel_rfl) (fun _ _ _ h => h) (Or.inl ⟨by rfl, ?_⟩) hHeld ?_
                      rotate_left
                      · (intro w' hSw; (try dsimp only at hSw); go_simp; (try with_reducible rfl))
                      simp only [List.setIfInBounds_toArray, List.set_cons_zero, List.set_cons_succ]
                      refine wpAnyH_takeD (i := 28) (oi := { dst := some 72, op := Op.fieldAddr 55 (Operand.tmp 71) 1, type := 0, pos := "ref.go:15", after := #[{ on := 27, ground := Ground.data }, { on := 18, ground := Ground.guard }], guard := some (18, true) }) (d := 72) (v := ?_) rfl rfl (by kernel_rfl) (by kernel_rfl) (by kernel_rfl) (fun _ _ _ h => h) (Or.inl ⟨by rfl, ?_⟩) hHeld ?_
                      rotate_left
                      · (intro w' hSw; (try dsimp only at hSw); go_simp; (try with_reducible rfl))
                      simp only [List.setIfInBounds_toArray, List.set_cons_zero, List.set_cons_succ]
                      refine wpAnyH_takeD (i := 29) (oi := { dst := some 73, op := Op.load 3 (Operand.tmp 72), type := 3, pos := "ref.go:15", after := #[{ on := 28, ground := Ground.data }, { on := 18, ground := Ground.guard }], guard := some (18, true) }) (d := 73) (v := ?_) rfl rfl (by kernel_rfl) (by kernel_rfl) (by kernel_rfl) (fun _ _ _ h => h) (Or.inl ⟨by rfl, ?_⟩) hHeld ?_
                      rotate_left
                      · (intro w' hSw; (try dsimp only at hSw); go_simp; (try with_reducible rfl))
                      simp only [List.setIfInBounds_toArray, List.set_cons_zero, List.set_cons_succ]
                      refine wpAnyH_takeD (i := 30) (oi := { dst := some 74, op := Op.binOp BinOp.eql 3 (Operand.tmp 67) (Operand.tmp 73) 3, type := 4, pos := "ref.go:15", after := #[{ on := 23, ground := Ground.data }, { on := 29, ground := Ground.data }, { on := 18, ground := Ground.guard }], guard := some (18, true) }) (d := 74) (v := ?_) rfl rfl (by kernel_rfl) (by kernel_rfl) (by kernel_rfl) (fun _ _ _ h => h) (Or.inl ⟨by rfl, ?_⟩) hHeld ?_
                      rotate_left
                      · (intro w' hSw; (try dsimp only at hSw); go_simp; (try with_reducible rfl))
                      simp only [List.setIfInBounds_toArray, List.set_cons_zero, List.set_cons_succ]
                      refine wpAnyH_takeD (i := 31) (oi := { dst := some 75, op := Op.pick (Operand.tmp 62) (Operand.tmp 74) (Operand.const (Value.bool false)), type := 4, pos := "ref.go:15", after := #[{ on := 18, ground := Ground.data }, { on := 30, ground := Ground.data }], guard := none }) (d := 75) (v := ?_) rfl rfl (by kernel_rfl) (by kernel_rfl) (by kernel_rfl) (fun _ _ _ h => h) (Or.inl ⟨by rfl, ?_⟩) hHeld ?_
                      rotate_left
                      · (intro w' hSw; (try dsimp only at hSw); go_simp; (try with_reducible rfl))
                      simp only [List.setIfInBounds_toArray, List.set_cons_zero, List.set_cons_succ]
                      refine wpAnyH_done (by kernel_rfl) ?_ _
                      clear hHeld m0 m1 mb l1
                      replace l0 : W2.drew.cell? ⟨b1, o1 + i, none⟩ = some (.int .i64 x) := l0
                      replace HO : Hid (W2.drew.ownsRow W.heap.size 3 1 (.slice A3 O.length c3) O.length (O.map (Value.int .i64))) := Lib.hid (own_drew HO.out)
                      replace HBO := Lib.hid HBO.out.drew
                      generalize W2.drew = W2 at *
                      go_wp2_with (at_builtin; refine app_one W.heap.size 57 3 (.int .i64 0) 1 8 [_] 1 _ _ rfl rfl Tryz.underlying57 info_int5 rfl (by decide) _ _ _ rfl rfl rfl (by intro u hu; simp at hu; subst hu; rfl) HO.out (by omega) (by omega) HBO.out.size ?_)
                      intro v' w6 hown hg6
                      obtain ⟨A4, c4, rfl⟩ := own_slice hown
                      have hk6 : Below W.heap.size W2 w6 := Keep.below (Keep.of_grown (F := fun g => (Value.slice A3 O.length c3).ownBlock = some g) hg6 (fun g hg => hg)) HBO.out.size (fun x hx => own_base HO.out x hx)
                      have HO6 : Hid (w6.ownsRow W.heap.size 3 1 (.slice A4 (O ++ [256 + (k : Int)]).length c4) (O ++ [256 + (k : Int)]).length ((O ++ [256 + (k : Int)]).map (Value.int .i64))) := Lib.hid (by rw [List.length_append, List.map_append]; exact hown)
                      have HB6 := Lib.hid (HBO.out.trans hk6)
                      have HL6 : Hid ((O ++ [256 + (k : Int)]).length = O.length + 1) := Lib.hid (by simp)
                      clear hown hg6 hk6
                      go_wp2_with fail
                      go_roundg (gk - 2)
                      case measure => have := HI.out; omega
                      case rel => exact ⟨i + 2, O ++ [256 + (k : Int)], A4, c4, by have := HI.out; omega, by rw [show ((i + 2 : Nat) : Int) = (i : Int) + 1 + 1 by omega], by rw [HL6.out], HO6.out, HB6.out, HREP.out, by rw [HL6.out]; omega⟩
                    · have hyb : (y == b) = false := by simpa using hy
                      have HREP := Lib.hid (HX.out.2 (fun e => hy e.2))
                      clear hy
                      go_upto_region 13 with fail
                      refine wp_region_held_drew (S := fun V => V.cell? ⟨w.heap.size, 1, none⟩ = some (.slice (some ⟨ba, o, none⟩) M.length c2) ∧ V.cell? ⟨ba, o + k * 2, none⟩ = some (.int .i64 x) ∧ V.cell? ⟨ba, o + k * 2 + 1, none⟩ = some (.int .i64 b) ∧ V.cell? ⟨b1, o1 + i, none⟩ = some (.int .i64 x) ∧ V.cell? ⟨b1, o1 + (i + 1), none⟩ = some (.int .i64 y)) (by kernel_rfl) (by exact ⟨m1, m0, mb, l0, l1⟩) (fun hHeld => ?_)
                      refine wpAnyH_takeD (i := 0) (oi := { dst := some 44, op := Op.move (Operand.tmp 11), type := 3, pos := "ref.go:15", after := #[], guard := none }) (d := 44) (v := ?_) rfl rfl (by kernel_rfl) (by kernel_rfl) (by kernel_rfl) (fun _ _ _ h => h) (Or.inl ⟨by rfl, ?_⟩) hHeld ?_
                      rotate_left
                      · (intro w' hSw; (try dsimp only at hSw); go_simp; (try with_reducible rfl))
                      simp only [List.setIfInBounds_toArray, List.set_cons_zero, List.set_cons_succ]
                      refine wpAnyH_takeD (i := 1) (oi := { dst := some 45, op := Op.binOp BinOp.add 3 (Operand.tmp 44) (Operand.const (Value.int IntKind.i64 1)) 3, type := 3, pos := "ref.go:15", after := #[{ on := 0, ground := Ground.data }], guard := none }) (d := 45) (v := ?_) rfl rfl (by kernel_rfl) (by kernel_rfl) (by kernel_rfl) (fun _ _ _ h => h) (Or.inl ⟨by rfl, ?_⟩) hHeld ?_
                      rotate_left
                      · (intro w' hSw; (try dsimp only at hSw); go_simp; (try with_reducible rfl))
                      simp only [List.setIfInBounds_toArray, List.set_cons_zero, List.set_cons_succ]
                      refine wpAnyH_takeD (i := 2) (oi := { dst := some 46, op := Op.move (Operand.tmp 7), type := 57, pos := "ref.go:15", after := #[], guard := none }) (d := 46) (v := ?_) rfl rfl (by kernel_rfl) (by kernel_rfl) (by kernel_rfl) (fun _ _ _ h => h) (Or.inl ⟨by rfl, ?_⟩) hHeld ?_
                      rotate_left
                      · (intro w' hSw; (try dsimp only at hSw); go_simp; (try with_reducible rfl))
                      simp only [List.setIfInBounds_toArray, List.set_cons_zero, List.set_cons_succ]
                      refine wpAnyH_takeD (i := 3) (oi := { dst := some 47, op := Op.call { callee := Callee.builtin Builtin.len, args := #[Operand.tmp 46], argTypes := #[57] }, type := 3, pos := "ref.go:15", after := #[{ on := 2, ground := Ground.data }], guard := none }) (d := 47) (v := ?_) rfl rfl (by kernel_rfl) (by kernel_rfl) (by kernel_rfl) (fun _ _ _ h => h) (Or.inl ⟨by rfl, ?_⟩) hHeld ?_
                      rotate_left
                      · (intro w' hSw; (try dsimp only at hSw); go_simp; (try with_reducible rfl))
                      simp only [List.setIfInBounds_toArray, List.set_cons_zero, List.set_cons_succ]
                      refine wpAnyH_takeD (i := 4) (oi := { dst := some 48, op := Op.binOp BinOp.lss 3 (Operand.tmp 45) (Operand.tmp 47) 3, type := 4, pos := "ref.go:15", after := #[{ on := 1, ground := Ground.data }, { on := 3, ground := Ground.data }], guard := none }) (d := 48) (v := ?_) rfl rfl (by kernel_rfl) (by kernel_rfl) (by kernel_rfl) (fun _ _ _ h => h) (Or.inl ⟨by rfl, ?_⟩) hHeld ?_
                      rotate_left
                      · (intro w' hSw; (try dsimp only at hSw); go_simp; (try with_reducible rfl))
                      simp only [List.setIfInBounds_toArray, List.set_cons_zero, List.set_cons_succ]
                      refine wpAnyH_takeD (i := 5) (oi := { dst := some 49, op := Op.move (Operand.tmp 48), type := 4, pos := "ref.go:15", after := #[{ on := 4, ground := Ground.data }], guard := none }) (d := 49) (v := ?_) rfl rfl (by kernel_rfl) (by kernel_rfl) (by kernel_rfl) (fun _ _ _ h => h) (Or.inl ⟨by rfl, ?_⟩) hHeld ?_
                      rotate_left
                      · (intro w' hSw; (try dsimp only at hSw); go_simp; (try with_reducible rfl))
                      simp only [List.setIfInBounds_toArray, List.set_cons_zero, List.set_cons_succ]
                      refine wpAnyH_takeD (i := 6) (oi := { dst := some 50, op := Op.move (Operand.tmp 7), type := 57, pos := "ref.go:15", after := #[{ on := 5, ground := Ground.guard }], guard := some (5, true) }) (d := 50) (v := ?_) rfl rfl (by kernel_rfl) (by kernel_rfl) (by kernel_rfl) (fun _ _ _ h => h) (Or.inl ⟨by rfl, ?_⟩) hHeld ?_
                      rotate_left
                      · (intro w' hSw; (try dsimp only at hSw); go_simp; (try with_reducible rfl))
                      simp only [List.setIfInBounds_toArray, List.set_cons_zero, List.set_cons_succ]
                      refine wpAnyH_takeD (i := 7) (oi := { dst := some 51, op := Op.move (Operand.tmp 11), type := 3, pos := "ref.go:15", after := #[{ on := 5, ground := Ground.guard }], guard := some (5, true) }) (d := 51) (v := ?_) rfl rfl (by kernel_rfl) (by kernel_rfl) (by kernel_rfl) (fun _ _ _ h => h) (Or.inl ⟨by rfl, ?_⟩) hHeld ?_
                      rotate_left
                      · (intro w' hSw; (try dsimp only at hSw); go_simp; (try with_reducible rfl))
                      simp only [List.setIfInBounds_toArray, List.set_cons_zero, List.set_cons_succ]
                      refine wpAnyH_takeD (i := 8) (oi := { dst := some 52, op := Op.indexAddr 57 (Operand.tmp 50) (Operand.tmp 51), type := 0, pos := "ref.go:15", after := #[{ on := 6, ground := Ground.data }, { on := 7, ground := Ground.data }, { on := 5, ground := Ground.guard }], guard := some (5, true) }) (d := 52) (v := ?_) rfl rfl (by kernel_rfl) (by kernel_rfl) (by kernel_rfl) (fun _ _ _ h => h) (Or.inl ⟨by rfl, ?_⟩) hHeld ?_
                      rotate_left
                      · (intro w' hSw; (try dsimp only at hSw); go_simp; (try with_reducible rfl))
                      simp only [List.setIfInBounds_toArray, List.set_cons_zero, List.set_cons_succ]
                      refine wpAnyH_takeD (i := 9) (oi := { dst := some 53, op := Op.load 3 (Operand.tmp 52), type := 3, pos := "ref.go:15", after := #[{ on := 8, ground := Ground.data }, { on := 5, ground := Ground.guard }], guard := some (5, true) }) (d := 53) (v := ?_) rfl rfl (by kernel_rfl) (by kernel_rfl) (by kernel_rfl) (fun _ _ _ h => h) (Or.inl ⟨by rfl, ?_⟩) hHeld ?_
                      rotate_left
                      · (intro w' hSw; (try dsimp only at hSw); go_simp; (try with_reducible rfl))
                      simp only [List.setIfInBounds_toArray, List.set_cons_zero, List.set_cons_succ]
                      refine wpAnyH_takeD (i := 10) (oi := { dst := some 54, op := Op.fieldAddr 34 (Operand.tmp 3) 1, type := 0, pos := "ref.go:15", after := #[{ on := 5, ground := Ground.guard }], guard := some (5, true) }) (d := 54) (v := ?_) rfl rfl (by kernel_rfl) (by kernel_rfl) (by kernel_rfl) (fun _ _ _ h => h) (Or.inl ⟨by rfl, ?_⟩) hHeld ?_
                      rotate_left
                      · (intro w' hSw; (try dsimp only at hSw); go_simp; (try with_reducible rfl))
                      simp only [List.setIfInBounds_toArray, List.set_cons_zero, List.set_cons_succ]
                      refine wpAnyH_takeD (i := 11) (oi := { dst := some 55, op := Op.load 32 (Operand.tmp 54), type := 32, pos := "ref.go:15", after := #[{ on := 10, ground := Ground.data }, { on := 5, ground := Ground.guard }], guard := some (5, true) }) (d := 55) (v := ?_) rfl rfl (by kernel_rfl) (by kernel_rfl) (by kernel_rfl) (fun _ _ _ h => h) (Or.inl ⟨by rfl, ?_⟩) hHeld ?_
                      rotate_left
                      · (intro w' hSw; (try dsimp only at hSw); go_simp; (try with_reducible rfl))
                      simp only [List.setIfInBounds_toArray, List.set_cons_zero, List.set_cons_succ]
                      refine wpAnyH_takeD (i := 12) (oi := { dst := some 56, op := Op.move (Operand.tmp 9), type := 3, pos := "ref.go:15", after := #[{ on := 5, ground := Ground.guard }], guard := some (5, true) }) (d := 56) (v := ?_) rfl rfl (by kernel_rfl) (by kernel_rfl) (by kernel_rfl) (fun _ _ _ h => h) (Or.inl ⟨by rfl, ?_⟩) hHeld ?_
                      rotate_left
                      · (intro w' hSw; (try dsimp only at hSw); go_simp; (try with_reducible rfl))
                      simp only [List.setIfInBounds_toArray, List.set_cons_zero, List.set_cons_succ]
                      refine wpAnyH_takeD (i := 13) (oi := { dst := some 57, op := Op.indexAddr 32 (Operand.tmp 55) (Operand.tmp 56), type := 0, pos := "ref.go:15", after := #[{ on := 11, ground := Ground.data }, { on := 12, ground := Ground.data }, { on := 5, ground := Ground.guard }], guard := some (5, true) }) (d := 57) (v := ?_) rfl rfl (by kernel_rfl) (by kernel_rfl) (by kernel_rfl) (fun _ _ _ h => h) (Or.inl ⟨by rfl, ?_⟩) hHeld ?_
                      rotate_left
                      · (intro w' hSw; (try dsimp only at hSw); go_simp; (try with_reducible rfl))
                      simp only [List.setIfInBounds_toArray, List.set_cons_zero, List.set_cons_succ]
                      refine wpAnyH_takeD (i := 14) (oi := { dst := some 58, op := Op.fieldAddr 55 (Operand.tmp 57) 0, type := 0, pos := "ref.go:15", after := #[{ on := 13, ground := Ground.data }, { on := 5, ground := Ground.guard }], guard := some (5, true) }) (d := 58) (v := ?_) rfl rfl (by kernel_rfl) (by kernel_rfl) (by kernel_rfl) (fun _ _ _ h => h) (Or.inl ⟨by rfl, ?_⟩) hHeld ?_
                      rotate_left
                      · (intro w' hSw; (try dsimp only at hSw); go_simp; (try with_reducible rfl))
                      simp only [List.setIfInBounds_toArray, List.set_cons_zero, List.set_cons_succ]
                      refine wpAnyH_takeD (i := 15) (oi := { dst := some 59, op := Op.load 3 (Operand.tmp 58), type := 3, pos := "ref.go:15", after := #[{ on := 14, ground := Ground.data }, { on := 5, ground := Ground.guard }], guard := some (5, true) }) (d := 59) (v := ?_) rfl rfl (by kernel_rfl) (by kernel_rfl) (by kernel_rfl) (fun _ _ _ h => h) (Or.inl ⟨by rfl, ?_⟩) hHeld ?_
                      rotate_left
                      · (intro w' hSw; (try dsimp only at hSw); go_simp; (try with_reducible rfl))
                      simp only [List.setIfInBounds_toArray, List.set_cons_zero, List.set_cons_succ]
                      refine wpAnyH_takeD (i := 16) (oi := { dst := some 60, op := Op.binOp BinOp.eql 3 (Operand.tmp 53) (Operand.tmp 59) 3, type := 4, pos := "ref.go:15", after := #[{ on := 9, ground := Ground.data }, { on := 15, ground := Ground.data }, { on := 5, ground := Ground.guard }], guard := some (5, true) }) (d := 60) (v := ?_) rfl rfl (by kernel_rfl) (by kernel_rfl) (by kernel_rfl) (fun _ _ _ h => h) (Or.inl ⟨by rfl, ?_⟩) hHeld ?_
                      rotate_left
                      · (intro w' hSw; (try dsimp only at hSw); go_simp; (try with_reducible rfl))
                      simp only [List.setIfInBounds_toArray, List.set_cons_zero, List.set_cons_succ]
                      refine wpAnyH_takeD (i := 17) (oi := { dst := some 61, op := Op.pick (Operand.tmp 49) (Operand.tmp 60) (Operand.const (Value.bool false)), type := 4, pos := "ref.go:15", after := #[{ on := 5, ground := Ground.data }, { on := 16, ground := Ground.data }], guard := none }) (d := 61) (v := ?_) rfl rfl (by kernel_rfl) (by kernel_rfl) (by kernel_rfl) (fun _ _ _ h => h) (Or.inl ⟨by rfl, ?_⟩) hHeld ?_
                      rotate_left
                      · (intro w' hSw; (try dsimp only at hSw); go_simp; (try with_reducible rfl))
                      simp only [List.setIfInBounds_toArray, List.set_cons_zero, List.set_cons_succ]
                      refine wpAnyH_takeD (i := 18) (oi := { dst := some 62, op := Op.move (Operand.tmp 61), type := 4, pos := "ref.go:15", after := #[{ on := 17, ground := Ground.data }, { on := 5, ground := Ground.chain }], guard := none }) (d := 62) (v := ?_) rfl rfl (by kernel_rfl) (by kernel_rfl) (by kernel_rfl) (fun _ _ _ h => h) (Or.inl ⟨by rfl, ?_⟩) hHeld ?_
                      rotate_left
                      · (intro w' hSw; (try dsimp only at hSw); go_simp; (try with_reducible rfl))
                      simp only [List.setIfInBounds_toArray, List.set_cons_zero, List.set_cons_succ]
                      refine wpAnyH_takeD (i := 19) (oi := { dst := some 63, op := Op.move (Operand.tmp 7), type := 57, pos := "ref.go:15", after := #[{ on := 18, ground := Ground.guard }], guard := some (18, true) }) (d := 63) (v := ?_) rfl rfl (by kernel_rfl) (by kernel_rfl) (by kernel_rfl) (fun _ _ _ h => h) (Or.inl ⟨by rfl, ?_⟩) hHeld ?_
                      rotate_left
                      · (intro w' hSw; (try dsimp only at hSw); go_simp; (try with_reducible rfl))
                      simp only [List.setIfInBounds_toArray, List.set_cons_zero, List.set_cons_succ]
                      refine wpAnyH_takeD (i := 20) (oi := { dst := some 64, op := Op.move (Operand.tmp 11), type := 3, pos := "ref.go:15", after := #[{ on := 18, ground := Ground.guard }], guard := some (18, true) }) (d := 64) (v := ?_) rfl rfl (by kernel_rfl) (by kernel_rfl) (by kernel_rfl) (fun _ _ _ h => h) (Or.inl ⟨by rfl, ?_⟩) hHeld ?_
                      rotate_left
                      · (intro w' hSw; (try dsimp only at hSw); go_simp; (try with_reducible rfl))
                      simp only [List.setIfInBounds_toArray, List.set_cons_zero, List.set_cons_succ]
                      refine wpAnyH_takeD (i := 21) (oi := { dst := some 65, op := Op.binOp BinOp.add 3 (Operand.tmp 64) (Operand.const (Value.int IntKind.i64 1)) 3, type := 3, pos := "ref.go:15", after := #[{ on := 20, ground := Ground.data }, { on := 18, ground := Ground.guard }], guard := some (18, true) }) (d := 65) (v := ?_) rfl rfl (by kernel_rfl) (by kernel_rfl) (by kernel_rfl) (fun _ _ _ h => h) (Or.inl ⟨by rfl, ?_⟩) hHeld ?_
                      rotate_left
                      · (intro w' hSw; (try dsimp only at hSw); go_simp; (try with_reducible rfl))
                      simp only [List.setIfInBounds_toArray, List.set_cons_zero, List.set_cons_succ]
                      refine wpAnyH_takeD (i := 22) (oi := { dst := some 66, op := Op.indexAddr 57 (Operand.tmp 63) (Operand.tmp 65), type := 0, pos := "ref.go:15", after := #[{ on := 19, ground := Ground.data }, { on := 21, ground := Ground.data }, { on := 18, ground := Ground.guard }], guard := some (18, true) }) (d := 66) (v := ?_) rfl rfl (by kernel_rfl) (by kernel_rfl) (by kernel_rfl) (fun _ _ _ h => h) (Or.inl ⟨by rfl, ?_⟩) hHeld ?_
                      rotate_left
                      · (intro w' hSw; (try dsimp only at hSw); go_simp; (try with_reducible rfl))
                      simp only [List.setIfInBounds_toArray, List.set_cons_zero, List.set_cons_succ]
                      refine wpAnyH_takeD (i := 23) (oi := { dst := some 67, op := Op.load 3 (Operand.tmp 66), type := 3, pos := "ref.go:15", after := #[{ on := 22, ground := Ground.data }, { on := 18, ground := Ground.guard }], guard := some (18, true) }) (d := 67) (v := ?_) rfl rfl (by kernel_rfl) (by kernel_rfl) (by kernel_rfl) (fun _ _ _ h => h) (Or.inl ⟨by rfl, ?_⟩) hHeld ?_
                      rotate_left
                      · (intro w' hSw; (try dsimp only at hSw); go_simp; (try with_reducible rfl))
                      simp only [List.setIfInBounds_toArray, List.set_cons_zero, List.set_cons_succ]
                      refine wpAnyH_takeD (i := 24) (oi := { dst := some 68, op := Op.fieldAddr 34 (Operand.tmp 3) 1, type := 0, pos := "ref.go:15", after := #[{ on := 18, ground := Ground.guard }], guard := some (18, true) }) (d := 68) (v := ?_) rfl rfl (by kernel_rfl) (by kernel_rfl) (by kernel_rfl) (fun _ _ _ h => h) (Or.inl ⟨by rfl, ?_⟩) hHeld ?_
                      rotate_left
                      · (intro w' hSw; (try dsimp only at hSw); go_simp; (try with_reducible rfl))
                      simp only [List.setIfInBounds_toArray, List.set_cons_zero, List.set_cons_succ]
                      refine wpAnyH_takeD (i := 25) (oi := { dst := some 69, op := Op.load 32 (Operand.tmp 68), type := 32, pos := "ref.go:15", after := #[{ on := 24, ground := Ground.data }, { on := 18, ground := Ground.guard }], guard := some (18, true) }) (d := 69) (v := ?_) rfl rfl (by kernel_rfl) (by kernel_rfl) (by kernel_rfl) (fun _ _ _ h => h) (Or.inl ⟨by rfl, ?_⟩) hHeld ?_
                      rotate_left
                      · (intro w' hSw; (try dsimp only at hSw); go_simp; (try with_reducible rfl))
                      simp only [List.setIfInBounds_toArray, List.set_cons_zero, List.set_cons_succ]
                      refine wpAnyH_takeD (i := 26) (oi := { dst := some 70, op := Op.move (Operand.tmp 9), type := 3, pos := "ref.go:15", after := #[{ on := 18, ground := Ground.guard }], guard := some (18, true) }) (d := 70) (v := ?_) rfl rfl (by kernel_rfl) (by kernel_rfl) (by kernel_rfl) (fun _ _ _ h => h) (Or.inl ⟨by rfl, ?_⟩) hHeld ?_
                      rotate_left
                      · (intro w' hSw; (try dsimp only at hSw); go_simp; (try with_reducible rfl))
                      simp only [List.setIfInBounds_toArray, List.set_cons_zero, List.set_cons_succ]
                      refine wpAnyH_takeD (i := 27) (oi := { dst := some 71, op := Op.indexAddr 32 (Operand.tmp 69) (Operand.tmp 70), type := 0, pos := "ref.go:15", after := #[{ on := 25, ground := Ground.data }, { on := 26, ground := Ground.data }, { on := 18, ground := Ground.guard }], guard := some (18, true) }) (d := 71) (v := ?_) rfl rfl (by kernel_rfl) (by kernel_rfl) (by kernel_rfl) (fun _ _ _ h => h) (Or.inl ⟨by rfl, ?_⟩) hHeld ?_
                      rotate_left
                      · (intro w' hSw; (try dsimp only at hSw); go_simp; (try with_reducible rfl))
                      simp only [List.setIfInBounds_toArray, List.set_cons_zero, List.set_cons_succ]
                      refine wpAnyH_takeD (i := 28) (oi := { dst := some 72, op := Op.fieldAddr 55 (Operand.tmp 71) 1, type := 0, pos := "ref.go:15", after := #[{ on := 27, ground := Ground.data }, { on := 18, ground := Ground.guard }], guard := some (18, true) }) (d := 72) (v := ?_) rfl rfl (by kernel_rfl) (by kernel_rfl) (by kernel_rfl) (fun _ _ _ h => h) (Or.inl ⟨by rfl, ?_⟩) hHeld ?_
                      rotate_left
                      · (intro w' hSw; (try dsimp only at hSw); go_simp; (try with_reducible rfl))
                      simp only [List.setIfInBounds_toArray, List.set_cons_zero, List.set_cons_succ]
                      refine wpAnyH_takeD (i := 29) (oi := { dst := some 73, op := Op.load 3 (Operand.tmp 72), type := 3, pos := "ref.go:15", after := #[{ on := 28, ground := Ground.data }, { on := 18, ground := Ground.guard }], guard := some (18, true) }) (d := 73) (v := ?_) rfl rfl (by kernel_rfl) (by kernel_rfl) (by kernel_rfl) (fun _ _ _ h => h) (Or.inl ⟨by rfl, ?_⟩) hHeld ?_
                      rotate_left
                      · (intro w' hSw; (try dsimp only at hSw); go_simp; (try with_reducible rfl))
                      simp only [List.setIfInBounds_toArray, List.set_cons_zero, List.set_cons_succ]
                      refine wpAnyH_takeD (i := 30) (oi := { dst := some 74, op := Op.binOp BinOp.eql 3 (Operand.tmp 67) (Operand.tmp 73) 3, type := 4, pos := "ref.go:15", after := #[{ on := 23, ground := Ground.data }, { on := 29, ground := Ground.data }, { on := 18, ground := Ground.guard }], guard := some (18, true) }) (d := 74) (v := ?_) rfl rfl (by kernel_rfl) (by kernel_rfl) (by kernel_rfl) (fun _ _ _ h => h) (Or.inl ⟨by rfl, ?_⟩) hHeld ?_
                      rotate_left
                      · (intro w' hSw; (try dsimp only at hSw); go_simp; (try with_reducible rfl))
                      simp only [List.setIfInBounds_toArray, List.set_cons_zero, List.set_cons_succ]
                      refine wpAnyH_takeD (i := 31) (oi := { dst := some 75, op := Op.pick (Operand.tmp 62) (Operand.tmp 74) (Operand.const (Value.bool false)), type := 4, pos := "ref.go:15", after := #[{ on := 18, ground := Ground.data }, { on := 30, ground := Ground.data }], guard := none }) (d := 75) (v := ?_) rfl rfl (by kernel_rfl) (by kernel_rfl) (by kernel_rfl) (fun _ _ _ h => h) (Or.inl ⟨by rfl, ?_⟩) hHeld ?_
                      rotate_left
                      · (intro w' hSw; (try dsimp only at hSw); go_simp; (try with_reducible rfl))
                      simp only [List.setIfInBounds_toArray, List.set_cons_zero, List.set_cons_succ]
                      refine wpAnyH_done (by kernel_rfl) ?_ _
                      clear hHeld m0 m1 mb l1
                      replace l0 : W2.drew.cell? ⟨b1, o1 + i, none⟩ = some (.int .i64 x) := l0
                      replace HO : Hid (W2.drew.ownsRow W.heap.size 3 1 (.slice A3 O.length c3) O.length (O.map (Value.int .i64))) := Lib.hid (own_drew HO.out)
                      replace HBO := Lib.hid HBO.out.drew
                      generalize W2.drew = W2 at *
                      go_wp2_with (at_builtin; refine app_one W.heap.size 57 3 (.int .i64 0) 1 8 [_] 1 _ _ rfl rfl Tryz.underlying57 info_int5 rfl (by decide) _ _ _ rfl rfl rfl (by intro u hu; simp at hu; subst hu; rfl) HO.out (by omega) (by omega) HBO.out.size ?_)
                      intro v' w6 hown hg6
                      obtain ⟨A4, c4, rfl⟩ := own_slice hown
                      have hk6 : Below W.heap.size W2 w6 := Keep.below (Keep.of_grown (F := fun g => (Value.slice A3 O.length c3).ownBlock = some g) hg6 (fun g hg => hg)) HBO.out.size (fun x hx => own_base HO.out x hx)
                      have HO6 : Hid (w6.ownsRow W.heap.size 3 1 (.slice A4 (O ++ [x]).length c4) (O ++ [x]).length ((O ++ [x]).map (Value.int .i64))) := Lib.hid (by rw [List.length_append, List.map_append]; exact hown)
                      have HB6 := Lib.hid (HBO.out.trans hk6)
                      have HL6 : Hid ((O ++ [x]).length = O.length + 1) := Lib.hid (by simp)
                      clear hown hg6 hk6
                      go_wp2_with fail
                      go_roundg (gk - 1)
                      case measure => have := HI.out; omega
                      case rel => exact ⟨i + 1, O ++ [x], A4, c4, by have := HI.out; omega, by go_num, by rw [HL6.out], HO6.out, HB6.out, HREP.out, by rw [HL6.out]; omega⟩
                  · have hxa : (x == a) = false := by simpa using hx
                    have HREP := Lib.hid (HX.out.2 (fun e => hx e.1))
                    clear hx
                    go_upto_region 13 with fail
                    refine wp_region_held_drew (S := fun V => V.cell? ⟨w.heap.size, 1, none⟩ = some (.slice (some ⟨ba, o, none⟩) M.length c2) ∧ V.cell? ⟨ba, o + k * 2, none⟩ = some (.int .i64 a) ∧ V.cell? ⟨ba, o + k * 2 + 1, none⟩ = some (.int .i64 b) ∧ V.cell? ⟨b1, o1 + i, none⟩ = some (.int .i64 x) ∧ V.cell? ⟨b1, o1 + (i + 1), none⟩ = some (.int .i64 y)) (by kernel_rfl) (by exact ⟨m1, m0, mb, l0, l1⟩) (fun hHeld => ?_)
                    refine wpAnyH_takeD (i := 0) (oi := { dst := some 44, op := Op.move (Operand.tmp 11), type := 3, pos := "ref.go:15", after := #[], guard := none }) (d := 44) (v := ?_) rfl rfl (by kernel_rfl) (by kernel_rfl) (by kernel_rfl) (fun _ _ _ h => h) (Or.inl ⟨by rfl, ?_⟩) hHeld ?_
                    rotate_left
                    · (intro w' hSw; (try dsimp only at hSw); go_simp; (try with_reducible rfl))
                    simp only [List.setIfInBounds_toArray, List.set_cons_zero, List.set_cons_succ]
                    refine wpAnyH_takeD (i := 1) (oi := { dst := some 45, op := Op.binOp BinOp.add 3 (Operand.tmp 44) (Operand.const (Value.int IntKind.i64 1)) 3, type := 3, pos := "ref.go:15", after := #[{ on := 0, ground := Ground.data }], guard := none }) (d := 45) (v := ?_) rfl rfl (by kernel_rfl) (by kernel_rfl) (by kernel_rfl) (fun _ _ _ h => h) (Or.inl ⟨by rfl, ?_⟩) hHeld ?_
                    rotate_left
                    · (intro w' hSw; (try dsimp only at hSw); go_simp; (try with_reducible rfl))
                    simp only [List.setIfInBounds_toArray, List.set_cons_zero, List.set_cons_succ]
                    refine wpAnyH_takeD (i := 2) (oi := { dst := some 46, op := Op.move (Operand.tmp 7), type := 57, pos := "ref.go:15", after := #[], guard := none }) (d := 46) (v := ?_) rfl rfl (by kernel_rfl) (by kernel_rfl) (by kernel_rfl) (fun _ _ _ h => h) (Or.inl ⟨by rfl, ?_⟩) hHeld ?_
                    rotate_left
                    · (intro w' hSw; (try dsimp only at hSw); go_simp; (try with_reducible rfl))
                    simp only [List.setIfInBounds_toArray, List.set_cons_zero, List.set_cons_succ]
                    refine wpAnyH_takeD (i := 3) (oi := { dst := some 47, op := Op.call { callee := Callee.builtin Builtin.len, args := #[Operand.tmp 46], argTypes := #[57] }, type := 3, pos := "ref.go:15", after := #[{ on := 2, ground := Ground.data }], guard := none }) (d := 47) (v := ?_) rfl rfl (by kernel_rfl) (by kernel_rfl) (by kernel_rfl) (fun _ _ _ h => h) (Or.inl ⟨by rfl, ?_⟩) hHeld ?_
                    rotate_left
                    · (intro w' hSw; (try dsimp only at hSw); go_simp; (try with_reducible rfl))
                    simp only [List.setIfInBounds_toArray, List.set_cons_zero, List.set_cons_succ]
                    refine wpAnyH_takeD (i := 4) (oi := { dst := some 48, op := Op.binOp BinOp.lss 3 (Operand.tmp 45) (Operand.tmp 47) 3, type := 4, pos := "ref.go:15", after := #[{ on := 1, ground := Ground.data }, { on := 3, ground := Ground.data }], guard := none }) (d := 48) (v := ?_) rfl rfl (by kernel_rfl) (by kernel_rfl) (by kernel_rfl) (fun _ _ _ h => h) (Or.inl ⟨by rfl, ?_⟩) hHeld ?_
                    rotate_left
                    · (intro w' hSw; (try dsimp only at hSw); go_simp; (try with_reducible rfl))
                    simp only [List.setIfInBounds_toArray, List.set_cons_zero, List.set_cons_succ]
                    refine wpAnyH_takeD (i := 5) (oi := { dst := some 49, op := Op.move (Operand.tmp 48), type := 4, pos := "ref.go:15", after := #[{ on := 4, ground := Ground.data }], guard := none }) (d := 49) (v := ?_) rfl rfl (by kernel_rfl) (by kernel_rfl) (by kernel_rfl) (fun _ _ _ h => h) (Or.inl ⟨by rfl, ?_⟩) hHeld ?_
                    rotate_left
                    · (intro w' hSw; (try dsimp only at hSw); go_simp; (try with_reducible rfl))
                    simp only [List.setIfInBounds_toArray, List.set_cons_zero, List.set_cons_succ]
                    refine wpAnyH_takeD (i := 6) (oi := { dst := some 50, op := Op.move (Operand.tmp 7), type := 57, pos := "ref.go:15", after := #[{ on := 5, ground := Ground.guard }], guard := some (5, true) }) (d := 50) (v := ?_) rfl rfl (by kernel_rfl) (by kernel_rfl) (by kernel_rfl) (fun _ _ _ h => h) (Or.inl ⟨by rfl, ?_⟩) hHeld ?_
                    rotate_left
                    · (intro w' hSw; (try dsimp only at hSw); go_simp; (try with_reducible rfl))
                    simp only [List.setIfInBounds_toArray, List.set_cons_zero, List.set_cons_succ]
                    refine wpAnyH_takeD (i := 7) (oi := { dst := some 51, op := Op.move (Operand.tmp 11), type := 3, pos := "ref.go:15", after := #[{ on := 5, ground := Ground.guard }], guard := some (5, true) }) (d := 51) (v := ?_) rfl rfl (by kernel_rfl) (by kernel_rfl) (by kernel_rfl) (fun _ _ _ h => h) (Or.inl ⟨by rfl, ?_⟩) hHeld ?_
                    rotate_left
                    · (intro w' hSw; (try dsimp only at hSw); go_simp; (try with_reducible rfl))
                    simp only [List.setIfInBounds_toArray, List.set_cons_zero, List.set_cons_succ]
                    refine wpAnyH_takeD (i := 8) (oi := { dst := some 52, op := Op.indexAddr 57 (Operand.tmp 50) (Operand.tmp 51), type := 0, pos := "ref.go:15", after := #[{ on := 6, ground := Ground.data }, { on := 7, ground := Ground.data }, { on := 5, ground := Ground.guard }], guard := some (5, true) }) (d := 52) (v := ?_) rfl rfl (by kernel_rfl) (by kernel_rfl) (by kernel_rfl) (fun _ _ _ h => h) (Or.inl ⟨by rfl, ?_⟩) hHeld ?_
                    rotate_left
                    · (intro w' hSw; (try dsimp only at hSw); go_simp; (try with_reducible rfl))
                    simp only [List.setIfInBounds_toArray, List.set_cons_zero, List.set_cons_succ]
                    refine wpAnyH_takeD (i := 9) (oi := { dst := some 53, op := Op.load 3 (Operand.tmp 52), type := 3, pos := "ref.go:15", after := #[{ on := 8, ground := Ground.data }, { on := 5, ground := Ground.guard }], guard := some (5, true) }) (d := 53) (v := ?_) rfl rfl (by kernel_rfl) (by kernel_rfl) (by kernel_rfl) (fun _ _ _ h => h) (Or.inl ⟨by rfl, ?_⟩) hHeld ?_
                    rotate_left
                    · (intro w' hSw; (try dsimp only at hSw); go_simp; (try with_reducible rfl))
                    simp only [List.setIfInBounds_toArray, List.set_cons_zero, List.set_cons_succ]
                    refine wpAnyH_takeD (i := 10) (oi := { dst := some 54, op := Op.fieldAddr 34 (Operand.tmp 3) 1, type := 0, pos := "ref.go:15", after := #[{ on := 5, ground := Ground.guard }], guard := some (5, true) }) (d := 54) (v := ?_) rfl rfl (by kernel_rfl) (by kernel_rfl) (by kernel_rfl) (fun _ _ _ h => h) (Or.inl ⟨by rfl, ?_⟩) hHeld ?_
                    rotate_left
                    · (intro w' hSw; (try dsimp only at hSw); go_simp; (try with_reducible rfl))
                    simp only [List.setIfInBounds_toArray, List.set_cons_zero, List.set_cons_succ]
                    refine wpAnyH_takeD (i := 11) (oi := { dst := some 55, op := Op.load 32 (Operand.tmp 54), type := 32, pos := "ref.go:15", after := #[{ on := 10, ground := Ground.data }, { on := 5, ground := Ground.guard }], guard := some (5, true) }) (d := 55) (v := ?_) rfl rfl (by kernel_rfl) (by kernel_rfl) (by kernel_rfl) (fun _ _ _ h => h) (Or.inl ⟨by rfl, ?_⟩) hHeld ?_
                    rotate_left
                    · (intro w' hSw; (try dsimp only at hSw); go_simp; (try with_reducible rfl))
                    simp only [List.setIfInBounds_toArray, List.set_cons_zero, List.set_cons_succ]
                    refine wpAnyH_takeD (i := 12) (oi := { dst := some 56, op := Op.move (Operand.tmp 9), type := 3, pos := "ref.go:15", after := #[{ on := 5, ground := Ground.guard }], guard := some (5, true) }) (d := 56) (v := ?_) rfl rfl (by kernel_rfl) (by kernel_rfl) (by kernel_rfl) (fun _ _ _ h => h) (Or.inl ⟨by rfl, ?_⟩) hHeld ?_
                    rotate_left
                    · (intro w' hSw; (try dsimp only at hSw); go_simp; (try with_reducible rfl))
                    simp only [List.setIfInBounds_toArray, List.set_cons_zero, List.set_cons_succ]
                    refine wpAnyH_takeD (i := 13) (oi := { dst := some 57, op := Op.indexAddr 32 (Operand.tmp 55) (Operand.tmp 56), type := 0, pos := "ref.go:15", after := #[{ on := 11, ground := Ground.data }, { on := 12, ground := Ground.data }, { on := 5, ground := Ground.guard }], guard := some (5, true) }) (d := 57) (v := ?_) rfl rfl (by kernel_rfl) (by kernel_rfl) (by kernel_rfl) (fun _ _ _ h => h) (Or.inl ⟨by rfl, ?_⟩) hHeld ?_
                    rotate_left
                    · (intro w' hSw; (try dsimp only at hSw); go_simp; (try with_reducible rfl))
                    simp only [List.setIfInBounds_toArray, List.set_cons_zero, List.set_cons_succ]
                    refine wpAnyH_takeD (i := 14) (oi := { dst := some 58, op := Op.fieldAddr 55 (Operand.tmp 57) 0, type := 0, pos := "ref.go:15", after := #[{ on := 13, ground := Ground.data }, { on := 5, ground := Ground.guard }], guard := some (5, true) }) (d := 58) (v := ?_) rfl rfl (by kernel_rfl) (by kernel_rfl) (by kernel_rfl) (fun _ _ _ h => h) (Or.inl ⟨by rfl, ?_⟩) hHeld ?_
                    rotate_left
                    · (intro w' hSw; (try dsimp only at hSw); go_simp; (try with_reducible rfl))
                    simp only [List.setIfInBounds_toArray, List.set_cons_zero, List.set_cons_succ]
                    refine wpAnyH_takeD (i := 15) (oi := { dst := some 59, op := Op.load 3 (Operand.tmp 58), type := 3, pos := "ref.go:15", after := #[{ on := 14, ground := Ground.data }, { on := 5, ground := Ground.guard }], guard := some (5, true) }) (d := 59) (v := ?_) rfl rfl (by kernel_rfl) (by kernel_rfl) (by kernel_rfl) (fun _ _ _ h => h) (Or.inl ⟨by rfl, ?_⟩) hHeld ?_
                    rotate_left
                    · (intro w' hSw; (try dsimp only at hSw); go_simp; (try with_reducible rfl))
                    simp only [List.setIfInBounds_toArray, List.set_cons_zero, List.set_cons_succ]
                    refine wpAnyH_takeD (i := 16) (oi := { dst := some 60, op := Op.binOp BinOp.eql 3 (Operand.tmp 53) (Operand.tmp 59) 3, type := 4, pos := "ref.go:15", after := #[{ on := 9, ground := Ground.data }, { on := 15, ground := Ground.data }, { on := 5, ground := Ground.guard }], guard := some (5, true) }) (d := 60) (v := ?_) rfl rfl (by kernel_rfl) (by kernel_rfl) (by kernel_rfl) (fun _ _ _ h => h) (Or.inl ⟨by rfl, ?_⟩) hHeld ?_
                    rotate_left
                    · (intro w' hSw; (try dsimp only at hSw); go_simp; (try with_reducible rfl))
                    simp only [List.setIfInBounds_toArray, List.set_cons_zero, List.set_cons_succ]
                    refine wpAnyH_takeD (i := 17) (oi := { dst := some 61, op := Op.pick (Operand.tmp 49) (Operand.tmp 60) (Operand.const (Value.bool false)), type := 4, pos := "ref.go:15", after := #[{ on := 5, ground := Ground.data }, { on := 16, ground := Ground.data }], guard := none }) (d := 61) (v := ?_) rfl rfl (by kernel_rfl) (by kernel_rfl) (by kernel_rfl) (fun _ _ _ h => h) (Or.inl ⟨by rfl, ?_⟩) hHeld ?_
                    rotate_left
                    · (intro w' hSw; (try dsimp only at hSw); go_simp; (try with_reducible rfl))
                    simp only [List.setIfInBounds_toArray, List.set_cons_zero, List.set_cons_succ]
                    refine wpAnyH_takeD (i := 18) (oi := { dst := some 62, op := Op.move (Operand.tmp 61), type := 4, pos := "ref.go:15", after := #[{ on := 17, ground := Ground.data }, { on := 5, ground := Ground.chain }], guard := none }) (d := 62) (v := ?_) rfl rfl (by kernel_rfl) (by kernel_rfl) (by kernel_rfl) (fun _ _ _ h => h) (Or.inl ⟨by rfl, ?_⟩) hHeld ?_
                    rotate_left
                    · (intro w' hSw; (try dsimp only at hSw); go_simp; (try with_reducible rfl))
                    simp only [List.setIfInBounds_toArray, List.set_cons_zero, List.set_cons_succ]
                    refine wpAnyH_takeD (i := 19) (oi := { dst := some 63, op := Op.move (Operand.tmp 7), type := 57, pos := "ref.go:15", after := #[{ on := 18, ground := Ground.guard }], guard := some (18, true) }) (d := 63) (v := undef) rfl rfl (by kernel_rfl) (by kernel_rfl) (by kernel_rfl) (fun _ _ _ h => h) (Or.inr ⟨by rfl, rfl⟩) hHeld ?_
                    simp only [List.setIfInBounds_toArray, List.set_cons_zero, List.set_cons_succ]
                    refine wpAnyH_takeD (i := 20) (oi := { dst := some 64, op := Op.move (Operand.tmp 11), type := 3, pos := "ref.go:15", after := #[{ on := 18, ground := Ground.guard }], guard := some (18, true) }) (d := 64) (v := undef) rfl rfl (by kernel_rfl) (by kernel_rfl) (by kernel_rfl) (fun _ _ _ h => h) (Or.inr ⟨by rfl, rfl⟩) hHeld ?_
                    simp only [List.setIfInBounds_toArray, List.set_cons_zero, List.set_cons_succ]
                    refine wpAnyH_takeD (i := 21) (oi := { dst := some 65, op := Op.binOp BinOp.add 3 (Operand.tmp 64) (Operand.const (Value.int IntKind.i64 1)) 3, type := 3, pos := "ref.go:15", after := #[{ on := 20, ground := Ground.data }, { on := 18, ground := Ground.guard }], guard := some (18, true) }) (d := 65) (v := undef) rfl rfl (by kernel_rfl) (by kernel_rfl) (by kernel_rfl) (fun _ _ _ h => h) (Or.inr ⟨by rfl, rfl⟩) hHeld ?_
                    simp only [List.setIfInBounds_toArray, List.set_cons_zero, List.set_cons_succ]
                    refine wpAnyH_takeD (i := 22) (oi := { dst := some 66, op := Op.indexAddr 57 (Operand.tmp 63) (Operand.tmp 65), type := 0, pos := "ref.go:15", after := #[{ on := 19, ground := Ground.data }, { on := 21, ground := Ground.data }, { on := 18, ground := Ground.guard }], guard := some (18, true) }) (d := 66) (v := undef) rfl rfl (by kernel_rfl) (by kernel_rfl) (by kernel_rfl) (fun _ _ _ h => h) (Or.inr ⟨by rfl, rfl⟩) hHeld ?_
                    simp only [List.setIfInBounds_toArray, List.set_cons_zero, List.set_cons_succ]
                    refine wpAnyH_takeD (i := 23) (oi := { dst := some 67, op := Op.load 3 (Operand.tmp 66), type := 3, pos := "ref.go:15", after := #[{ on := 22, ground := Ground.data }, { on := 18, ground := Ground.guard }], guard := some (18, true) }) (d := 67) (v := undef) rfl rfl (by kernel_rfl) (by kernel_rfl) (by kernel_rfl) (fun _ _ _ h => h) (Or.inr ⟨by rfl, rfl⟩) hHeld ?_
                    simp only [List.setIfInBounds_toArray, List.set_cons_zero, List.set_cons_succ]
                    refine wpAnyH_takeD (i := 24) (oi := { dst := some 68, op := Op.fieldAddr 34 (Operand.tmp 3) 1, type := 0, pos := "ref.go:15", after := #[{ on := 18, ground := Ground.guard }], guard := some (18, true) }) (d := 68) (v := undef) rfl rfl (by kernel_rfl) (by kernel_rfl) (by kernel_rfl) (fun _ _ _ h => h) (Or.inr ⟨by rfl, rfl⟩) hHeld ?_
                    simp only [List.setIfInBounds_toArray, List.set_cons_zero, List.set_cons_succ]
                    refine wpAnyH_takeD (i := 25) (oi := { dst := some 69, op := Op.load 32 (Operand.tmp 68), type := 32, pos := "ref.go:15", after := #[{ on := 24, ground := Ground.data }, { on := 18, ground := Ground.guard }], guard := some (18, true) }) (d := 69) (v := undef) rfl rfl (by kernel_rfl) (by kernel_rfl) (by kernel_rfl) (fun _ _ _ h => h) (Or.inr ⟨by rfl, rfl⟩) hHeld ?_
                    simp only [List.setIfInBounds_toArray, List.set_cons_zero, List.set_cons_succ]
                    refine wpAnyH_takeD (i := 26) (oi := { dst := some 70, op := Op.move (Operand.tmp 9), type := 3, pos := "ref.go:15", after := #[{ on := 18, ground := Ground.guard }], guard := some (18, true) }) (d := 70) (v := undef) rfl rfl (by kernel_rfl) (by kernel_rfl) (by kernel_rfl) (fun _ _ _ h => h) (Or.inr ⟨by rfl, rfl⟩) hHeld ?_
                    simp only [List.setIfInBounds_toArray, List.set_cons_zero, List.set_cons_succ]
                    refine wpAnyH_takeD (i := 27) (oi := { dst := some 71, op := Op.indexAddr 32 (Operand.tmp 69) (Operand.tmp 70), type := 0, pos := "ref.go:15", after := #[{ on := 25, ground := Ground.data }, { on := 26, ground := Ground.data }, { on := 18, ground := Ground.guard }], guard := some (18, true) }) (d := 71) (v := undef) rfl rfl (by kernel_rfl) (by kernel_rfl) (by kernel_rfl) (fun _ _ _ h => h) (Or.inr ⟨by rfl, rfl⟩) hHeld ?_
                    simp only [List.setIfInBounds_toArray, List.set_cons_zero, List.set_cons_succ]
                    refine wpAnyH_takeD (i := 28) (oi := { dst := some 72, op := Op.fieldAddr 55 (Operand.tmp 71) 1, type := 0, pos := "ref.go:15", after := #[{ on := 27, ground := Ground.data }, { on := 18, ground := Ground.guard }], guard := some (18, true) }) (d := 72) (v := undef) rfl rfl (by kernel_rfl) (by kernel_rfl) (by kernel_rfl) (fun _ _ _ h => h) (Or.inr ⟨by rfl, rfl⟩) hHeld ?_
                    simp only [List.setIfInBounds_toArray, List.set_cons_zero, List.set_cons_succ]
                    refine wpAnyH_takeD (i := 29) (oi := { dst := some 73, op := Op.load 3 (Operand.tmp 72), type := 3, pos := "ref.go:15", after := #[{ on := 28, ground := Ground.data }, { on := 18, ground := Ground.guard }], guard := some (18, true) }) (d := 73) (v := undef) rfl rfl (by kernel_rfl) (by kernel_rfl) (by kernel_rfl) (fun _ _ _ h => h) (Or.inr ⟨by rfl, rfl⟩) hHeld ?_
                    simp only [List.setIfInBounds_toArray, List.set_cons_zero, List.set_cons_succ]
                    refine wpAnyH_takeD (i := 30) (oi := { dst := some 74, op := Op.binOp BinOp.eql 3 (Operand.tmp 67) (Operand.tmp 73) 3, type := 4, pos := "ref.go:15", after := #[{ on := 23, ground := Ground.data }, { on := 29, ground := Ground.data }, { on := 18, ground := Ground.guard }], guard := some (18, true) }) (d := 74) (v := undef) rfl rfl (by kernel_rfl) (by kernel_rfl) (by kernel_rfl) (fun _ _ _ h => h) (Or.inr ⟨by rfl, rfl⟩) hHeld ?_
                    simp only [List.setIfInBounds_toArray, List.set_cons_zero, List.set_cons_succ]
                    refine wpAnyH_takeD (i := 31) (oi := { dst := some 75, op := Op.pick (Operand.tmp 62) (Operand.tmp 74) (Operand.const (Value.bool false)), type := 4, pos := "ref.go:15", after := #[{ on := 18, ground := Ground.data }, { on := 30, ground := Ground.data }], guard := none }) (d := 75) (v := ?_) rfl rfl (by kernel_rfl) (by kernel_rfl) (by kernel_rfl) (fun _ _ _ h => h) (Or.inl ⟨by rfl, ?_⟩) hHeld ?_
                    rotate_left
                    · (intro w' hSw; (try dsimp only at hSw); go_simp; (try with_reducible rfl))
                    simp only [List.setIfInBounds_toArray, List.set_cons_zero, List.set_cons_succ]
                    refine wpAnyH_done (by kernel_rfl) ?_ _
                    clear hHeld m0 m1 mb l1
                    replace l0 : W2.drew.cell? ⟨b1, o1 + i, none⟩ = some (.int .i64 x) := l0
                    replace HO : Hid (W2.drew.ownsRow W.heap.size 3 1 (.slice A3 O.length c3) O.length (O.map (Value.int .i64))) := Lib.hid (own_drew HO.out)
                    replace HBO := Lib.hid HBO.out.drew
                    generalize W2.drew = W2 at *
                    go_wp2_with (at_builtin; refine app_one W.heap.size 57 3 (.int .i64 0) 1 8 [_] 1 _ _ rfl rfl Tryz.underlying57 info_int5 rfl (by decide) _ _ _ rfl rfl rfl (by intro u hu; simp at hu; subst hu; rfl) HO.out (by omega) (by omega) HBO.out.size ?_)
                    intro v' w6 hown hg6
                    obtain ⟨A4, c4, rfl⟩ := own_slice hown
                    have hk6 : Below W.heap.size W2 w6 := Keep.below (Keep.of_grown (F := fun g => (Value.slice A3 O.length c3).ownBlock = some g) hg6 (fun g hg => hg)) HBO.out.size (fun x hx => own_base HO.out x hx)
                    have HO6 : Hid (w6.ownsRow W.heap.size 3 1 (.slice A4 (O ++ [x]).length c4) (O ++ [x]).length ((O ++ [x]).map (Value.int .i64))) := Lib.hid (by rw [List.length_append, List.map_append]; exact hown)
                    have HB6 := Lib.hid (HBO.out.trans hk6)
                    have HL6 : Hid ((O ++ [x]).length = O.length + 1) := Lib.hid (by simp)
                    clear hown hg6 hk6
                    go_wp2_with fail
                    go_roundg (gk - 1)
                    case measure => have := HI.out; omega
                    case rel => exact ⟨i + 1, O ++ [x], A4, c4, by have := HI.out; omega, by go_num, by rw [HL6.out], HO6.out, HB6.out, HREP.out, by rw [HL6.out]; omega⟩
                · have p2 : ¬ (i : Int) + 1 < (L.length : Int) := by omega
                  have HREP : Hid (O ++ [L[i]] ++ rep a b (256 + (k : Int)) (L.drop (i + 1)) = rep a b (256 + (k : Int)) L) := Lib.hid (by rw [← HREP0.out, rep_one hlt (fun ⟨e, _⟩ => hn e)]; simp)
                  generalize L[i] = x at *
                  go_upto_region 13 with fail
                  refine wp_region_held_drew (S := fun V => V.cell? ⟨w.heap.size, 1, none⟩ = some (.slice (some ⟨ba, o, none⟩) M.length c2) ∧ V.cell? ⟨ba, o + k * 2, none⟩ = some (.int .i64 a) ∧ V.cell? ⟨ba, o + k * 2 + 1, none⟩ = some (.int .i64 b) ∧ V.cell? ⟨b1, o1 + i, none⟩ = some (.int .i64 x)) (by kernel_rfl) (by exact ⟨m1, m0, mb, l0⟩) (fun hHeld => ?_)
                  refine wpAnyH_takeD (i := 0) (oi := { dst := some 44, op := Op.move (Operand.tmp 11), type := 3, pos := "ref.go:15", after := #[], guard := none }) (d := 44) (v := ?_) rfl rfl (by kernel_rfl) (by kernel_rfl) (by kernel_rfl) (fun _ _ _ h => h) (Or.inl ⟨by rfl, ?_⟩) hHeld ?_
                  rotate_left
                  · (intro w' hSw; (try dsimp only at hSw); go_simp; (try with_reducible rfl))
                  simp only [List.setIfInBounds_toArray, List.set_cons_zero, List.set_cons_succ]
                  refine wpAnyH_takeD (i := 1) (oi := { dst := some 45, op := Op.binOp BinOp.add 3 (Operand.tmp 44) (Operand.const (Value.int IntKind.i64 1)) 3, type := 3, pos := "ref.go:15", after := #[{ on := 0, ground := Ground.data }], guard := none }) (d := 45) (v := ?_) rfl rfl (by kernel_rfl) (by kernel_rfl) (by kernel_rfl) (fun _ _ _ h => h) (Or.inl ⟨by rfl, ?_⟩) hHeld ?_
                  rotate_left
                  · (intro w' hSw; (try dsimp only at hSw); go_simp; (try with_reducible rfl))
                  simp only [List.setIfInBounds_toArray, List.set_cons_zero, List.set_cons_succ]
                  refine wpAnyH_takeD (i := 2) (oi := { dst := some 46, op := Op.move (Operand.tmp 7), type := 57, pos := "ref.go:15", after := #[], guard := none }) (d := 46) (v := ?_) rfl rfl (by kernel_rfl) (by kernel_rfl) (by kernel_rfl) (fun _ _ _ h => h) (Or.inl ⟨by rfl, ?_⟩) hHeld ?_
                  rotate_left
                  · (intro w' hSw; (try dsimp only at hSw); go_simp; (try with_reducible rfl))
                  simp only [List.setIfInBounds_toArray, List.set_cons_zero, List.set_cons_succ]
                  refine wpAnyH_takeD (i := 3) (oi := { dst := some 47, op := Op.call { callee := Callee.builtin Builtin.len, args := #[Operand.tmp 46], argTypes := #[57] }, type := 3, pos := "ref.go:15", after := #[{ on := 2, ground := Ground.data }], guard := none }) (d := 47) (v := ?_) rfl rfl (by kernel_rfl) (by kernel_rfl) (by kernel_rfl) (fun _ _ _ h => h) (Or.inl ⟨by rfl, ?_⟩) hHeld ?_
                  rotate_left
                  · (intro w' hSw; (try dsimp only at hSw); go_simp; (try with_reducible rfl))
                  simp only [List.setIfInBounds_toArray, List.set_cons_zero, List.set_cons_succ]
                  refine wpAnyH_takeD (i := 4) (oi := { dst := some 48, op := Op.binOp BinOp.lss 3 (Operand.tmp 45) (Operand.tmp 47) 3, type := 4, pos := "ref.go:15", after := #[{ on := 1, ground := Ground.data }, { on := 3, ground := Ground.data }], guard := none }) (d := 48) (v := ?_) rfl rfl (by kernel_rfl) (by kernel_rfl) (by kernel_rfl) (fun _ _ _ h => h) (Or.inl ⟨by rfl, ?_⟩) hHeld ?_
                  rotate_left
                  · (intro w' hSw; (try dsimp only at hSw); go_simp; (try with_reducible rfl))
                  simp only [List.setIfInBounds_toArray, List.set_cons_zero, List.set_cons_succ]
                  refine wpAnyH_takeD (i := 5) (oi := { dst := some 49, op := Op.move (Operand.tmp 48), type := 4, pos := "ref.go:15", after := #[{ on := 4, ground := Ground.data }], guard := none }) (d := 49) (v := ?_) rfl rfl (by kernel_rfl) (by kernel_rfl) (by kernel_rfl) (fun _ _ _ h => h) (Or.inl ⟨by rfl, ?_⟩) hHeld ?_
                  rotate_left
                  · (intro w' hSw; (try dsimp only at hSw); go_simp; (try with_reducible rfl))
                  simp only [List.setIfInBounds_toArray, List.set_cons_zero, List.set_cons_succ]
                  refine wpAnyH_takeD (i := 6) (oi := { dst := some 50, op := Op.move (Operand.tmp 7), type := 57, pos := "ref.go:15", after := #[{ on := 5, ground := Ground.guard }], guard := some (5, true) }) (d := 50) (v := undef) rfl rfl (by kernel_rfl) (by kernel_rfl) (by kernel_rfl) (fun _ _ _ h => h) (Or.inr ⟨by rfl, rfl⟩) hHeld ?_
                  simp only [List.setIfInBounds_toArray, List.set_cons_zero, List.set_cons_succ]
                  refine wpAnyH_takeD (i := 7) (oi := { dst := some 51, op := Op.move (Operand.tmp 11), type := 3, pos := "ref.go:15", after := #[{ on := 5, ground := Ground.guard }], guard := some (5, true) }) (d := 51) (v := undef) rfl rfl (by kernel_rfl) (by kernel_rfl) (by kernel_rfl) (fun _ _ _ h => h) (Or.inr ⟨by rfl, rfl⟩) hHeld ?_
                  simp only [List.setIfInBounds_toArray, List.set_cons_zero, List.set_cons_succ]
                  refine wpAnyH_takeD (i := 8) (oi := { dst := some 52, op := Op.indexAddr 57 (Operand.tmp 50) (Operand.tmp 51), type := 0, pos := "ref.go:15", after := #[{ on := 6, ground := Ground.data }, { on := 7, ground := Ground.data }, { on := 5, ground := Ground.guard }], guard := some (5, true) }) (d := 52) (v := undef) rfl rfl (by kernel_rfl) (by kernel_rfl) (by kernel_rfl) (fun _ _ _ h => h) (Or.inr ⟨by rfl, rfl⟩) hHeld ?_
                  simp only [List.setIfInBounds_toArray, List.set_cons_zero, List.set_cons_succ]
                  refine wpAnyH_takeD (i := 9) (oi := { dst := some 53, op := Op.load 3 (Operand.tmp 52), type := 3, pos := "ref.go:15", after := #[{ on := 8, ground := Ground.data }, { on := 5, ground := Ground.guard }], guard := some (5, true) }) (d := 53) (v := undef) rfl rfl (by kernel_rfl) (by kernel_rfl) (by kernel_rfl) (fun _ _ _ h => h) (Or.inr ⟨by rfl, rfl⟩) hHeld ?_
                  simp only [List.setIfInBounds_toArray, List.set_cons_zero, List.set_cons_succ]
                  refine wpAnyH_takeD (i := 10) (oi := { dst := some 54, op := Op.fieldAddr 34 (Operand.tmp 3) 1, type := 0, pos := "ref.go:15", after := #[{ on := 5, ground := Ground.guard }], guard := some (5, true) }) (d := 54) (v := undef) rfl rfl (by kernel_rfl) (by kernel_rfl) (by kernel_rfl) (fun _ _ _ h => h) (Or.inr ⟨by rfl, rfl⟩) hHeld ?_
                  simp only [List.setIfInBounds_toArray, List.set_cons_zero, List.set_cons_succ]
                  refine wpAnyH_takeD (i := 11) (oi := { dst := some 55, op := Op.load 32 (Operand.tmp 54), type := 32, pos := "ref.go:15", after := #[{ on := 10, ground := Ground.data }, { on := 5, ground := Ground.guard }], guard := some (5, true) }) (d := 55) (v := undef) rfl rfl (by kernel_rfl) (by kernel_rfl) (by kernel_rfl) (fun _ _ _ h => h) (Or.inr ⟨by rfl, rfl⟩) hHeld ?_
                  simp only [List.setIfInBounds_toArray, List.set_cons_zero, List.set_cons_succ]
                  refine wpAnyH_takeD (i := 12) (oi := { dst := some 56, op := Op.move (Operand.tmp 9), type := 3, pos := "ref.go:15", after := #[{ on := 5, ground := Ground.guard }], guard := some (5, true) }) (d := 56) (v := undef) rfl rfl (by kernel_rfl) (by kernel_rfl) (by kernel_rfl) (fun _ _ _ h => h) (Or.inr ⟨by rfl, rfl⟩) hHeld ?_
                  simp only [List.setIfInBounds_toArray, List.set_cons_zero, List.set_cons_succ]
                  refine wpAnyH_takeD (i := 13) (oi := { dst := some 57, op := Op.indexAddr 32 (Operand.tmp 55) (Operand.tmp 56), type := 0, pos := "ref.go:15", after := #[{ on := 11, ground := Ground.data }, { on := 12, ground := Ground.data }, { on := 5, ground := Ground.guard }], guard := some (5, true) }) (d := 57) (v := undef) rfl rfl (by kernel_rfl) (by kernel_rfl) (by kernel_rfl) (fun _ _ _ h => h) (Or.inr ⟨by rfl, rfl⟩) hHeld ?_
                  simp only [List.setIfInBounds_toArray, List.set_cons_zero, List.set_cons_succ]
                  refine wpAnyH_takeD (i := 14) (oi := { dst := some 58, op := Op.fieldAddr 55 (Operand.tmp 57) 0, type := 0, pos := "ref.go:15", after := #[{ on := 13, ground := Ground.data }, { on := 5, ground := Ground.guard }], guard := some (5, true) }) (d := 58) (v := undef) rfl rfl (by kernel_rfl) (by kernel_rfl) (by kernel_rfl) (fun _ _ _ h => h) (Or.inr ⟨by rfl, rfl⟩) hHeld ?_
                  simp only [List.setIfInBounds_toArray, List.set_cons_zero, List.set_cons_succ]
                  refine wpAnyH_takeD (i := 15) (oi := { dst := some 59, op := Op.load 3 (Operand.tmp 58), type := 3, pos := "ref.go:15", after := #[{ on := 14, ground := Ground.data }, { on := 5, ground := Ground.guard }], guard := some (5, true) }) (d := 59) (v := undef) rfl rfl (by kernel_rfl) (by kernel_rfl) (by kernel_rfl) (fun _ _ _ h => h) (Or.inr ⟨by rfl, rfl⟩) hHeld ?_
                  simp only [List.setIfInBounds_toArray, List.set_cons_zero, List.set_cons_succ]
                  refine wpAnyH_takeD (i := 16) (oi := { dst := some 60, op := Op.binOp BinOp.eql 3 (Operand.tmp 53) (Operand.tmp 59) 3, type := 4, pos := "ref.go:15", after := #[{ on := 9, ground := Ground.data }, { on := 15, ground := Ground.data }, { on := 5, ground := Ground.guard }], guard := some (5, true) }) (d := 60) (v := undef) rfl rfl (by kernel_rfl) (by kernel_rfl) (by kernel_rfl) (fun _ _ _ h => h) (Or.inr ⟨by rfl, rfl⟩) hHeld ?_
                  simp only [List.setIfInBounds_toArray, List.set_cons_zero, List.set_cons_succ]
                  refine wpAnyH_takeD (i := 17) (oi := { dst := some 61, op := Op.pick (Operand.tmp 49) (Operand.tmp 60) (Operand.const (Value.bool false)), type := 4, pos := "ref.go:15", after := #[{ on := 5, ground := Ground.data }, { on := 16, ground := Ground.data }], guard := none }) (d := 61) (v := ?_) rfl rfl (by kernel_rfl) (by kernel_rfl) (by kernel_rfl) (fun _ _ _ h => h) (Or.inl ⟨by rfl, ?_⟩) hHeld ?_
                  rotate_left
                  · (intro w' hSw; (try dsimp only at hSw); go_simp; (try with_reducible rfl))
                  simp only [List.setIfInBounds_toArray, List.set_cons_zero, List.set_cons_succ]
                  refine wpAnyH_takeD (i := 18) (oi := { dst := some 62, op := Op.move (Operand.tmp 61), type := 4, pos := "ref.go:15", after := #[{ on := 17, ground := Ground.data }, { on := 5, ground := Ground.chain }], guard := none }) (d := 62) (v := ?_) rfl rfl (by kernel_rfl) (by kernel_rfl) (by kernel_rfl) (fun _ _ _ h => h) (Or.inl ⟨by rfl, ?_⟩) hHeld ?_
                  rotate_left
                  · (intro w' hSw; (try dsimp only at hSw); go_simp; (try with_reducible rfl))
                  simp only [List.setIfInBounds_toArray, List.set_cons_zero, List.set_cons_succ]
                  refine wpAnyH_takeD (i := 19) (oi := { dst := some 63, op := Op.move (Operand.tmp 7), type := 57, pos := "ref.go:15", after := #[{ on := 18, ground := Ground.guard }], guard := some (18, true) }) (d := 63) (v := undef) rfl rfl (by kernel_rfl) (by kernel_rfl) (by kernel_rfl) (fun _ _ _ h => h) (Or.inr ⟨by rfl, rfl⟩) hHeld ?_
                  simp only [List.setIfInBounds_toArray, List.set_cons_zero, List.set_cons_succ]
                  refine wpAnyH_takeD (i := 20) (oi := { dst := some 64, op := Op.move (Operand.tmp 11), type := 3, pos := "ref.go:15", after := #[{ on := 18, ground := Ground.guard }], guard := some (18, true) }) (d := 64) (v := undef) rfl rfl (by kernel_rfl) (by kernel_rfl) (by kernel_rfl) (fun _ _ _ h => h) (Or.inr ⟨by rfl, rfl⟩) hHeld ?_
                  simp only [List.setIfInBounds_toArray, List.set_cons_zero, List.set_cons_succ]
                  refine wpAnyH_takeD (i := 21) (oi := { dst := some 65, op := Op.binOp BinOp.add 3 (Operand.tmp 64) (Operand.const (Value.int IntKind.i64 1)) 3, type := 3, pos := "ref.go:15", after := #[{ on := 20, ground := Ground.data }, { on := 18, ground := Ground.guard }], guard := some (18, true) }) (d := 65) (v := undef) rfl rfl (by kernel_rfl) (by kernel_rfl) (by kernel_rfl) (fun _ _ _ h => h) (Or.inr ⟨by rfl, rfl⟩) hHeld ?_
                  simp only [List.setIfInBounds_toArray, List.set_cons_zero, List.set_cons_succ]
                  refine wpAnyH_takeD (i := 22) (oi := { dst := some 66, op := Op.indexAddr 57 (Operand.tmp 63) (Operand.tmp 65), type := 0, pos := "ref.go:15", after := #[{ on := 19, ground := Ground.data }, { on := 21, ground := Ground.data }, { on := 18, ground := Ground.guard }], guard := some (18, true) }) (d := 66) (v := undef) rfl rfl (by kernel_rfl) (by kernel_rfl) (by kernel_rfl) (fun _ _ _ h => h) (Or.inr ⟨by rfl, rfl⟩) hHeld ?_
                  simp only [List.setIfInBounds_toArray, List.set_cons_zero, List.set_cons_succ]
                  refine wpAnyH_takeD (i := 23) (oi := { dst := some 67, op := Op.load 3 (Operand.tmp 66), type := 3, pos := "ref.go:15", after := #[{ on := 22, ground := Ground.data }, { on := 18, ground := Ground.guard }], guard := some (18, true) }) (d := 67) (v := undef) rfl rfl (by kernel_rfl) (by kernel_rfl) (by kernel_rfl) (fun _ _ _ h => h) (Or.inr ⟨by rfl, rfl⟩) hHeld ?_
                  simp only [List.setIfInBounds_toArray, List.set_cons_zero, List.set_cons_succ]
                  refine wpAnyH_takeD (i := 24) (oi := { dst := some 68, op := Op.fieldAddr 34 (Operand.tmp 3) 1, type := 0, pos := "ref.go:15", after := #[{ on := 18, ground := Ground.guard }], guard := some (18, true) }) (d := 68) (v := undef) rfl rfl (by kernel_rfl) (by kernel_rfl) (by kernel_rfl) (fun _ _ _ h => h) (Or.inr ⟨by rfl, rfl⟩) hHeld ?_
                  simp only [List.setIfInBounds_toArray, List.set_cons_zero, List.set_cons_succ]
                  refine wpAnyH_takeD (i := 25) (oi := { dst := some 69, op := Op.load 32 (Operand.tmp 68), type := 32, pos := "ref.go:15", after := #[{ on := 24, ground := Ground.data }, { on := 18, ground := Ground.guard }], guard := some (18, true) }) (d := 69) (v := undef) rfl rfl (by kernel_rfl) (by kernel_rfl) (by kernel_rfl) (fun _ _ _ h => h) (Or.inr ⟨by rfl, rfl⟩) hHeld ?_
                  simp only [List.setIfInBounds_toArray, List.set_cons_zero, List.set_cons_succ]
                  refine wpAnyH_takeD (i := 26) (oi := { dst := some 70, op := Op.move (Operand.tmp 9), type := 3, pos := "ref.go:15", after := #[{ on := 18, ground := Ground.guard }], guard := some (18, true) }) (d := 70) (v := undef) rfl rfl (by kernel_rfl) (by kernel_rfl) (by kernel_rfl) (fun _ _ _ h => h) (Or.inr ⟨by rfl, rfl⟩) hHeld ?_
                  simp only [List.setIfInBounds_toArray, List.set_cons_zero, List.set_cons_succ]
                  refine wpAnyH_takeD (i := 27) (oi := { dst := some 71, op := Op.indexAddr 32 (Operand.tmp 69) (Operand.tmp 70), type := 0, pos := "ref.go:15", after := #[{ on := 25, ground := Ground.data }, { on := 26, ground := Ground.data }, { on := 18, ground := Ground.guard }], guard := some (18, true) }) (d := 71) (v := undef) rfl rfl (by kernel_rfl) (by kernel_rfl) (by kernel_rfl) (fun _ _ _ h => h) (Or.inr ⟨by rfl, rfl⟩) hHeld ?_
                  simp only [List.setIfInBounds_toArray, List.set_cons_zero, List.set_cons_succ]
                  refine wpAnyH_takeD (i := 28) (oi := { dst := some 72, op := Op.fieldAddr 55 (Operand.tmp 71) 1, type := 0, pos := "ref.go:15", after := #[{ on := 27, ground := Ground.data }, { on := 18, ground := Ground.guard }], guard := some (18, true) }) (d := 72) (v := undef) rfl rfl (by kernel_rfl) (by kernel_rfl) (by kernel_rfl) (fun _ _ _ h => h) (Or.inr ⟨by rfl, rfl⟩) hHeld ?_
                  simp only [List.setIfInBounds_toArray, List.set_cons_zero, List.set_cons_succ]
                  refine wpAnyH_takeD (i := 29) (oi := { dst := some 73, op := Op.load 3 (Operand.tmp 72), type := 3, pos := "ref.go:15", after := #[{ on := 28, ground := Ground.data }, { on := 18, ground := Ground.guard }], guard := some (18, true) }) (d := 73) (v := undef) rfl rfl (by kernel_rfl) (by kernel_rfl) (by kernel_rfl) (fun _ _ _ h => h) (Or.inr ⟨by rfl, rfl⟩) hHeld ?_
                  simp only [List.setIfInBounds_toArray, List.set_cons_zero, List.set_cons_succ]
                  refine wpAnyH_takeD (i := 30) (oi := { dst := some 74, op := Op.binOp BinOp.eql 3 (Operand.tmp 67) (Operand.tmp 73) 3, type := 4, pos := "ref.go:15", after := #[{ on := 23, ground := Ground.data }, { on := 29, ground := Ground.data }, { on := 18, ground := Ground.guard }], guard := some (18, true) }) (d := 74) (v := undef) rfl rfl (by kernel_rfl) (by kernel_rfl) (by kernel_rfl) (fun _ _ _ h => h) (Or.inr ⟨by rfl, rfl⟩) hHeld ?_
                  simp only [List.setIfInBounds_toArray, List.set_cons_zero, List.set_cons_succ]
                  refine wpAnyH_takeD (i := 31) (oi := { dst := some 75, op := Op.pick (Operand.tmp 62) (Operand.tmp 74) (Operand.const (Value.bool false)), type := 4, pos := "ref.go:15", after := #[{ on := 18, ground := Ground.data }, { on := 30, ground := Ground.data }], guard := none }) (d := 75) (v := ?_) rfl rfl (by kernel_rfl) (by kernel_rfl) (by kernel_rfl) (fun _ _ _ h => h) (Or.inl ⟨by rfl, ?_⟩) hHeld ?_
                  rotate_left
                  · (intro w' hSw; (try dsimp only at hSw); go_simp; (try with_reducible rfl))
                  simp only [List.setIfInBounds_toArray, List.set_cons_zero, List.set_cons_succ]
                  refine wpAnyH_done (by kernel_rfl) ?_ _
                  clear hHeld m0 m1 mb
                  replace l0 : W2.drew.cell? ⟨b1, o1 + i, none⟩ = some (.int .i64 x) := l0
                  replace HO : Hid (W2.drew.ownsRow W.heap.size 3 1 (.slice A3 O.length c3) O.length (O.map (Value.int .i64))) := Lib.hid (own_drew HO.out)
                  replace HBO := Lib.hid HBO.out.drew
                  generalize W2.drew = W2 at *
                  go_wp2_with (at_builtin; refine app_one W.heap.size 57 3 (.int .i64 0) 1 8 [_] 1 _ _ rfl rfl Tryz.underlying57 info_int5 rfl (by decide) _ _ _ rfl rfl rfl (by intro u hu; simp at hu; subst hu; rfl) HO.out (by omega) (by omega) HBO.out.size ?_)
                  intro v' w6 hown hg6
                  obtain ⟨A4, c4, rfl⟩ := own_slice hown
                  have hk6 : Below W.heap.size W2 w6 := Keep.below (Keep.of_grown (F := fun g => (Value.slice A3 O.length c3).ownBlock = some g) hg6 (fun g hg => hg)) HBO.out.size (fun x hx => own_base HO.out x hx)
                  have HO6 : Hid (w6.ownsRow W.heap.size 3 1 (.slice A4 (O ++ [x]).length c4) (O ++ [x]).length ((O ++ [x]).map (Value.int .i64))) := Lib.hid (by rw [List.length_append, List.map_append]; exact hown)
                  have HB6 := Lib.hid (HBO.out.trans hk6)
                  have HL6 : Hid ((O ++ [x]).length = O.length + 1) := Lib.hid (by simp)
                  clear hown hg6 hk6
                  go_wp2_with fail
                  go_roundg (gk - 1)
                  case measure => have := HI.out; omega
                  case rel => exact ⟨i + 1, O ++ [x], A4, c4, by have := HI.out; omega, by go_num, by rw [HL6.out], HO6.out, HB6.out, HREP.out, by rw [HL6.out]; omega⟩
              · have hie : i = L.length := by omega
                subst hie
                have HNL : Hid (O = rep a b (256 + (k : Int)) L) := Lib.hid (by have := HREP0.out; rw [List.drop_length] at this; simpa [rep] using this)
                have HNEW : Hid (REn W0 W2 (.slice A3 O.length c3) O) := Lib.hid ⟨⟨A3, c3, rfl, own_less HO.out HREN.out.bl.size⟩, HREN.out.bl.trans (HBO.out.mono HREN.out.bl.size)⟩
                have HSQ2 : Hid (seqE (MB.drop (k + 1)) (256 + ((k + 1 : Nat) : Int)) O = E0) := Lib.hid (by rw [HNL.out, ← HNX.out]; exact HSQ.out)
                clear hi
                go_wp2_with fail
                go_roundg (M.length - (k + 1))
                case measure => have := HK.out; omega
                case rel => exact ⟨k + 1, O, A3, c3, by have := HK.out; omega, by go_num, rfl, HNEW.out, HSQ2.out, Nat.le_trans hol HLS.out⟩
          · have HFIN : Hid (L = E0) := Lib.hid (by rw [← HSQ.out]; exact (HALL.out k L (.inr (by omega))).symm)
            go_wp2_with fail
            go_ret
            exact ⟨⟨_, rfl, by rw [HEE.out, ← HFIN.out]; exact ints_less HREN.out.row (Nat.le_of_lt HG0.out)⟩, HB.out.trans (HREN.out.bl.mono (Nat.le_of_lt HG0.out))⟩
        · have q1 : ¬ (k : Int) < (M.length : Int) := by omega
          have HFIN : Hid (L = E0) := Lib.hid (by rw [← HSQ.out]; exact (HALL.out k L (.inl (by omega))).symm)
          go_wp2_with fail
          go_ret
          exact ⟨⟨_, rfl, by rw [HEE.out, ← HFIN.out]; exact ints_less HREN.out.row (Nat.le_of_lt HG0.out)⟩, HB.out.trans (HREN.out.bl.mono (Nat.le_of_lt HG0.out))⟩
end
end Go.Proofs.YtbppaiejpgdbiaaGreat

/- Layer 5 (chain): the document's answer: All, Bytes. -/
namespace Go.Proofs.YtbppaiejpgdbiaaGreat
open Go.RowKit Go.Maps Go.WideMaps
set_option maxRecDepth 100000
set_option linter.unusedVariables false
set_option linter.unusedSimpArgs false

/-- the bytes of tokens -/
def catT (T : List Ent) (l : List Int) : List UInt8 := l.flatMap (bytesT T)
section
variable {w w' : World} {base : Nat} {T : List Ent} {vb vm : Value}
theorem rall_any (h : RefIs w base T vb vm) (hT : OkT T) (s : ByteArray) (hs : s.size ≤ 100000000) :
    Calls Tryz.prog 59 #[.agg #[vb, vm], .string s] w fun e w' => (∃ v, e = .returned v ∧ IntsIs w' w.heap.size v (encT T T.length s.data.toList)) ∧ Below w.heap.size w w' := by
  obtain ⟨A, c, rfl⟩ := own_slice h.row
  obtain ⟨A2, c2, hvm⟩ := own_slice h.mrg
  subst hvm
  have hb0 := (Below.refl w.heap.size w).alloc (Nat.le_refl _) (.cells #[.slice A T.length c, .slice A2 (mrgsT T).length c2] 34)
  have n0 := blk_cell (blk_new w (.cells #[.slice A T.length c, .slice A2 (mrgsT T).length c2] 34)) 0
  have n1 := blk_cell (blk_new w (.cells #[.slice A T.length c, .slice A2 (mrgsT T).length c2] 34)) 1
  simp only [List.getElem?_toArray, List.getElem?_cons_zero, List.getElem?_cons_succ] at n0 n1
  have HB := Lib.hid hb0
  have HC := Lib.hid (renc_any (h.below hb0 (Nat.le_refl _)) hT s hs (T.length : Int))
  clear hb0 h hT
  go_enter Tryz.func59, Tryz.ntmps59
  go_wp2_with fail
  refine HC.out.mono ?_
  rintro e w2 ⟨⟨v, rfl, hv⟩, hb⟩
  have HV := Lib.hid (ints_less hv HB.out.size)
  have HB2 := Lib.hid (HB.out.trans (hb.mono HB.out.size))
  clear hv hb HC
  go_wp2_with fail
  go_ret
  exact ⟨⟨v, rfl, HV.out⟩, HB2.out⟩
end
end Go.Proofs.YtbppaiejpgdbiaaGreat

/- Layer 5 (chain): the law's own table. -/
namespace Go.Proofs.YtbppaiejpgdbiaaGreat
open Go.RowKit Go.Maps Go.WideMaps
set_option maxRecDepth 100000
set_option linter.unusedVariables false
set_option linter.unusedSimpArgs false

theorem adds_take (l : List (Int × Int)) : ∀ (T T' : List Ent) (k : Nat) (hk : k < l.length) (Tk : List Ent), addsT T l = some T' → addsT T (l.take k) = some Tk → (addT Tk l[k].1 l[k].2).2.1 = 0 := by
  induction l with
  | nil => intro T T' k hk; exact absurd hk (by simp)
  | cons a l ih =>
    intro T T' k hk Tk h1 h2
    simp only [addsT] at h1
    split at h1
    · rename_i h0
      match k, hk, h2 with
      | 0, _, h2 => simp only [List.take_zero, addsT, Option.some.injEq] at h2; subst h2; exact h0
      | k + 1, hk, h2 =>
        simp only [List.take_succ_cons, addsT, if_pos h0] at h2
        exact ih _ _ k (by simpa using hk) _ h1 h2
    · cases h1
/-- both tables -/
structure BothIs (w w' : World) (T : List Ent) (tb : Nat) (sv : Value) (mb mp : Nat) (vb vm : Value) : Prop where
  tab : TabIs w' w.heap.size tb T sv mb mp
  ref : RefIs w' w.heap.size T vb vm
  bl : Below w.heap.size w w'
theorem BothIs.step {w w' w2 : World} {T : List Ent} {tb : Nat} {sv : Value} {mb mp : Nat} {vb vm : Value} (h : BothIs w w' T tb sv mb mp vb vm) (hb : Below w'.heap.size w' w2) : BothIs w w2 T tb sv mb mp vb vm :=
  ⟨h.tab.below hb (Nat.le_refl _), h.ref.below hb (Nat.le_refl _), h.bl.trans (hb.mono h.bl.size)⟩
theorem TabIs.less {w : World} {b base tb : Nat} {T : List Ent} {sv : Value} {mb mp : Nat} (h : TabIs w b tb T sv mb mp) (hle : base ≤ b) : TabIs w base tb T sv mb mp :=
  ⟨h.blk, own_less h.row hle, h.bys, h.prs, h.ne, by have := h.lt; omega⟩
end Go.Proofs.YtbppaiejpgdbiaaGreat

/- Layer 5 (chain): the document's examples. -/
namespace Go.Proofs.YtbppaiejpgdbiaaGreat
open Go.RowKit Go.Maps Go.WideMaps
set_option maxRecDepth 100000
set_option linter.unusedVariables false
set_option linter.unusedSimpArgs false

/-- New of merges that can be added -/
theorem new_ok {l : List (Int × Int)} {T : List Ent} (hT : addsT baseT l = some T) (A : Option Addr) (c : Nat) (w : World) (hl : Sl w A encM 2 l) (hlen : l.length < 9000000000000000000) :
    Calls Tryz.prog 21 #[.slice A l.length c] w fun e w' => ∃ tb sv mb mp, e = .returned (.tuple #[.pointer (some ⟨tb, 0, none⟩), .int .i64 (l.length : Nat), .int .i64 0]) ∧ OkT T ∧ TabIs w' w.heap.size tb T sv mb mp ∧ Below w.heap.size w w' := by
  refine (new_any l A c w hl hlen).mono ?_
  rintro e w' ⟨hb, (⟨T', tb, sv, mb, mp, rfl, ha, hok, ht⟩ | ⟨k, hk, T', ha, hok, he, rfl⟩)⟩
  · rw [hT] at ha
    injection ha with ha
    subst ha
    exact ⟨tb, sv, mb, mp, rfl, hok, ht, hb⟩
  · exact absurd (adds_take l baseT T k hk T' hT ha) he
/-- merges that were just built -/
theorem sl_mrg {w : World} {g : Nat} {l : List (Int × Int)} (h : w.heap[g]? = some (.cells (l.flatMap encM).toArray 55)) : Sl w (some ⟨g, 0, none⟩) encM 2 l := by
  intro i x hx
  refine ⟨g, 0, rfl, fun j v hv => ?_⟩
  rw [blk_cell h, List.getElem?_toArray, Nat.zero_add]
  have key : ∀ (l : List (Int × Int)) (i : Nat), l[i]? = some x → (l.flatMap encM)[i * 2 + j]? = some v := by
    intro l
    induction l with
    | nil => intro i h; simp at h
    | cons y ys ih =>
      intro i hx
      have hj : j < 2 := (List.getElem?_eq_some_iff.1 hv).1
      cases i with
      | zero =>
        simp at hx
        subst hx
        rw [List.flatMap_cons, List.getElem?_append_left (by show 0 * 2 + j < 2; omega)]
        simpa using hv
      | succ i =>
        simp at hx
        rw [List.flatMap_cons, List.getElem?_append_right (by show 2 ≤ _; omega)]
        have := ih i hx
        rw [show (i + 1) * 2 + j - (encM y).length = i * 2 + j by show (i + 1) * 2 + j - 2 = _; omega]
        exact this
  exact key l i hx
end Go.Proofs.YtbppaiejpgdbiaaGreat

/- Layer 5 (chain): of what is made: its bytes, what stands side by side, where it may be cut: the plain law. -/
namespace Go.Proofs.YtbppaiejpgdbiaaGreat
set_option linter.unusedVariables false
set_option linter.unusedSimpArgs false

/-! what stands side by side -/
/-! the bytes -/
theorem rep_cat (T : List Ent) (a b c : Int) (h : bytesT T c = bytesT T a ++ bytesT T b) : ∀ l : List Int, catT T (rep a b c l) = catT T l
  | [] => rfl
  | [x] => rfl
  | x :: y :: l => by
    rw [rep]
    split
    · rename_i e
      have ih := rep_cat T a b c h l
      unfold catT at ih ⊢
      rw [List.flatMap_cons, List.flatMap_cons, List.flatMap_cons, ih, h, e.1, e.2, List.append_assoc]
    · have ih := rep_cat T a b c h (y :: l)
      unfold catT at ih ⊢
      rw [List.flatMap_cons, ih]
      simp
theorem seqE_cat (T : List Ent) : ∀ (M : List (Int × Int)) (c : Int) (l : List Int), (∀ (k : Nat) m, M[k]? = some m → bytesT T (c + k) = bytesT T m.1 ++ bytesT T m.2) → catT T (seqE M c l) = catT T l
  | [], _, _, _ => rfl
  | m :: M, c, l, h => by
    rw [seqE, seqE_cat T M (c + 1) _ (fun k x hx => by have := h (k + 1) x (by simpa using hx); rw [← this]; congr 1; omega)]
    exact rep_cat T _ _ _ (by have := h 0 m rfl; simpa using this) l
theorem rep_all (p : Int → Prop) (a b c : Int) (hc : p c) : ∀ l : List Int, (∀ x ∈ l, p x) → ∀ x ∈ rep a b c l, p x
  | [], h => h
  | [x], h => h
  | x :: y :: l, h => by
    rw [rep]
    split
    · intro z hz
      rcases List.mem_cons.1 hz with rfl | hz
      · exact hc
      · exact rep_all p a b c hc l (fun u hu => h u (by simp [hu])) z hz
    · intro z hz
      rcases List.mem_cons.1 hz with rfl | hz
      · exact h _ (by simp)
      · exact rep_all p a b c hc (y :: l) (fun u hu => h u (List.mem_cons_of_mem _ hu)) z hz
theorem seqE_all (p : Int → Prop) : ∀ (M : List (Int × Int)) (c : Int) (l : List Int), (∀ k : Nat, k < M.length → p (c + k)) → (∀ x ∈ l, p x) → ∀ x ∈ seqE M c l, p x
  | [], _, _, _, h => h
  | m :: M, c, l, hM, h => by
    rw [seqE]
    refine seqE_all p M (c + 1) _ (fun k hk => ?_) (rep_all p _ _ _ ?_ l h)
    · have := hM (k + 1) (by simpa using hk)
      rw [show c + 1 + (k : Int) = c + ((k + 1 : Nat) : Int) by omega]
      exact this
    · have := hM 0 (by simp)
      simpa using this
theorem mrgsB_at {T : List Ent} (hT : OkT T) {bel : Int} {k : Nat} {m : Int × Int} (h : (mrgsB T bel)[k]? = some m) : hasT T (256 + (k : Int)) = true ∧ bytesT T (256 + (k : Int)) = bytesT T m.1 ++ bytesT T m.2 := by
  unfold mrgsB at h
  rw [List.getElem?_take] at h
  by_cases hlt : k < (bel - 256).toNat
  · rw [if_pos hlt] at h
    obtain ⟨h1, h2⟩ := mrgs_at h
    obtain ⟨q1, _, _, q4, q5, _⟩ := made_all hT (i := 256 + k) (by omega) h1
    have e : parT T ((256 + k : Nat) : Int) = m := by unfold parT; rw [if_pos q1]; exact h2
    rw [e] at q5
    rw [show (256 : Int) + (k : Int) = ((256 + k : Nat) : Int) by omega]
    exact ⟨q4, q5⟩
  · rw [if_neg hlt] at h; simp at h
theorem byte_has {T : List Ent} (hT : OkT T) {i : Nat} (hi : i < 256) : hasT T (i : Int) = true ∧ bytesT T (i : Int) = [UInt8.ofNat i] := by
  have h2 := okT_256 hT
  have hh : hasT T (i : Int) = true := by simp [hasT]; omega
  refine ⟨hh, ?_⟩
  unfold bytesT
  rw [if_pos hh, base_ent hT hi]
theorem bysI_cat {T : List Ent} (hT : OkT T) (s : List UInt8) : catT T (bysI s) = s := by
  induction s with
  | nil => rfl
  | cons x s ih =>
    have e : catT T (bysI (x :: s)) = bytesT T (x.toNat : Int) ++ catT T (bysI s) := rfl
    rw [e, ih, (byte_has hT x.toNat_lt).2]
    simp
theorem bysI_has {T : List Ent} (hT : OkT T) (s : List UInt8) : ∀ x ∈ bysI s, hasT T x = true := by
  intro x hx
  unfold bysI at hx
  obtain ⟨c, _, rfl⟩ := List.mem_map.1 hx
  exact (byte_has hT c.toNat_lt).1
/-- the tokens' bytes are the bytes again -/
theorem encT_cat {T : List Ent} (hT : OkT T) (bel : Int) (s : List UInt8) : catT T (encT T bel s) = s := by
  unfold encT
  rw [seqE_cat T _ _ _ (fun k m h => (mrgsB_at hT h).2), bysI_cat hT]
theorem encT_has {T : List Ent} (hT : OkT T) (bel : Int) (s : List UInt8) : ∀ x ∈ encT T bel s, hasT T x = true := by
  unfold encT
  refine seqE_all (fun x => hasT T x = true) _ _ _ (fun k hk => (mrgsB_at hT (List.getElem?_eq_getElem hk)).1) (bysI_has hT s)
/-! where it may be cut -/
theorem rep_split (a b c : Int) : ∀ (l W1 W2 : List Int), rep a b c l = W1 ++ W2 → ∃ U1 U2, l = U1 ++ U2 ∧ W1 = rep a b c U1 ∧ W2 = rep a b c U2
  | l, [], W2, h => ⟨[], l, rfl, rfl, h.symm⟩
  | [], w :: W1, W2, h => by simp [rep] at h
  | [x], w :: W1, W2, h => by
    simp [rep] at h
    obtain ⟨rfl, rfl, rfl⟩ := h
    exact ⟨[x], [], rfl, rfl, rfl⟩
  | x :: y :: l, w :: W1, W2, h => by
    rw [rep] at h
    split at h
    · rename_i e
      simp at h
      obtain ⟨rfl, h⟩ := h
      obtain ⟨U1, U2, rfl, rfl, rfl⟩ := rep_split a b c l W1 W2 h
      exact ⟨x :: y :: U1, U2, rfl, by rw [rep, if_pos e], rfl⟩
    · rename_i e
      simp at h
      obtain ⟨rfl, h⟩ := h
      obtain ⟨U1, U2, h1, rfl, rfl⟩ := rep_split a b c (y :: l) W1 W2 h
      refine ⟨x :: U1, U2, by rw [List.cons_append, ← h1], ?_, rfl⟩
      rcases U1 with _ | ⟨z, U1⟩
      · rfl
      · simp at h1
        rw [← h1.1, rep, if_neg e]
theorem seqE_split : ∀ (M : List (Int × Int)) (c : Int) (l W1 W2 : List Int), seqE M c l = W1 ++ W2 → ∃ U1 U2, l = U1 ++ U2 ∧ W1 = seqE M c U1 ∧ W2 = seqE M c U2
  | [], _, l, W1, W2, h => ⟨W1, W2, h, rfl, rfl⟩
  | m :: M, c, l, W1, W2, h => by
    obtain ⟨V1, V2, h1, rfl, rfl⟩ := seqE_split M (c + 1) _ W1 W2 h
    obtain ⟨U1, U2, rfl, rfl, rfl⟩ := rep_split _ _ _ l V1 V2 h1
    exact ⟨U1, U2, rfl, rfl, rfl⟩
theorem bysI_len (s : List UInt8) : (bysI s).length = s.length := by unfold bysI; rw [List.length_map]
theorem bysI_append (a b : List UInt8) : bysI (a ++ b) = bysI a ++ bysI b := by unfold bysI; rw [List.map_append]
theorem cat_len_bys {T : List Ent} (hT : OkT T) (U : List Int) (s : List UInt8) (h : ∀ x ∈ U, x ∈ bysI s) : (catT T U).length = U.length := by
  induction U with
  | nil => rfl
  | cons x U ih =>
    have hx := h x (by simp)
    unfold bysI at hx
    obtain ⟨c, _, rfl⟩ := List.mem_map.1 hx
    have e : catT T ((c.toNat : Int) :: U) = bytesT T (c.toNat : Int) ++ catT T U := rfl
    rw [e, List.length_append, ih (fun y hy => h y (by simp [hy])), (byte_has hT c.toNat_lt).2]
    simp; omega
/-- where nothing goes across, both sides are made alone -/
theorem encT_cut {T : List Ent} (hT : OkT T) (bel : Int) (a b : List UInt8) {W1 W2 : List Int} (h : encT T bel (a ++ b) = W1 ++ W2) (hl : (catT T W1).length = a.length) : W1 = encT T bel a ∧ W2 = encT T bel b := by
  unfold encT at h ⊢
  obtain ⟨U1, U2, h1, h2, h3⟩ := seqE_split _ _ _ _ _ h
  have hmem : ∀ x ∈ U1, x ∈ bysI (a ++ b) := fun x hx => by rw [h1]; simp [hx]
  have hc : (catT T W1).length = U1.length := by
    rw [h2, seqE_cat T _ _ _ (fun k m h => (mrgsB_at hT h).2)]
    exact cat_len_bys hT U1 (a ++ b) hmem
  rw [bysI_append] at h1
  obtain ⟨e1, e2⟩ := List.append_inj h1 (by rw [bysI_len]; omega)
  rw [e1, e2]
  exact ⟨h2, h3⟩
end Go.Proofs.YtbppaiejpgdbiaaGreat

/- Layer 7 (grow): a spec: Great, Load, the document's Load. -/
namespace Go.Proofs.YtbppaiejpgdbiaaGreat
open Go.RowKit Go.Maps Go.WideMaps
set_option maxRecDepth 100000
set_option linter.unusedVariables false
set_option linter.unusedSimpArgs false

/-- a spec as a value -/
def specV (rk : Bool) (AM : Option Addr) (nM cM : Nat) (AT : Option Addr) (nT cT : Nat) (AX : Option Addr) (nX cX : Nat) (AC : Option Addr) (nC cC : Nat) (AJ : Option Addr) (nJ cJ : Nat) : Value :=
  .agg #[.bool rk, .slice AM nM cM, .slice AT nT cT, .slice AX nX cX, .slice AC nC cC, .slice AJ nJ cJ]
section
variable {w : World} {rk : Bool} {AM : Option Addr} {nM cM : Nat} {AT : Option Addr} {nT cT : Nat} {AX : Option Addr} {nX cX : Nat} {AC : Option Addr} {nC cC : Nat} {AJ : Option Addr} {nJ cJ : Nat}
theorem load_false {R : Value → Value → Value → World → Prop} (hR : rk = false) (h : ∀ W, Below w.heap.size w W → Calls Tryz.prog 21 #[.slice AM nM cM] W fun e w' => ∃ x y z, e = .returned (.tuple #[x, y, z]) ∧ R x y z w') :
    Calls Tryz.prog 87 #[specV rk AM nM cM AT nT cT AX nX cX AC nC cC AJ nJ cJ] w fun e w' => ∃ x y z, e = .returned (.tuple #[x, y, z]) ∧ R x y z w' := by
  subst hR
  have HI := Lib.hid (h _ ((Below.refl w.heap.size w).alloc (Nat.le_refl _) (.cells #[.bool false, .slice AM nM cM, .slice AT nT cT, .slice AX nX cX, .slice AC nC cC, .slice AJ nJ cJ] 48)))
  clear h
  unfold specV
  go_enter Tryz.func87, Tryz.ntmps87
  go_wp2_with fail
  refine HI.out.mono ?_
  rintro e w1 ⟨x, y, z, rfl, hr⟩
  have HRR := Lib.hid hr
  clear hr
  go_wp2_with fail
  exact bodyPost_ret (results_tmp3 rfl _ _ _) rfl ⟨x, y, z, rfl, HRR.out⟩
end
end Go.Proofs.YtbppaiejpgdbiaaGreat

/- Layer 6 (spec): Right. PRINTED by tools/spec_right.py. -/
namespace Go.Proofs.YtbppaiejpgdbiaaGreat
open Go.RowKit Go.Maps Go.WideMaps
set_option maxRecDepth 100000
set_option linter.unusedVariables false
set_option linter.unusedSimpArgs false
/-- a spec -/
structure SpecP where
  rk : Bool
  ms : List (Int × Int)
  ts : List (List UInt8)
  xs : List (Int × List UInt8)
  cs : List Cls
  js : List Jn
structure SpecAt (w : World) (s : SpecP) (AM AT AX AC AJ : Option Addr) : Prop where
  ms : Sl w AM encM 2 s.ms
  ts : Sl1 w AT strV s.ts
  xs : Sl w AX encIS 2 s.xs
  cs : Sl w AC encCls 3 s.cs
  js : Sl w AJ encJn 2 s.js
  len : s.ms.length < 9000000000000000000 ∧ s.ts.length < 9000000000000000000 ∧ s.xs.length < 9000000000000000000 ∧ s.cs.length < 9000000000000000000 ∧ s.js.length < 9000000000000000000
theorem SpecAt.below {w w' : World} {s : SpecP} {AM AT AX AC AJ : Option Addr} (h : SpecAt w s AM AT AX AC AJ) {B : Nat} (hb : Below B w w') (hB : w.heap.size ≤ B) : SpecAt w' s AM AT AX AC AJ :=
  ⟨h.ms.below hb hB, h.ts.below hb hB, h.xs.below hb hB, h.cs.below hb hB, h.js.below hb hB, h.len⟩
def headR (s : SpecP) : Bool := if s.rk = true then decide (s.ms.length = 0) else decide (s.ts.length = 0)
def rightS (s : SpecP) : Bool := headR s && (decide ((s.ms.length : Int) ≤ 744) && s.ms.all mrgR) && (decide ((s.ts.length : Int) ≤ 744) && s.ts.all txtL) && (decide ((s.xs.length : Int) ≤ 32) && s.xs.all splL) && (decide ((s.cs.length : Int) ≤ 64) && s.cs.all clsR) && (decide ((s.js.length : Int) ≤ 64) && s.js.all jnR)
def specW (s : SpecP) (AM AT AX AC AJ : Option Addr) (cM cT cX cC cJ : Nat) : Value := specV s.rk AM s.ms.length cM AT s.ts.length cT AX s.xs.length cX AC s.cs.length cC AJ s.js.length cJ
section
variable {w : World} {s : SpecP} {AM AT AX AC AJ : Option Addr} {cM cT cX cC cJ nM nT nX nC nJ : Nat}
theorem right_bad_t (hd : 0 < nM) : Calls Tryz.prog 47 #[specV true AM nM cM AT nT cT AX nX cX AC nC cC AJ nJ cJ] w fun e w' => e = .returned (.bool false) ∧ Below w.heap.size w w' := by
  unfold specV
  have HB0 := Lib.hid ((Below.refl w.heap.size w).alloc (Nat.le_refl _) (.cells #[.bool true, .slice AM nM cM, .slice AT nT cT, .slice AX nX cX, .slice AC nC cC, .slice AJ nJ cJ] 48))
  have hd2 : decide (0 < nM) = true := decide_eq_true hd
  go_enter Tryz.func47, Tryz.ntmps47
  go_wp2_with fail
  go_ret
  exact ⟨rfl, HB0.out⟩
theorem right_bad_f (hd : 0 < nT) : Calls Tryz.prog 47 #[specV false AM nM cM AT nT cT AX nX cX AC nC cC AJ nJ cJ] w fun e w' => e = .returned (.bool false) ∧ Below w.heap.size w w' := by
  unfold specV
  have HB0 := Lib.hid ((Below.refl w.heap.size w).alloc (Nat.le_refl _) (.cells #[.bool false, .slice AM nM cM, .slice AT nT cT, .slice AX nX cX, .slice AC nC cC, .slice AJ nJ cJ] 48))
  have hd2 : decide (0 < nT) = true := decide_eq_true hd
  go_enter Tryz.func47, Tryz.ntmps47
  go_wp2_with fail
  go_ret
  exact ⟨rfl, HB0.out⟩
set_option maxHeartbeats 1000000 in
theorem right_t (q0 q1 q2 q3 q4 : Bool)
    (h0 : ∀ V, Below w.heap.size w V → Calls Tryz.prog 77 #[.slice AM 0 cM, .int .i64 744, .func (.func 78) #[] #[]] V fun e w' => e = .returned (.bool q0) ∧ Below V.heap.size V w')
    (h1 : ∀ V, Below w.heap.size w V → Calls Tryz.prog 79 #[.slice AT nT cT, .int .i64 744, .func (.func 80) #[] #[]] V fun e w' => e = .returned (.bool q1) ∧ Below V.heap.size V w')
    (h2 : ∀ V, Below w.heap.size w V → Calls Tryz.prog 81 #[.slice AX nX cX, .int .i64 32, .func (.func 82) #[] #[]] V fun e w' => e = .returned (.bool q2) ∧ Below V.heap.size V w')
    (h3 : ∀ V, Below w.heap.size w V → Calls Tryz.prog 83 #[.slice AC nC cC, .int .i64 64, .func (.func 84) #[] #[]] V fun e w' => e = .returned (.bool q3) ∧ Below V.heap.size V w')
    (h4 : ∀ V, Below w.heap.size w V → Calls Tryz.prog 85 #[.slice AJ nJ cJ, .int .i64 64, .func (.func 86) #[] #[]] V fun e w' => e = .returned (.bool q4) ∧ Below V.heap.size V w')
    : Calls Tryz.prog 47 #[specV true AM 0 cM AT nT cT AX nX cX AC nC cC AJ nJ cJ] w fun e w' => e = .returned (.bool (q0 && q1 && q2 && q3 && q4)) ∧ Below w.heap.size w w' := by
  unfold specV
  have H0 := Lib.hid h0
  have H1 := Lib.hid h1
  have H2 := Lib.hid h2
  have H3 := Lib.hid h3
  have H4 := Lib.hid h4
  have HB0 := Lib.hid ((Below.refl w.heap.size w).alloc (Nat.le_refl _) (.cells #[.bool true, .slice AM 0 cM, .slice AT nT cT, .slice AX nX cX, .slice AC nC cC, .slice AJ nJ cJ] 48))
  have HO0 := Lib.hid (blk_new w (.cells #[.bool true, .slice AM 0 cM, .slice AT nT cT, .slice AX nX cX, .slice AC nC cC, .slice AJ nJ cJ] 48))
  clear h0 h1 h2 h3 h4
  rcases q0 with _ | _
  · go_enter Tryz.func47, Tryz.ntmps47
    go_wp2_with (go_at_call 77; (refine (H0.out _ HB0.out).mono ?_); (rintro e V1 ⟨rfl, hb⟩); (have HB1 := Lib.hid (HB0.out.trans (hb.mono HB0.out.size))); (have HO1 := Lib.hid (blk_below hb (blk_lt HO0.out) HO0.out)); (have c1 := blk_cell HO1.out 2); (simp only [List.getElem?_toArray, List.getElem?_cons_zero, List.getElem?_cons_succ] at c1); (clear hb))
    go_ret
    exact ⟨rfl, HB1.out⟩
  ·
    rcases q1 with _ | _
    · go_enter Tryz.func47, Tryz.ntmps47
      go_wp2_with (first | (go_at_call 77; (refine (H0.out _ HB0.out).mono ?_); (rintro e V1 ⟨rfl, hb⟩); (have HB1 := Lib.hid (HB0.out.trans (hb.mono HB0.out.size))); (have HO1 := Lib.hid (blk_below hb (blk_lt HO0.out) HO0.out)); (have c1 := blk_cell HO1.out 2); (simp only [List.getElem?_toArray, List.getElem?_cons_zero, List.getElem?_cons_succ] at c1); (clear hb)) | (go_at_call 79; (refine (H1.out _ HB1.out).mono ?_); (rintro e V2 ⟨rfl, hb⟩); (have HB2 := Lib.hid (HB1.out.trans (hb.mono HB1.out.size))); (have HO2 := Lib.hid (blk_below hb (blk_lt HO1.out) HO1.out)); (have c2 := blk_cell HO2.out 3); (simp only [List.getElem?_toArray, List.getElem?_cons_zero, List.getElem?_cons_succ] at c2); (clear hb)))
      go_ret
      exact ⟨rfl, HB2.out⟩
    ·
      rcases q2 with _ | _
      · go_enter Tryz.func47, Tryz.ntmps47
        go_wp2_with (first | (go_at_call 77; (refine (H0.out _ HB0.out).mono ?_); (rintro e V1 ⟨rfl, hb⟩); (have HB1 := Lib.hid (HB0.out.trans (hb.mono HB0.out.size))); (have HO1 := Lib.hid (blk_below hb (blk_lt HO0.out) HO0.out)); (have c1 := blk_cell HO1.out 2); (simp only [List.getElem?_toArray, List.getElem?_cons_zero, List.getElem?_cons_succ] at c1); (clear hb)) | (go_at_call 79; (refine (H1.out _ HB1.out).mono ?_); (rintro e V2 ⟨rfl, hb⟩); (have HB2 := Lib.hid (HB1.out.trans (hb.mono HB1.out.size))); (have HO2 := Lib.hid (blk_below hb (blk_lt HO1.out) HO1.out)); (have c2 := blk_cell HO2.out 3); (simp only [List.getElem?_toArray, List.getElem?_cons_zero, List.getElem?_cons_succ] at c2); (clear hb)) | (go_at_call 81; (refine (H2.out _ HB2.out).mono ?_); (rintro e V3 ⟨rfl, hb⟩); (have HB3 := Lib.hid (HB2.out.trans (hb.mono HB2.out.size))); (have HO3 := Lib.hid (blk_below hb (blk_lt HO2.out) HO2.out)); (have c3 := blk_cell HO3.out 4); (simp only [List.getElem?_toArray, List.getElem?_cons_zero, List.getElem?_cons_succ] at c3); (clear hb)))
        go_ret
        exact ⟨rfl, HB3.out⟩
      ·
        rcases q3 with _ | _
        · go_enter Tryz.func47, Tryz.ntmps47
          go_wp2_with (first | (go_at_call 77; (refine (H0.out _ HB0.out).mono ?_); (rintro e V1 ⟨rfl, hb⟩); (have HB1 := Lib.hid (HB0.out.trans (hb.mono HB0.out.size))); (have HO1 := Lib.hid (blk_below hb (blk_lt HO0.out) HO0.out)); (have c1 := blk_cell HO1.out 2); (simp only [List.getElem?_toArray, List.getElem?_cons_zero, List.getElem?_cons_succ] at c1); (clear hb)) | (go_at_call 79; (refine (H1.out _ HB1.out).mono ?_); (rintro e V2 ⟨rfl, hb⟩); (have HB2 := Lib.hid (HB1.out.trans (hb.mono HB1.out.size))); (have HO2 := Lib.hid (blk_below hb (blk_lt HO1.out) HO1.out)); (have c2 := blk_cell HO2.out 3); (simp only [List.getElem?_toArray, List.getElem?_cons_zero, List.getElem?_cons_succ] at c2); (clear hb)) | (go_at_call 81; (refine (H2.out _ HB2.out).mono ?_); (rintro e V3 ⟨rfl, hb⟩); (have HB3 := Lib.hid (HB2.out.trans (hb.mono HB2.out.size))); (have HO3 := Lib.hid (blk_below hb (blk_lt HO2.out) HO2.out)); (have c3 := blk_cell HO3.out 4); (simp only [List.getElem?_toArray, List.getElem?_cons_zero, List.getElem?_cons_succ] at c3); (clear hb)) | (go_at_call 83; (refine (H3.out _ HB3.out).mono ?_); (rintro e V4 ⟨rfl, hb⟩); (have HB4 := Lib.hid (HB3.out.trans (hb.mono HB3.out.size))); (have HO4 := Lib.hid (blk_below hb (blk_lt HO3.out) HO3.out)); (have c4 := blk_cell HO4.out 5); (simp only [List.getElem?_toArray, List.getElem?_cons_zero, List.getElem?_cons_succ] at c4); (clear hb)))
          go_ret
          exact ⟨rfl, HB4.out⟩
        ·
          rcases q4 with _ | _
          · go_enter Tryz.func47, Tryz.ntmps47
            go_wp2_with (first | (go_at_call 77; (refine (H0.out _ HB0.out).mono ?_); (rintro e V1 ⟨rfl, hb⟩); (have HB1 := Lib.hid (HB0.out.trans (hb.mono HB0.out.size))); (have HO1 := Lib.hid (blk_below hb (blk_lt HO0.out) HO0.out)); (have c1 := blk_cell HO1.out 2); (simp only [List.getElem?_toArray, List.getElem?_cons_zero, List.getElem?_cons_succ] at c1); (clear hb)) | (go_at_call 79; (refine (H1.out _ HB1.out).mono ?_); (rintro e V2 ⟨rfl, hb⟩); (have HB2 := Lib.hid (HB1.out.trans (hb.mono HB1.out.size))); (have HO2 := Lib.hid (blk_below hb (blk_lt HO1.out) HO1.out)); (have c2 := blk_cell HO2.out 3); (simp only [List.getElem?_toArray, List.getElem?_cons_zero, List.getElem?_cons_succ] at c2); (clear hb)) | (go_at_call 81; (refine (H2.out _ HB2.out).mono ?_); (rintro e V3 ⟨rfl, hb⟩); (have HB3 := Lib.hid (HB2.out.trans (hb.mono HB2.out.size))); (have HO3 := Lib.hid (blk_below hb (blk_lt HO2.out) HO2.out)); (have c3 := blk_cell HO3.out 4); (simp only [List.getElem?_toArray, List.getElem?_cons_zero, List.getElem?_cons_succ] at c3); (clear hb)) | (go_at_call 83; (refine (H3.out _ HB3.out).mono ?_); (rintro e V4 ⟨rfl, hb⟩); (have HB4 := Lib.hid (HB3.out.trans (hb.mono HB3.out.size))); (have HO4 := Lib.hid (blk_below hb (blk_lt HO3.out) HO3.out)); (have c4 := blk_cell HO4.out 5); (simp only [List.getElem?_toArray, List.getElem?_cons_zero, List.getElem?_cons_succ] at c4); (clear hb)) | (go_at_call 85; (refine (H4.out _ HB4.out).mono ?_); (rintro e V5 ⟨rfl, hb⟩); (have HB5 := Lib.hid (HB4.out.trans (hb.mono HB4.out.size))); (clear hb)))
            go_ret
            exact ⟨rfl, HB5.out⟩
          ·
            go_enter Tryz.func47, Tryz.ntmps47
            go_wp2_with (first | (go_at_call 77; (refine (H0.out _ HB0.out).mono ?_); (rintro e V1 ⟨rfl, hb⟩); (have HB1 := Lib.hid (HB0.out.trans (hb.mono HB0.out.size))); (have HO1 := Lib.hid (blk_below hb (blk_lt HO0.out) HO0.out)); (have c1 := blk_cell HO1.out 2); (simp only [List.getElem?_toArray, List.getElem?_cons_zero, List.getElem?_cons_succ] at c1); (clear hb)) | (go_at_call 79; (refine (H1.out _ HB1.out).mono ?_); (rintro e V2 ⟨rfl, hb⟩); (have HB2 := Lib.hid (HB1.out.trans (hb.mono HB1.out.size))); (have HO2 := Lib.hid (blk_below hb (blk_lt HO1.out) HO1.out)); (have c2 := blk_cell HO2.out 3); (simp only [List.getElem?_toArray, List.getElem?_cons_zero, List.getElem?_cons_succ] at c2); (clear hb)) | (go_at_call 81; (refine (H2.out _ HB2.out).mono ?_); (rintro e V3 ⟨rfl, hb⟩); (have HB3 := Lib.hid (HB2.out.trans (hb.mono HB2.out.size))); (have HO3 := Lib.hid (blk_below hb (blk_lt HO2.out) HO2.out)); (have c3 := blk_cell HO3.out 4); (simp only [List.getElem?_toArray, List.getElem?_cons_zero, List.getElem?_cons_succ] at c3); (clear hb)) | (go_at_call 83; (refine (H3.out _ HB3.out).mono ?_); (rintro e V4 ⟨rfl, hb⟩); (have HB4 := Lib.hid (HB3.out.trans (hb.mono HB3.out.size))); (have HO4 := Lib.hid (blk_below hb (blk_lt HO3.out) HO3.out)); (have c4 := blk_cell HO4.out 5); (simp only [List.getElem?_toArray, List.getElem?_cons_zero, List.getElem?_cons_succ] at c4); (clear hb)) | (go_at_call 85; (refine (H4.out _ HB4.out).mono ?_); (rintro e V5 ⟨rfl, hb⟩); (have HB5 := Lib.hid (HB4.out.trans (hb.mono HB4.out.size))); (clear hb)))
            go_ret
            exact ⟨rfl, HB5.out⟩
set_option maxHeartbeats 1000000 in
theorem right_f (q0 q1 q2 q3 q4 : Bool)
    (h0 : ∀ V, Below w.heap.size w V → Calls Tryz.prog 77 #[.slice AM nM cM, .int .i64 744, .func (.func 78) #[] #[]] V fun e w' => e = .returned (.bool q0) ∧ Below V.heap.size V w')
    (h1 : ∀ V, Below w.heap.size w V → Calls Tryz.prog 79 #[.slice AT 0 cT, .int .i64 744, .func (.func 80) #[] #[]] V fun e w' => e = .returned (.bool q1) ∧ Below V.heap.size V w')
    (h2 : ∀ V, Below w.heap.size w V → Calls Tryz.prog 81 #[.slice AX nX cX, .int .i64 32, .func (.func 82) #[] #[]] V fun e w' => e = .returned (.bool q2) ∧ Below V.heap.size V w')
    (h3 : ∀ V, Below w.heap.size w V → Calls Tryz.prog 83 #[.slice AC nC cC, .int .i64 64, .func (.func 84) #[] #[]] V fun e w' => e = .returned (.bool q3) ∧ Below V.heap.size V w')
    (h4 : ∀ V, Below w.heap.size w V → Calls Tryz.prog 85 #[.slice AJ nJ cJ, .int .i64 64, .func (.func 86) #[] #[]] V fun e w' => e = .returned (.bool q4) ∧ Below V.heap.size V w')
    : Calls Tryz.prog 47 #[specV false AM nM cM AT 0 cT AX nX cX AC nC cC AJ nJ cJ] w fun e w' => e = .returned (.bool (q0 && q1 && q2 && q3 && q4)) ∧ Below w.heap.size w w' := by
  unfold specV
  have H0 := Lib.hid h0
  have H1 := Lib.hid h1
  have H2 := Lib.hid h2
  have H3 := Lib.hid h3
  have H4 := Lib.hid h4
  have HB0 := Lib.hid ((Below.refl w.heap.size w).alloc (Nat.le_refl _) (.cells #[.bool false, .slice AM nM cM, .slice AT 0 cT, .slice AX nX cX, .slice AC nC cC, .slice AJ nJ cJ] 48))
  have HO0 := Lib.hid (blk_new w (.cells #[.bool false, .slice AM nM cM, .slice AT 0 cT, .slice AX nX cX, .slice AC nC cC, .slice AJ nJ cJ] 48))
  clear h0 h1 h2 h3 h4
  rcases q0 with _ | _
  · go_enter Tryz.func47, Tryz.ntmps47
    go_wp2_with (go_at_call 77; (refine (H0.out _ HB0.out).mono ?_); (rintro e V1 ⟨rfl, hb⟩); (have HB1 := Lib.hid (HB0.out.trans (hb.mono HB0.out.size))); (have HO1 := Lib.hid (blk_below hb (blk_lt HO0.out) HO0.out)); (have c1 := blk_cell HO1.out 2); (simp only [List.getElem?_toArray, List.getElem?_cons_zero, List.getElem?_cons_succ] at c1); (clear hb))
    go_ret
    exact ⟨rfl, HB1.out⟩
  ·
    rcases q1 with _ | _
    · go_enter Tryz.func47, Tryz.ntmps47
      go_wp2_with (first | (go_at_call 77; (refine (H0.out _ HB0.out).mono ?_); (rintro e V1 ⟨rfl, hb⟩); (have HB1 := Lib.hid (HB0.out.trans (hb.mono HB0.out.size))); (have HO1 := Lib.hid (blk_below hb (blk_lt HO0.out) HO0.out)); (have c1 := blk_cell HO1.out 2); (simp only [List.getElem?_toArray, List.getElem?_cons_zero, List.getElem?_cons_succ] at c1); (clear hb)) | (go_at_call 79; (refine (H1.out _ HB1.out).mono ?_); (rintro e V2 ⟨rfl, hb⟩); (have HB2 := Lib.hid (HB1.out.trans (hb.mono HB1.out.size))); (have HO2 := Lib.hid (blk_below hb (blk_lt HO1.out) HO1.out)); (have c2 := blk_cell HO2.out 3); (simp only [List.getElem?_toArray, List.getElem?_cons_zero, List.getElem?_cons_succ] at c2); (clear hb)))
      go_ret
      exact ⟨rfl, HB2.out⟩
    ·
      rcases q2 with _ | _
      · go_enter Tryz.func47, Tryz.ntmps47
        go_wp2_with (first | (go_at_call 77; (refine (H0.out _ HB0.out).mono ?_); (rintro e V1 ⟨rfl, hb⟩); (have HB1 := Lib.hid (HB0.out.trans (hb.mono HB0.out.size))); (have HO1 := Lib.hid (blk_below hb (blk_lt HO0.out) HO0.out)); (have c1 := blk_cell HO1.out 2); (simp only [List.getElem?_toArray, List.getElem?_cons_zero, List.getElem?_cons_succ] at c1); (clear hb)) | (go_at_call 79; (refine (H1.out _ HB1.out).mono ?_); (rintro e V2 ⟨rfl, hb⟩); (have HB2 := Lib.hid (HB1.out.trans (hb.mono HB1.out.size))); (have HO2 := Lib.hid (blk_below hb (blk_lt HO1.out) HO1.out)); (have c2 := blk_cell HO2.out 3); (simp only [List.getElem?_toArray, List.getElem?_cons_zero, List.getElem?_cons_succ] at c2); (clear hb)) | (go_at_call 81; (refine (H2.out _ HB2.out).mono ?_); (rintro e V3 ⟨rfl, hb⟩); (have HB3 := Lib.hid (HB2.out.trans (hb.mono HB2.out.size))); (have HO3 := Lib.hid (blk_below hb (blk_lt HO2.out) HO2.out)); (have c3 := blk_cell HO3.out 4); (simp only [List.getElem?_toArray, List.getElem?_cons_zero, List.getElem?_cons_succ] at c3); (clear hb)))
        go_ret
        exact ⟨rfl, HB3.out⟩
      ·
        rcases q3 with _ | _
        · go_enter Tryz.func47, Tryz.ntmps47
          go_wp2_with (first | (go_at_call 77; (refine (H0.out _ HB0.out).mono ?_); (rintro e V1 ⟨rfl, hb⟩); (have HB1 := Lib.hid (HB0.out.trans (hb.mono HB0.out.size))); (have HO1 := Lib.hid (blk_below hb (blk_lt HO0.out) HO0.out)); (have c1 := blk_cell HO1.out 2); (simp only [List.getElem?_toArray, List.getElem?_cons_zero, List.getElem?_cons_succ] at c1); (clear hb)) | (go_at_call 79; (refine (H1.out _ HB1.out).mono ?_); (rintro e V2 ⟨rfl, hb⟩); (have HB2 := Lib.hid (HB1.out.trans (hb.mono HB1.out.size))); (have HO2 := Lib.hid (blk_below hb (blk_lt HO1.out) HO1.out)); (have c2 := blk_cell HO2.out 3); (simp only [List.getElem?_toArray, List.getElem?_cons_zero, List.getElem?_cons_succ] at c2); (clear hb)) | (go_at_call 81; (refine (H2.out _ HB2.out).mono ?_); (rintro e V3 ⟨rfl, hb⟩); (have HB3 := Lib.hid (HB2.out.trans (hb.mono HB2.out.size))); (have HO3 := Lib.hid (blk_below hb (blk_lt HO2.out) HO2.out)); (have c3 := blk_cell HO3.out 4); (simp only [List.getElem?_toArray, List.getElem?_cons_zero, List.getElem?_cons_succ] at c3); (clear hb)) | (go_at_call 83; (refine (H3.out _ HB3.out).mono ?_); (rintro e V4 ⟨rfl, hb⟩); (have HB4 := Lib.hid (HB3.out.trans (hb.mono HB3.out.size))); (have HO4 := Lib.hid (blk_below hb (blk_lt HO3.out) HO3.out)); (have c4 := blk_cell HO4.out 5); (simp only [List.getElem?_toArray, List.getElem?_cons_zero, List.getElem?_cons_succ] at c4); (clear hb)))
          go_ret
          exact ⟨rfl, HB4.out⟩
        ·
          rcases q4 with _ | _
          · go_enter Tryz.func47, Tryz.ntmps47
            go_wp2_with (first | (go_at_call 77; (refine (H0.out _ HB0.out).mono ?_); (rintro e V1 ⟨rfl, hb⟩); (have HB1 := Lib.hid (HB0.out.trans (hb.mono HB0.out.size))); (have HO1 := Lib.hid (blk_below hb (blk_lt HO0.out) HO0.out)); (have c1 := blk_cell HO1.out 2); (simp only [List.getElem?_toArray, List.getElem?_cons_zero, List.getElem?_cons_succ] at c1); (clear hb)) | (go_at_call 79; (refine (H1.out _ HB1.out).mono ?_); (rintro e V2 ⟨rfl, hb⟩); (have HB2 := Lib.hid (HB1.out.trans (hb.mono HB1.out.size))); (have HO2 := Lib.hid (blk_below hb (blk_lt HO1.out) HO1.out)); (have c2 := blk_cell HO2.out 3); (simp only [List.getElem?_toArray, List.getElem?_cons_zero, List.getElem?_cons_succ] at c2); (clear hb)) | (go_at_call 81; (refine (H2.out _ HB2.out).mono ?_); (rintro e V3 ⟨rfl, hb⟩); (have HB3 := Lib.hid (HB2.out.trans (hb.mono HB2.out.size))); (have HO3 := Lib.hid (blk_below hb (blk_lt HO2.out) HO2.out)); (have c3 := blk_cell HO3.out 4); (simp only [List.getElem?_toArray, List.getElem?_cons_zero, List.getElem?_cons_succ] at c3); (clear hb)) | (go_at_call 83; (refine (H3.out _ HB3.out).mono ?_); (rintro e V4 ⟨rfl, hb⟩); (have HB4 := Lib.hid (HB3.out.trans (hb.mono HB3.out.size))); (have HO4 := Lib.hid (blk_below hb (blk_lt HO3.out) HO3.out)); (have c4 := blk_cell HO4.out 5); (simp only [List.getElem?_toArray, List.getElem?_cons_zero, List.getElem?_cons_succ] at c4); (clear hb)) | (go_at_call 85; (refine (H4.out _ HB4.out).mono ?_); (rintro e V5 ⟨rfl, hb⟩); (have HB5 := Lib.hid (HB4.out.trans (hb.mono HB4.out.size))); (clear hb)))
            go_ret
            exact ⟨rfl, HB5.out⟩
          ·
            go_enter Tryz.func47, Tryz.ntmps47
            go_wp2_with (first | (go_at_call 77; (refine (H0.out _ HB0.out).mono ?_); (rintro e V1 ⟨rfl, hb⟩); (have HB1 := Lib.hid (HB0.out.trans (hb.mono HB0.out.size))); (have HO1 := Lib.hid (blk_below hb (blk_lt HO0.out) HO0.out)); (have c1 := blk_cell HO1.out 2); (simp only [List.getElem?_toArray, List.getElem?_cons_zero, List.getElem?_cons_succ] at c1); (clear hb)) | (go_at_call 79; (refine (H1.out _ HB1.out).mono ?_); (rintro e V2 ⟨rfl, hb⟩); (have HB2 := Lib.hid (HB1.out.trans (hb.mono HB1.out.size))); (have HO2 := Lib.hid (blk_below hb (blk_lt HO1.out) HO1.out)); (have c2 := blk_cell HO2.out 3); (simp only [List.getElem?_toArray, List.getElem?_cons_zero, List.getElem?_cons_succ] at c2); (clear hb)) | (go_at_call 81; (refine (H2.out _ HB2.out).mono ?_); (rintro e V3 ⟨rfl, hb⟩); (have HB3 := Lib.hid (HB2.out.trans (hb.mono HB2.out.size))); (have HO3 := Lib.hid (blk_below hb (blk_lt HO2.out) HO2.out)); (have c3 := blk_cell HO3.out 4); (simp only [List.getElem?_toArray, List.getElem?_cons_zero, List.getElem?_cons_succ] at c3); (clear hb)) | (go_at_call 83; (refine (H3.out _ HB3.out).mono ?_); (rintro e V4 ⟨rfl, hb⟩); (have HB4 := Lib.hid (HB3.out.trans (hb.mono HB3.out.size))); (have HO4 := Lib.hid (blk_below hb (blk_lt HO3.out) HO3.out)); (have c4 := blk_cell HO4.out 5); (simp only [List.getElem?_toArray, List.getElem?_cons_zero, List.getElem?_cons_succ] at c4); (clear hb)) | (go_at_call 85; (refine (H4.out _ HB4.out).mono ?_); (rintro e V5 ⟨rfl, hb⟩); (have HB5 := Lib.hid (HB4.out.trans (hb.mono HB4.out.size))); (clear hb)))
            go_ret
            exact ⟨rfl, HB5.out⟩
theorem sright_any (h : SpecAt w s AM AT AX AC AJ) : Calls Tryz.prog 47 #[specW s AM AT AX AC AJ cM cT cX cC cJ] w fun e w' => e = .returned (.bool (rightS s)) ∧ Below w.heap.size w w' := by
  obtain ⟨rk, ms, ts, xs, cs, js⟩ := s
  unfold specW rightS headR
  have k0 := fun V (hV : Below w.heap.size w V) => all_Mrg ms AM cM 744 V (h.ms.below hV (Nat.le_refl _)) h.len.1
  have k1 := fun V (hV : Below w.heap.size w V) => all_Txt ts AT cT 744 V (h.ts.below hV (Nat.le_refl _)) h.len.2.1
  have k2 := fun V (hV : Below w.heap.size w V) => all_Spl xs AX cX 32 V (h.xs.below hV (Nat.le_refl _)) h.len.2.2.1
  have k3 := fun V (hV : Below w.heap.size w V) => all_Cls cs AC cC 64 V (h.cs.below hV (Nat.le_refl _)) h.len.2.2.2.1
  have k4 := fun V (hV : Below w.heap.size w V) => all_Jns js AJ cJ 64 V (h.js.below hV (Nat.le_refl _)) h.len.2.2.2.2
  cases rk with
  | true =>
    by_cases hd : 0 < ms.length
    · have := right_bad_t (w := w) (AM := AM) (AT := AT) (AX := AX) (AC := AC) (AJ := AJ) (cM := cM) (cT := cT) (cX := cX) (cC := cC) (cJ := cJ) (nT := ts.length) (nX := xs.length) (nC := cs.length) (nJ := js.length) hd
      refine this.mono ?_
      rintro e w' ⟨rfl, hb⟩
      refine ⟨?_, hb⟩
      simp only [if_true]
      rw [decide_eq_false (show ¬ ms.length = 0 from by omega)]
      simp
    · obtain rfl : ms = [] := List.length_eq_zero_iff.1 (by omega)
      have := right_t _ _ _ _ _ k0 k1 k2 k3 k4
      refine this.mono ?_
      rintro e w' ⟨rfl, hb⟩
      refine ⟨?_, hb⟩
      simp only [if_true]
      simp only [List.length_nil, decide_true, Bool.true_and]
  | false =>
    by_cases hd : 0 < ts.length
    · have := right_bad_f (w := w) (AM := AM) (AT := AT) (AX := AX) (AC := AC) (AJ := AJ) (cM := cM) (cT := cT) (cX := cX) (cC := cC) (cJ := cJ) (nM := ms.length) (nX := xs.length) (nC := cs.length) (nJ := js.length) hd
      refine this.mono ?_
      rintro e w' ⟨rfl, hb⟩
      refine ⟨?_, hb⟩
      simp only [Bool.false_eq_true, if_false]
      rw [decide_eq_false (show ¬ ts.length = 0 from by omega)]
      simp
    · obtain rfl : ts = [] := List.length_eq_zero_iff.1 (by omega)
      have := right_f _ _ _ _ _ k0 k1 k2 k3 k4
      refine this.mono ?_
      rintro e w' ⟨rfl, hb⟩
      refine ⟨?_, hb⟩
      simp only [Bool.false_eq_true, if_false]
      simp only [List.length_nil, decide_true, Bool.true_and]
end
end Go.Proofs.YtbppaiejpgdbiaaGreat

/- Layer 10 (vocab): copies of slices. PRINTED by tools/spec_clone.py. -/
namespace Go.Proofs.YtbppaiejpgdbiaaGreat
open Go.RowKit Go.Maps Go.WideMaps
set_option maxRecDepth 100000
set_option linter.unusedVariables false
set_option linter.unusedSimpArgs false
theorem flat_at {α : Type} {enc : α → List Value} {sz : Nat} (hsz : ∀ x, (enc x).length = sz) : ∀ (l : List α) (j : Nat) (u : Value), (l.flatMap enc)[j]? = some u → ∃ i x k, l[i]? = some x ∧ (enc x)[k]? = some u ∧ j = i * sz + k
  | [], j, u, h => by simp at h
  | a :: l, j, u, h => by
    rw [List.flatMap_cons] at h
    by_cases hj : j < sz
    · rw [List.getElem?_append_left (by rw [hsz]; exact hj)] at h
      exact ⟨0, a, j, rfl, h, by omega⟩
    · rw [List.getElem?_append_right (by rw [hsz]; omega), hsz] at h
      obtain ⟨i, x, k, h1, h2, h3⟩ := flat_at hsz l _ _ h
      exact ⟨i + 1, x, k, by simpa using h1, h2, by rw [Nat.succ_mul]; omega⟩
theorem flat_len {α : Type} {enc : α → List Value} {sz : Nat} (hsz : ∀ x, (enc x).length = sz) : ∀ l : List α, (l.flatMap enc).length = l.length * sz
  | [] => by simp
  | a :: l => by rw [List.flatMap_cons, List.length_append, hsz, flat_len hsz l, List.length_cons, Nat.succ_mul]; omega
theorem flat_one {α : Type} {enc : α → List Value} (h1 : ∀ x, ∀ u ∈ enc x, u.oneCell' = true) (l : List α) : ∀ u ∈ l.flatMap enc, u.oneCell' = true := by
  intro u hu
  obtain ⟨x, _, hx⟩ := List.mem_flatMap.1 hu
  exact h1 x u hx
def encS1 (x : List UInt8) : List Value := [strV x]
theorem sl_of1 {w : World} {A : Option Addr} {l : List (List UInt8)} (h : Sl1 w A strV l) : Sl w A encS1 1 l := by
  intro i x hx
  obtain ⟨b, o, e, hc⟩ := h i x hx
  refine ⟨b, o, e, fun j v hv => ?_⟩
  cases j with
  | zero => cases hv; simpa using hc
  | succ j => simp [encS1] at hv
theorem sl_to1 {w : World} {A : Option Addr} {l : List (List UInt8)} (h : Sl w A encS1 1 l) : Sl1 w A strV l := by
  intro i x hx
  obtain ⟨b, o, e, hc⟩ := h i x hx
  exact ⟨b, o, e, by simpa using hc 0 _ rfl⟩
theorem info_cMrg : (Tryz.prog.info? 55).map (fun i => (i.zero, i.size, i.bytes)) = some (some (.agg #[.int .i64 0, .int .i64 0]), 2, 16) := by kernel_rfl
theorem eql_cMrg (A : Option Addr) (n c : Nat) (w : World) : (binOp .eql 32 (.slice A n c) (.slice none 0 0)).run Tryz.prog w = .ok (.bool A.isNone) w := by
  cases A <;> kernel_rfl
theorem len_cMrg (x : Int × Int) : (encM x).length = 2 := rfl
theorem one_cMrg (x : Int × Int) : ∀ u ∈ encM x, u.oneCell' = true := by
  intro u hu
  simp [encM] at hu
  (try (rcases hu with rfl | rfl | rfl)) <;> (try (rcases hu with rfl | rfl)) <;> (try subst hu) <;> rfl
theorem clone_Mrg (l : List (Int × Int)) (A : Option Addr) (c : Nat) (w : World) (h : Sl w A encM 2 l) (hlen : l.length ≤ 1000000) :
    Calls Tryz.prog 111 #[.slice A l.length c] w fun e w' => ∃ A' c', e = .returned (.slice A' l.length c') ∧ Sl w' A' encM 2 l ∧ (∀ a, A' = some a → w.heap.size ≤ a.block) ∧ Below w.heap.size w w' := by
  have HL := Lib.hid h
  clear h
  cases A with
  | none =>
    have hl0 : l = [] := by
      rcases l with _ | ⟨x, l⟩
      · rfl
      · obtain ⟨b, o, e, _⟩ := HL.out 0 x rfl
        cases e
    subst hl0
    have heq := eql_cMrg none 0 c w
    simp only [Option.isNone_none] at heq
    go_enter Tryz.func111, Tryz.ntmps111
    go_wp2_with fail
    go_ret
    exact ⟨none, 0, rfl, Sl.nil _ _ _ _, fun a ha => (by cases ha), Below.refl _ _⟩
  | some a =>
    have heq := eql_cMrg (some a) l.length c w
    simp only [Option.isNone_some] at heq
    have HE : Hid ((w.alloc (.cells #[] 55)).ownsRow w.heap.size 55 2 (.slice (some ⟨w.heap.size, 0, none⟩) 0 0) 0 []) := Lib.hid ⟨by simp, .inr ⟨w.heap.size, 0, #[], rfl, Nat.le_refl _, blk_new w _, Nat.le_refl _, Nat.zero_le _, by simp, by simp⟩⟩
    have HN : Hid (∀ j u, (l.flatMap encM)[j]? = some u → (w.alloc (.cells #[] 55)).cell? (a.add j) = some u) := Lib.hid (by
      intro j u hu
      obtain ⟨i, x, k, h1, h2, rfl⟩ := flat_at len_cMrg l j u hu
      obtain ⟨b, o, e, hc⟩ := HL.out i x h1
      cases e
      rw [add_plain, ← Nat.add_assoc]
      exact below_cell ((Below.refl w.heap.size w).alloc (Nat.le_refl _) _) (Nat.le_refl _) (hc k u h2))
    have H1 := Lib.hid (flat_one one_cMrg l)
    have HLEN := Lib.hid (flat_len len_cMrg l)
    obtain ⟨i, hif, hz0, hz1, hz2⟩ := info_parts info_cMrg
    have HI := Lib.hid hif
    have HZ := Lib.hid (And.intro hz0 (And.intro hz1 hz2))
    clear hif hz0 hz1 hz2
    go_enter Tryz.func111, Tryz.ntmps111
    go_wp2_with (at_builtin; refine wpList_append_own_at _ rfl _ _ 32 rfl w.heap.size 55 i (.agg #[.int .i64 0, .int .i64 0]) 2 16 Tryz.underlying32 HI.out HZ.out.1 HZ.out.2.1 HZ.out.2.2 rfl (by decide) _ 0 [] rfl HE.out a l.length c _ rfl HLEN.out HN.out H1.out (by unfold maxLen; omega) (by omega) (by simp) ?_)
    intro v' w' r1 r2 _ _
    have hb : Below w.heap.size w w' := by
      have h0 := (Below.refl w.heap.size w).alloc (Nat.le_refl _) (.cells #[] 55)
      have hk : Keep (fun k => k = w.heap.size) (w.alloc (.cells #[] 55)) w' := Keep.of_grown r2 (fun k hk => by simpa [Value.ownBlock] using hk.symm)
      exact h0.trans (hk.below (by simp) (fun x hx => by omega))
    obtain ⟨A, c', rfl⟩ := own_slice r1
    have HB := Lib.hid hb
    have HR := Lib.hid r1
    clear r1 r2 hb
    go_wp2_with fail
    go_ret
    refine ⟨_, _, rfl, own_sl len_cMrg HR.out (by decide), fun a ha => ?_, HB.out⟩
    subst ha
    rcases HR.out.2 with ⟨h1, _⟩ | ⟨g, cap, cur, h1, hb, hg, _⟩
    · cases h1
    · cases h1; exact hb
theorem info_cTxt : (Tryz.prog.info? 9).map (fun i => (i.zero, i.size, i.bytes)) = some (some (.string ⟨#[]⟩), 1, 16) := by kernel_rfl
theorem eql_cTxt (A : Option Addr) (n c : Nat) (w : World) : (binOp .eql 31 (.slice A n c) (.slice none 0 0)).run Tryz.prog w = .ok (.bool A.isNone) w := by
  cases A <;> kernel_rfl
theorem len_cTxt (x : List UInt8) : (encS1 x).length = 1 := rfl
theorem one_cTxt (x : List UInt8) : ∀ u ∈ encS1 x, u.oneCell' = true := by
  intro u hu
  simp [encS1, strV] at hu
  (try (rcases hu with rfl | rfl | rfl)) <;> (try (rcases hu with rfl | rfl)) <;> (try subst hu) <;> rfl
theorem clone_Txt (l : List (List UInt8)) (A : Option Addr) (c : Nat) (w : World) (h : Sl w A encS1 1 l) (hlen : l.length ≤ 1000000) :
    Calls Tryz.prog 112 #[.slice A l.length c] w fun e w' => ∃ A' c', e = .returned (.slice A' l.length c') ∧ Sl w' A' encS1 1 l ∧ (∀ a, A' = some a → w.heap.size ≤ a.block) ∧ Below w.heap.size w w' := by
  have HL := Lib.hid h
  clear h
  cases A with
  | none =>
    have hl0 : l = [] := by
      rcases l with _ | ⟨x, l⟩
      · rfl
      · obtain ⟨b, o, e, _⟩ := HL.out 0 x rfl
        cases e
    subst hl0
    have heq := eql_cTxt none 0 c w
    simp only [Option.isNone_none] at heq
    go_enter Tryz.func112, Tryz.ntmps112
    go_wp2_with fail
    go_ret
    exact ⟨none, 0, rfl, Sl.nil _ _ _ _, fun a ha => (by cases ha), Below.refl _ _⟩
  | some a =>
    have heq := eql_cTxt (some a) l.length c w
    simp only [Option.isNone_some] at heq
    have HE : Hid ((w.alloc (.cells #[] 9)).ownsRow w.heap.size 9 1 (.slice (some ⟨w.heap.size, 0, none⟩) 0 0) 0 []) := Lib.hid ⟨by simp, .inr ⟨w.heap.size, 0, #[], rfl, Nat.le_refl _, blk_new w _, Nat.le_refl _, Nat.zero_le _, by simp, by simp⟩⟩
    have HN : Hid (∀ j u, (l.flatMap encS1)[j]? = some u → (w.alloc (.cells #[] 9)).cell? (a.add j) = some u) := Lib.hid (by
      intro j u hu
      obtain ⟨i, x, k, h1, h2, rfl⟩ := flat_at len_cTxt l j u hu
      obtain ⟨b, o, e, hc⟩ := HL.out i x h1
      cases e
      rw [add_plain, ← Nat.add_assoc]
      exact below_cell ((Below.refl w.heap.size w).alloc (Nat.le_refl _) _) (Nat.le_refl _) (hc k u h2))
    have H1 := Lib.hid (flat_one one_cTxt l)
    have HLEN := Lib.hid (flat_len len_cTxt l)
    obtain ⟨i, hif, hz0, hz1, hz2⟩ := info_parts info_cTxt
    have HI := Lib.hid hif
    have HZ := Lib.hid (And.intro hz0 (And.intro hz1 hz2))
    clear hif hz0 hz1 hz2
    go_enter Tryz.func112, Tryz.ntmps112
    go_wp2_with (at_builtin; refine wpList_append_own_at _ rfl _ _ 31 rfl w.heap.size 9 i (.string ⟨#[]⟩) 1 16 Tryz.underlying31 HI.out HZ.out.1 HZ.out.2.1 HZ.out.2.2 rfl (by decide) _ 0 [] rfl HE.out a l.length c _ rfl HLEN.out HN.out H1.out (by unfold maxLen; omega) (by omega) (by simp) ?_)
    intro v' w' r1 r2 _ _
    have hb : Below w.heap.size w w' := by
      have h0 := (Below.refl w.heap.size w).alloc (Nat.le_refl _) (.cells #[] 9)
      have hk : Keep (fun k => k = w.heap.size) (w.alloc (.cells #[] 9)) w' := Keep.of_grown r2 (fun k hk => by simpa [Value.ownBlock] using hk.symm)
      exact h0.trans (hk.below (by simp) (fun x hx => by omega))
    obtain ⟨A, c', rfl⟩ := own_slice r1
    have HB := Lib.hid hb
    have HR := Lib.hid r1
    clear r1 r2 hb
    go_wp2_with fail
    go_ret
    refine ⟨_, _, rfl, own_sl len_cTxt HR.out (by decide), fun a ha => ?_, HB.out⟩
    subst ha
    rcases HR.out.2 with ⟨h1, _⟩ | ⟨g, cap, cur, h1, hb, hg, _⟩
    · cases h1
    · cases h1; exact hb
theorem info_cSpl : (Tryz.prog.info? 98).map (fun i => (i.zero, i.size, i.bytes)) = some (some (.agg #[.int .i64 0, .string ⟨#[]⟩]), 2, 24) := by kernel_rfl
theorem eql_cSpl (A : Option Addr) (n c : Nat) (w : World) : (binOp .eql 25 (.slice A n c) (.slice none 0 0)).run Tryz.prog w = .ok (.bool A.isNone) w := by
  cases A <;> kernel_rfl
theorem len_cSpl (x : Int × List UInt8) : (encIS x).length = 2 := rfl
theorem one_cSpl (x : Int × List UInt8) : ∀ u ∈ encIS x, u.oneCell' = true := by
  intro u hu
  simp [encIS, strV] at hu
  (try (rcases hu with rfl | rfl | rfl)) <;> (try (rcases hu with rfl | rfl)) <;> (try subst hu) <;> rfl
theorem clone_Spl (l : List (Int × List UInt8)) (A : Option Addr) (c : Nat) (w : World) (h : Sl w A encIS 2 l) (hlen : l.length ≤ 1000000) :
    Calls Tryz.prog 113 #[.slice A l.length c] w fun e w' => ∃ A' c', e = .returned (.slice A' l.length c') ∧ Sl w' A' encIS 2 l ∧ (∀ a, A' = some a → w.heap.size ≤ a.block) ∧ Below w.heap.size w w' := by
  have HL := Lib.hid h
  clear h
  cases A with
  | none =>
    have hl0 : l = [] := by
      rcases l with _ | ⟨x, l⟩
      · rfl
      · obtain ⟨b, o, e, _⟩ := HL.out 0 x rfl
        cases e
    subst hl0
    have heq := eql_cSpl none 0 c w
    simp only [Option.isNone_none] at heq
    go_enter Tryz.func113, Tryz.ntmps113
    go_wp2_with fail
    go_ret
    exact ⟨none, 0, rfl, Sl.nil _ _ _ _, fun a ha => (by cases ha), Below.refl _ _⟩
  | some a =>
    have heq := eql_cSpl (some a) l.length c w
    simp only [Option.isNone_some] at heq
    have HE : Hid ((w.alloc (.cells #[] 98)).ownsRow w.heap.size 98 2 (.slice (some ⟨w.heap.size, 0, none⟩) 0 0) 0 []) := Lib.hid ⟨by simp, .inr ⟨w.heap.size, 0, #[], rfl, Nat.le_refl _, blk_new w _, Nat.le_refl _, Nat.zero_le _, by simp, by simp⟩⟩
    have HN : Hid (∀ j u, (l.flatMap encIS)[j]? = some u → (w.alloc (.cells #[] 98)).cell? (a.add j) = some u) := Lib.hid (by
      intro j u hu
      obtain ⟨i, x, k, h1, h2, rfl⟩ := flat_at len_cSpl l j u hu
      obtain ⟨b, o, e, hc⟩ := HL.out i x h1
      cases e
      rw [add_plain, ← Nat.add_assoc]
      exact below_cell ((Below.refl w.heap.size w).alloc (Nat.le_refl _) _) (Nat.le_refl _) (hc k u h2))
    have H1 := Lib.hid (flat_one one_cSpl l)
    have HLEN := Lib.hid (flat_len len_cSpl l)
    obtain ⟨i, hif, hz0, hz1, hz2⟩ := info_parts info_cSpl
    have HI := Lib.hid hif
    have HZ := Lib.hid (And.intro hz0 (And.intro hz1 hz2))
    clear hif hz0 hz1 hz2
    go_enter Tryz.func113, Tryz.ntmps113
    go_wp2_with (at_builtin; refine wpList_append_own_at _ rfl _ _ 25 rfl w.heap.size 98 i (.agg #[.int .i64 0, .string ⟨#[]⟩]) 2 24 Tryz.underlying25 HI.out HZ.out.1 HZ.out.2.1 HZ.out.2.2 rfl (by decide) _ 0 [] rfl HE.out a l.length c _ rfl HLEN.out HN.out H1.out (by unfold maxLen; omega) (by omega) (by simp) ?_)
    intro v' w' r1 r2 _ _
    have hb : Below w.heap.size w w' := by
      have h0 := (Below.refl w.heap.size w).alloc (Nat.le_refl _) (.cells #[] 98)
      have hk : Keep (fun k => k = w.heap.size) (w.alloc (.cells #[] 98)) w' := Keep.of_grown r2 (fun k hk => by simpa [Value.ownBlock] using hk.symm)
      exact h0.trans (hk.below (by simp) (fun x hx => by omega))
    obtain ⟨A, c', rfl⟩ := own_slice r1
    have HB := Lib.hid hb
    have HR := Lib.hid r1
    clear r1 r2 hb
    go_wp2_with fail
    go_ret
    refine ⟨_, _, rfl, own_sl len_cSpl HR.out (by decide), fun a ha => ?_, HB.out⟩
    subst ha
    rcases HR.out.2 with ⟨h1, _⟩ | ⟨g, cap, cur, h1, hb, hg, _⟩
    · cases h1
    · cases h1; exact hb
theorem info_cCls : (Tryz.prog.info? 132).map (fun i => (i.zero, i.size, i.bytes)) = some (some (.agg #[.int .i64 0, .int .i64 0, .int .i64 0]), 3, 24) := by kernel_rfl
theorem eql_cCls (A : Option Addr) (n c : Nat) (w : World) : (binOp .eql 23 (.slice A n c) (.slice none 0 0)).run Tryz.prog w = .ok (.bool A.isNone) w := by
  cases A <;> kernel_rfl
theorem len_cCls (x : Cls) : (encCls x).length = 3 := rfl
theorem one_cCls (x : Cls) : ∀ u ∈ encCls x, u.oneCell' = true := by
  intro u hu
  simp [encCls] at hu
  (try (rcases hu with rfl | rfl | rfl)) <;> (try (rcases hu with rfl | rfl)) <;> (try subst hu) <;> rfl
theorem clone_Cls (l : List (Cls)) (A : Option Addr) (c : Nat) (w : World) (h : Sl w A encCls 3 l) (hlen : l.length ≤ 1000000) :
    Calls Tryz.prog 114 #[.slice A l.length c] w fun e w' => ∃ A' c', e = .returned (.slice A' l.length c') ∧ Sl w' A' encCls 3 l ∧ (∀ a, A' = some a → w.heap.size ≤ a.block) ∧ Below w.heap.size w w' := by
  have HL := Lib.hid h
  clear h
  cases A with
  | none =>
    have hl0 : l = [] := by
      rcases l with _ | ⟨x, l⟩
      · rfl
      · obtain ⟨b, o, e, _⟩ := HL.out 0 x rfl
        cases e
    subst hl0
    have heq := eql_cCls none 0 c w
    simp only [Option.isNone_none] at heq
    go_enter Tryz.func114, Tryz.ntmps114
    go_wp2_with fail
    go_ret
    exact ⟨none, 0, rfl, Sl.nil _ _ _ _, fun a ha => (by cases ha), Below.refl _ _⟩
  | some a =>
    have heq := eql_cCls (some a) l.length c w
    simp only [Option.isNone_some] at heq
    have HE : Hid ((w.alloc (.cells #[] 132)).ownsRow w.heap.size 132 3 (.slice (some ⟨w.heap.size, 0, none⟩) 0 0) 0 []) := Lib.hid ⟨by simp, .inr ⟨w.heap.size, 0, #[], rfl, Nat.le_refl _, blk_new w _, Nat.le_refl _, Nat.zero_le _, by simp, by simp⟩⟩
    have HN : Hid (∀ j u, (l.flatMap encCls)[j]? = some u → (w.alloc (.cells #[] 132)).cell? (a.add j) = some u) := Lib.hid (by
      intro j u hu
      obtain ⟨i, x, k, h1, h2, rfl⟩ := flat_at len_cCls l j u hu
      obtain ⟨b, o, e, hc⟩ := HL.out i x h1
      cases e
      rw [add_plain, ← Nat.add_assoc]
      exact below_cell ((Below.refl w.heap.size w).alloc (Nat.le_refl _) _) (Nat.le_refl _) (hc k u h2))
    have H1 := Lib.hid (flat_one one_cCls l)
    have HLEN := Lib.hid (flat_len len_cCls l)
    obtain ⟨i, hif, hz0, hz1, hz2⟩ := info_parts info_cCls
    have HI := Lib.hid hif
    have HZ := Lib.hid (And.intro hz0 (And.intro hz1 hz2))
    clear hif hz0 hz1 hz2
    go_enter Tryz.func114, Tryz.ntmps114
    go_wp2_with (at_builtin; refine wpList_append_own_at _ rfl _ _ 23 rfl w.heap.size 132 i (.agg #[.int .i64 0, .int .i64 0, .int .i64 0]) 3 24 Tryz.underlying23 HI.out HZ.out.1 HZ.out.2.1 HZ.out.2.2 rfl (by decide) _ 0 [] rfl HE.out a l.length c _ rfl HLEN.out HN.out H1.out (by unfold maxLen; omega) (by omega) (by simp) ?_)
    intro v' w' r1 r2 _ _
    have hb : Below w.heap.size w w' := by
      have h0 := (Below.refl w.heap.size w).alloc (Nat.le_refl _) (.cells #[] 132)
      have hk : Keep (fun k => k = w.heap.size) (w.alloc (.cells #[] 132)) w' := Keep.of_grown r2 (fun k hk => by simpa [Value.ownBlock] using hk.symm)
      exact h0.trans (hk.below (by simp) (fun x hx => by omega))
    obtain ⟨A, c', rfl⟩ := own_slice r1
    have HB := Lib.hid hb
    have HR := Lib.hid r1
    clear r1 r2 hb
    go_wp2_with fail
    go_ret
    refine ⟨_, _, rfl, own_sl len_cCls HR.out (by decide), fun a ha => ?_, HB.out⟩
    subst ha
    rcases HR.out.2 with ⟨h1, _⟩ | ⟨g, cap, cur, h1, hb, hg, _⟩
    · cases h1
    · cases h1; exact hb
theorem info_cJns : (Tryz.prog.info? 133).map (fun i => (i.zero, i.size, i.bytes)) = some (some (.agg #[.int .i64 0, .int .i64 0]), 2, 16) := by kernel_rfl
theorem eql_cJns (A : Option Addr) (n c : Nat) (w : World) : (binOp .eql 24 (.slice A n c) (.slice none 0 0)).run Tryz.prog w = .ok (.bool A.isNone) w := by
  cases A <;> kernel_rfl
theorem len_cJns (x : Jn) : (encJn x).length = 2 := rfl
theorem one_cJns (x : Jn) : ∀ u ∈ encJn x, u.oneCell' = true := by
  intro u hu
  simp [encJn] at hu
  (try (rcases hu with rfl | rfl | rfl)) <;> (try (rcases hu with rfl | rfl)) <;> (try subst hu) <;> rfl
theorem clone_Jns (l : List (Jn)) (A : Option Addr) (c : Nat) (w : World) (h : Sl w A encJn 2 l) (hlen : l.length ≤ 1000000) :
    Calls Tryz.prog 115 #[.slice A l.length c] w fun e w' => ∃ A' c', e = .returned (.slice A' l.length c') ∧ Sl w' A' encJn 2 l ∧ (∀ a, A' = some a → w.heap.size ≤ a.block) ∧ Below w.heap.size w w' := by
  have HL := Lib.hid h
  clear h
  cases A with
  | none =>
    have hl0 : l = [] := by
      rcases l with _ | ⟨x, l⟩
      · rfl
      · obtain ⟨b, o, e, _⟩ := HL.out 0 x rfl
        cases e
    subst hl0
    have heq := eql_cJns none 0 c w
    simp only [Option.isNone_none] at heq
    go_enter Tryz.func115, Tryz.ntmps115
    go_wp2_with fail
    go_ret
    exact ⟨none, 0, rfl, Sl.nil _ _ _ _, fun a ha => (by cases ha), Below.refl _ _⟩
  | some a =>
    have heq := eql_cJns (some a) l.length c w
    simp only [Option.isNone_some] at heq
    have HE : Hid ((w.alloc (.cells #[] 133)).ownsRow w.heap.size 133 2 (.slice (some ⟨w.heap.size, 0, none⟩) 0 0) 0 []) := Lib.hid ⟨by simp, .inr ⟨w.heap.size, 0, #[], rfl, Nat.le_refl _, blk_new w _, Nat.le_refl _, Nat.zero_le _, by simp, by simp⟩⟩
    have HN : Hid (∀ j u, (l.flatMap encJn)[j]? = some u → (w.alloc (.cells #[] 133)).cell? (a.add j) = some u) := Lib.hid (by
      intro j u hu
      obtain ⟨i, x, k, h1, h2, rfl⟩ := flat_at len_cJns l j u hu
      obtain ⟨b, o, e, hc⟩ := HL.out i x h1
      cases e
      rw [add_plain, ← Nat.add_assoc]
      exact below_cell ((Below.refl w.heap.size w).alloc (Nat.le_refl _) _) (Nat.le_refl _) (hc k u h2))
    have H1 := Lib.hid (flat_one one_cJns l)
    have HLEN := Lib.hid (flat_len len_cJns l)
    obtain ⟨i, hif, hz0, hz1, hz2⟩ := info_parts info_cJns
    have HI := Lib.hid hif
    have HZ := Lib.hid (And.intro hz0 (And.intro hz1 hz2))
    clear hif hz0 hz1 hz2
    go_enter Tryz.func115, Tryz.ntmps115
    go_wp2_with (at_builtin; refine wpList_append_own_at _ rfl _ _ 24 rfl w.heap.size 133 i (.agg #[.int .i64 0, .int .i64 0]) 2 16 Tryz.underlying24 HI.out HZ.out.1 HZ.out.2.1 HZ.out.2.2 rfl (by decide) _ 0 [] rfl HE.out a l.length c _ rfl HLEN.out HN.out H1.out (by unfold maxLen; omega) (by omega) (by simp) ?_)
    intro v' w' r1 r2 _ _
    have hb : Below w.heap.size w w' := by
      have h0 := (Below.refl w.heap.size w).alloc (Nat.le_refl _) (.cells #[] 133)
      have hk : Keep (fun k => k = w.heap.size) (w.alloc (.cells #[] 133)) w' := Keep.of_grown r2 (fun k hk => by simpa [Value.ownBlock] using hk.symm)
      exact h0.trans (hk.below (by simp) (fun x hx => by omega))
    obtain ⟨A, c', rfl⟩ := own_slice r1
    have HB := Lib.hid hb
    have HR := Lib.hid r1
    clear r1 r2 hb
    go_wp2_with fail
    go_ret
    refine ⟨_, _, rfl, own_sl len_cJns HR.out (by decide), fun a ha => ?_, HB.out⟩
    subst ha
    rcases HR.out.2 with ⟨h1, _⟩ | ⟨g, cap, cur, h1, hb, hg, _⟩
    · cases h1
    · cases h1; exact hb
end Go.Proofs.YtbppaiejpgdbiaaGreat

/- Layer 10 (vocab): a spec in memory of its own. PRINTED by tools/spec_copied.py. -/
namespace Go.Proofs.YtbppaiejpgdbiaaGreat
open Go.RowKit Go.Maps Go.WideMaps
set_option maxRecDepth 100000
set_option linter.unusedVariables false
set_option linter.unusedSimpArgs false
/-- a copy: it does not lie in a block -/
def Fr {α : Type} (W : World) (sb : Nat) (A : Option Addr) (enc : α → List Value) (sz : Nat) (l : List α) : Prop := Sl W A enc sz l ∧ ∀ a, A = some a → sb + 1 < a.block
theorem Fr.below {α : Type} {W V : World} {sb : Nat} {A : Option Addr} {enc : α → List Value} {sz : Nat} {l : List α} (h : Fr W sb A enc sz l) (hb : Below W.heap.size W V) : Fr V sb A enc sz l := ⟨h.1.below hb (Nat.le_refl _), h.2⟩
theorem Fr.keep {α : Type} {W V : World} {sb : Nat} {A : Option Addr} {enc : α → List Value} {sz : Nat} {l : List α} (h : Fr W sb A enc sz l) (hk : Keep (fun g => g = sb) W V) : Fr V sb A enc sz l := ⟨sl_keep h.1 hk (fun a ha e => by have := h.2 a ha; omega), h.2⟩
theorem Fr.keep1 {α : Type} {W V : World} {sb : Nat} {A : Option Addr} {enc : α → List Value} {sz : Nat} {l : List α} (h : Fr W sb A enc sz l) (hk : Keep (fun g => g = sb + 1) W V) : Sl V A enc sz l := sl_keep h.1 hk (fun a ha e => by have := h.2 a ha; omega)
structure CpIs (w W : World) (sb : Nat) (C : List Value) : Prop where
  bl : Below w.heap.size w W
  blk : W.heap[sb]? = some (.cells C.toArray 48)
  res : W.heap[sb + 1]? = some (.cells #[.bool false, .slice none 0 0, .slice none 0 0, .slice none 0 0, .slice none 0 0, .slice none 0 0] 48)
  lt : w.heap.size ≤ sb
theorem CpIs.below {w W V : World} {sb : Nat} {C : List Value} (h : CpIs w W sb C) (hb : Below W.heap.size W V) : CpIs w V sb C :=
  ⟨h.bl.trans (hb.mono h.bl.size), blk_below hb (blk_lt h.blk) h.blk, blk_below hb (blk_lt h.res) h.res, h.lt⟩
theorem CpIs.put {w W V : World} {sb : Nat} {C C' : List Value} (h : CpIs w W sb C) (hk : Keep (fun g => g = sb) W V) (hc : V.heap[sb]? = some (.cells C'.toArray 48)) : CpIs w V sb C' :=
  ⟨h.bl.trans (hk.below h.bl.size (fun x hx => by have := h.lt; omega)), hc, hk.blk h.res (by omega), h.lt⟩
theorem Fr.drew {α : Type} {W : World} {sb : Nat} {A : Option Addr} {enc : α → List Value} {sz : Nat} {l : List α} (h : Fr W sb A enc sz l) : Fr W.drew sb A enc sz l := h
theorem CpIs.drew {w W : World} {sb : Nat} {C : List Value} (h : CpIs w W sb C) : CpIs w W.drew sb C := ⟨h.bl.drew, h.blk, h.res, h.lt⟩
theorem CpIs.fresh {α : Type} {w W V : World} {sb : Nat} {C : List Value} {A : Option Addr} {enc : α → List Value} {sz : Nat} {l : List α} (h : CpIs w W sb C) (hs : Sl V A enc sz l) (hf : ∀ a, A = some a → W.heap.size ≤ a.block) : Fr V sb A enc sz l :=
  ⟨hs, fun a ha => by have := hf a ha; have := blk_lt h.res; omega⟩
theorem load_spec {w : World} {r : Nat} {rk : Bool} {AM AT AX AC AJ : Option Addr} {nM nT nX nC nJ cM cT cX cC cJ : Nat} (h : w.heap[r]? = some (.cells #[.bool rk, .slice AM nM cM, .slice AT nT cT, .slice AX nX cX, .slice AC nC cC, .slice AJ nJ cJ] 48)) :
    (loadVar 48 ⟨r, 0, none⟩).run Tryz.prog w = .ok (specV rk AM nM cM AT nT cT AX nX cX AC nC cC AJ nJ cJ) w := by
  have n0 := blk_cell h 0
  have n1 := blk_cell h 1
  have n2 := blk_cell h 2
  have n3 := blk_cell h 3
  have n4 := blk_cell h 4
  have n5 := blk_cell h 5
  simp only [List.getElem?_toArray, List.getElem?_cons_zero, List.getElem?_cons_succ] at n0 n1 n2 n3 n4 n5
  simp [go_sem, specV, n0, n1, n2, n3, n4, n5]
section
variable {w : World} {s : SpecP} {AM AT AX AC AJ : Option Addr} {cM cT cX cC cJ : Nat}
set_option maxHeartbeats 8000000 in
theorem copied_any (hs : SpecAt w s AM AT AX AC AJ) (hln : s.ms.length ≤ 1000000 ∧ s.ts.length ≤ 1000000 ∧ s.xs.length ≤ 1000000 ∧ s.cs.length ≤ 1000000 ∧ s.js.length ≤ 1000000) :
    Calls Tryz.prog 76 #[specW s AM AT AX AC AJ cM cT cX cC cJ] w fun e w' => (∃ A1 A2 A3 A4 A5 c1 c2 c3 c4 c5, e = .returned (specW s A1 A2 A3 A4 A5 c1 c2 c3 c4 c5) ∧ SpecAt w' s A1 A2 A3 A4 A5) ∧ Below w.heap.size w w' := by
  unfold specW specV
  have HS0 := Lib.hid hs
  have HLN := Lib.hid hln
  have hb1 := (Below.refl w.heap.size w).alloc (Nat.le_refl _) (.cells #[.bool s.rk, .slice AM s.ms.length cM, .slice AT s.ts.length cT, .slice AX s.xs.length cX, .slice AC s.cs.length cC, .slice AJ s.js.length cJ] 48)
  have hb2 := hb1.alloc (by simp) (.cells #[.bool false, .slice none 0 0, .slice none 0 0, .slice none 0 0, .slice none 0 0, .slice none 0 0] 48)
  have HC0 : Hid (CpIs w ((w.alloc (.cells #[.bool s.rk, .slice AM s.ms.length cM, .slice AT s.ts.length cT, .slice AX s.xs.length cX, .slice AC s.cs.length cC, .slice AJ s.js.length cJ] 48)).alloc (.cells #[.bool false, .slice none 0 0, .slice none 0 0, .slice none 0 0, .slice none 0 0, .slice none 0 0] 48)) w.heap.size [.bool s.rk, .slice AM s.ms.length cM, .slice AT s.ts.length cT, .slice AX s.xs.length cX, .slice AC s.cs.length cC, .slice AJ s.js.length cJ]) := Lib.hid ⟨hb2, blk_alloc (blk_new w _) _, by have := blk_new (w.alloc (.cells #[.bool s.rk, .slice AM s.ms.length cM, .slice AT s.ts.length cT, .slice AX s.xs.length cX, .slice AC s.cs.length cC, .slice AJ s.js.length cJ] 48)) (.cells #[.bool false, .slice none 0 0, .slice none 0 0, .slice none 0 0, .slice none 0 0, .slice none 0 0] 48); simpa using this, Nat.le_refl _⟩
  clear hs hln hb1 hb2
  go_enter Tryz.func76, Tryz.ntmps76
  go_upto_region 1 with fail
  obtain ⟨W0, hW0⟩ : ∃ W0, ((w.alloc (.cells #[.bool s.rk, .slice AM s.ms.length cM, .slice AT s.ts.length cT, .slice AX s.xs.length cX, .slice AC s.cs.length cC, .slice AJ s.js.length cJ] 48)).alloc (.cells #[.bool false, .slice none 0 0, .slice none 0 0, .slice none 0 0, .slice none 0 0, .slice none 0 0] 48)) = W0 := ⟨_, rfl⟩
  rw [hW0] at HC0 ⊢
  obtain ⟨sb, hsb⟩ : ∃ sb, w.heap.size = sb := ⟨_, rfl⟩
  have HC : Hid (CpIs w W0 sb [.bool s.rk, .slice AM s.ms.length cM, .slice AT s.ts.length cT, .slice AX s.xs.length cX, .slice AC s.cs.length cC, .slice AJ s.js.length cJ]) := Lib.hid (by rw [← hsb]; exact HC0.out)
  clear HC0 hW0
  refine wp_region_D (Ds := [10, 12, 14]) (S := fun V => V.cell? ⟨sb, 1, none⟩ = some (.slice AM s.ms.length cM) ∧ V.cell? ⟨sb, 2, none⟩ = some (.slice AT s.ts.length cT) ∧ V.cell? ⟨sb, 3, none⟩ = some (.slice AX s.xs.length cX)) (by kernel_rfl) (by (have q1 := blk_cell HC.out.blk 1); (have q2 := blk_cell HC.out.blk 2); (have q3 := blk_cell HC.out.blk 3); (simp only [List.getElem?_toArray, List.getElem?_cons_zero, List.getElem?_cons_succ] at q1 q2 q3); exact And.intro q1 (And.intro q2 q3)) (fun hHeld => ?_)
  (replace HC := Lib.hid HC.out.drew); generalize W0.drew = W1 at *
  refine wpAnyD_takeP (i := 0) (oi := { dst := some 3, op := Op.fieldAddr 48 (Operand.tmp 1) 1, type := 0, pos := "vocab.go:41", after := #[], guard := none }) (d := 3) (v := ?_) rfl rfl (by kernel_rfl) (by kernel_rfl) (by kernel_rfl) (fun _ _ _ h => h) (Or.inl ⟨by rfl, ?_⟩) ?_
  rotate_left
  · (intro w' _; go_simp; (try with_reducible rfl))
  simp only [List.setIfInBounds_toArray, List.set_cons_zero, List.set_cons_succ]
  refine wpAnyD_takeP (i := 3) (oi := { dst := some 6, op := Op.fieldAddr 48 (Operand.tmp 1) 2, type := 0, pos := "vocab.go:41", after := #[], guard := none }) (d := 6) (v := ?_) rfl rfl (by kernel_rfl) (by kernel_rfl) (by kernel_rfl) (fun _ _ _ h => h) (Or.inl ⟨by rfl, ?_⟩) ?_
  rotate_left
  · (intro w' _; go_simp; (try with_reducible rfl))
  simp only [List.setIfInBounds_toArray, List.set_cons_zero, List.set_cons_succ]
  refine wpAnyD_takeP (i := 6) (oi := { dst := some 9, op := Op.fieldAddr 48 (Operand.tmp 1) 3, type := 0, pos := "vocab.go:41", after := #[], guard := none }) (d := 9) (v := ?_) rfl rfl (by kernel_rfl) (by kernel_rfl) (by kernel_rfl) (fun _ _ _ h => h) (Or.inl ⟨by rfl, ?_⟩) ?_
  rotate_left
  · (intro w' _; go_simp; (try with_reducible rfl))
  simp only [List.setIfInBounds_toArray, List.set_cons_zero, List.set_cons_succ]
  refine wpAnyD_takeD (i := 1) (oi := { dst := some 4, op := Op.load 32 (Operand.tmp 3), type := 32, pos := "vocab.go:41", after := #[{ on := 0, ground := Ground.data }], guard := none }) (d := 4) (v := ?_) rfl rfl (by kernel_rfl) (by kernel_rfl) (by kernel_rfl) (by kernel_rfl) (fun _ _ _ h => h) (Or.inl ⟨by rfl, ?_⟩) hHeld ?_
  rotate_left
  · (intro w' hSw; (try dsimp only at hSw); go_simp; (try with_reducible rfl))
  simp only [List.setIfInBounds_toArray, List.set_cons_zero, List.set_cons_succ]
  refine wpAnyD_takeD (i := 4) (oi := { dst := some 7, op := Op.load 31 (Operand.tmp 6), type := 31, pos := "vocab.go:41", after := #[{ on := 3, ground := Ground.data }], guard := none }) (d := 7) (v := ?_) rfl rfl (by kernel_rfl) (by kernel_rfl) (by kernel_rfl) (by kernel_rfl) (fun _ _ _ h => h) (Or.inl ⟨by rfl, ?_⟩) hHeld ?_
  rotate_left
  · (intro w' hSw; (try dsimp only at hSw); go_simp; (try with_reducible rfl))
  simp only [List.setIfInBounds_toArray, List.set_cons_zero, List.set_cons_succ]
  refine wpAnyD_takeD (i := 7) (oi := { dst := some 10, op := Op.load 25 (Operand.tmp 9), type := 25, pos := "vocab.go:41", after := #[{ on := 6, ground := Ground.data }], guard := none }) (d := 10) (v := ?_) rfl rfl (by kernel_rfl) (by kernel_rfl) (by kernel_rfl) (by kernel_rfl) (fun _ _ _ h => h) (Or.inl ⟨by rfl, ?_⟩) hHeld ?_
  rotate_left
  · (intro w' hSw; (try dsimp only at hSw); go_simp; (try with_reducible rfl))
  simp only [List.setIfInBounds_toArray, List.set_cons_zero, List.set_cons_succ]
  refine wpAnyD_one (i := 2) (o := { dst := some 5, op := Op.call { callee := Callee.value (Operand.func 111), args := #[Operand.tmp 4], argTypes := #[32] }, type := 32, pos := "vocab.go:41", after := #[{ on := 1, ground := Ground.data }], guard := none }) (by kernel_rfl) rfl (by rfl) (fun K hK => ?_)
  go_simp; refine (clone_Mrg s.ms AM cM _ ((HS0.out.below HC.out.bl (Nat.le_refl _)).ms) (by have := HLN.out; omega)).mono ?_; rintro e V1 ⟨A1, c1, rfl, hsl, hfr, hb⟩; have HM0 := Lib.hid (HC.out.fresh hsl hfr); replace HC := Lib.hid (HC.out.below hb); clear hsl hfr hb; have q1 := blk_cell HC.out.blk 1; have q2 := blk_cell HC.out.blk 2; have q3 := blk_cell HC.out.blk 3; simp only [List.getElem?_toArray, List.getElem?_cons_zero, List.getElem?_cons_succ] at q1 q2 q3; have h := And.intro q1 (And.intro q2 (q3)); clear q1 q2 q3; go_simp
  refine hK.out _ _ h (fun hHeld => ?_)
  clear hK K
  try simp only [Act.put, List.setIfInBounds_toArray, List.set_cons_zero, List.set_cons_succ]
  refine wpAnyD_takeP (i := 9) (oi := { dst := some 12, op := Op.fieldAddr 48 (Operand.tmp 1) 1, type := 0, pos := "vocab.go:41", after := #[{ on := 0, ground := Ground.phase }, { on := 1, ground := Ground.phase }, { on := 2, ground := Ground.phase }, { on := 3, ground := Ground.phase }, { on := 4, ground := Ground.phase }, { on := 5, ground := Ground.textOnly Departure.lateStoresUnsure }, { on := 6, ground := Ground.phase }, { on := 7, ground := Ground.phase }, { on := 8, ground := Ground.textOnly Departure.lateStoresUnsure }], guard := none }) (d := 12) (v := ?_) rfl rfl (by kernel_rfl) (by kernel_rfl) (by kernel_rfl) (fun _ _ _ h => h) (Or.inl ⟨by rfl, ?_⟩) ?_
  rotate_left
  · (intro w' _; go_simp; (try with_reducible rfl))
  simp only [List.setIfInBounds_toArray, List.set_cons_zero, List.set_cons_succ]
  refine wpAnyD_one (i := 5) (o := { dst := some 8, op := Op.call { callee := Callee.value (Operand.func 112), args := #[Operand.tmp 7], argTypes := #[31] }, type := 31, pos := "vocab.go:41", after := #[{ on := 4, ground := Ground.data }, { on := 2, ground := Ground.chain }], guard := none }) (by kernel_rfl) rfl (by rfl) (fun K hK => ?_)
  go_simp; refine (clone_Txt s.ts AT cT _ (sl_of1 (HS0.out.below HC.out.bl (Nat.le_refl _)).ts) (by have := HLN.out; omega)).mono ?_; rintro e V1 ⟨A2, c2, rfl, hsl, hfr, hb⟩; have HM1 := Lib.hid (HC.out.fresh hsl hfr); replace HC := Lib.hid (HC.out.below hb); replace HM0 := Lib.hid (HM0.out.below hb); clear hsl hfr hb; have q1 := blk_cell HC.out.blk 1; have q2 := blk_cell HC.out.blk 2; have q3 := blk_cell HC.out.blk 3; simp only [List.getElem?_toArray, List.getElem?_cons_zero, List.getElem?_cons_succ] at q1 q2 q3; have h := And.intro q1 (And.intro q2 (q3)); clear q1 q2 q3; go_simp
  refine hK.out _ _ h (fun hHeld => ?_)
  clear hK K
  try simp only [Act.put, List.setIfInBounds_toArray, List.set_cons_zero, List.set_cons_succ]
  refine wpAnyD_one (i := 8) (o := { dst := some 11, op := Op.call { callee := Callee.value (Operand.func 113), args := #[Operand.tmp 10], argTypes := #[25] }, type := 25, pos := "vocab.go:41", after := #[{ on := 7, ground := Ground.data }, { on := 5, ground := Ground.chain }], guard := none }) (by kernel_rfl) rfl (by rfl) (fun K hK => ?_)
  go_simp; refine (clone_Spl s.xs AX cX _ ((HS0.out.below HC.out.bl (Nat.le_refl _)).xs) (by have := HLN.out; omega)).mono ?_; rintro e V1 ⟨A3, c3, rfl, hsl, hfr, hb⟩; have HM2 := Lib.hid (HC.out.fresh hsl hfr); replace HC := Lib.hid (HC.out.below hb); replace HM0 := Lib.hid (HM0.out.below hb); replace HM1 := Lib.hid (HM1.out.below hb); clear hsl hfr hb; have q1 := blk_cell HC.out.blk 1; have q2 := blk_cell HC.out.blk 2; have q3 := blk_cell HC.out.blk 3; simp only [List.getElem?_toArray, List.getElem?_cons_zero, List.getElem?_cons_succ] at q1 q2 q3; have h := And.intro q1 (And.intro q2 (q3)); clear q1 q2 q3; go_simp
  refine hK.out _ _ h (fun hHeld => ?_)
  clear hK K
  try simp only [Act.put, List.setIfInBounds_toArray, List.set_cons_zero, List.set_cons_succ]
  refine wpAnyD_last (D := 10) (by decide) (o := { dst := none, op := Op.store 32 (Operand.tmp 12) (Operand.tmp 5), type := 0, pos := "vocab.go:41", after := #[{ on := 9, ground := Ground.data }, { on := 2, ground := Ground.data }, { on := 8, ground := Ground.chain }, { on := 0, ground := Ground.phase }, { on := 1, ground := Ground.phase }, { on := 2, ground := Ground.phase }, { on := 3, ground := Ground.phase }, { on := 4, ground := Ground.phase }, { on := 5, ground := Ground.textOnly Departure.lateStoresUnsure }, { on := 6, ground := Ground.phase }, { on := 7, ground := Ground.phase }, { on := 8, ground := Ground.textOnly Departure.lateStoresUnsure }], guard := none }) (by kernel_rfl) rfl (by rfl) (fun K hK => ?_)
  have z0 := blk_froz HC.out.blk 1; have d0 := blk_cell HC.out.blk 1; simp only [List.getElem?_toArray, List.getElem?_cons_zero, List.getElem?_cons_succ] at d0; go_simp; have hk : Keep (fun g => g = sb) V1 (V1.setCell ⟨sb, 1, none⟩ (.slice A1 s.ms.length c1)) := (Keep.refl (fun g => g = sb) V1).setCell (p := ⟨sb, 1, none⟩) (.inl rfl) (.slice A1 s.ms.length c1); have hc := blk_set HC.out.blk 1 (.slice A1 s.ms.length c1); simp only [List.setIfInBounds_toArray, List.set_cons_zero, List.set_cons_succ] at hc; replace HC := Lib.hid (HC.out.put hk hc); replace HM0 := Lib.hid (HM0.out.keep hk); replace HM1 := Lib.hid (HM1.out.keep hk); replace HM2 := Lib.hid (HM2.out.keep hk); clear z0 d0 hk hc; generalize V1.setCell ⟨sb, 1, none⟩ (.slice A1 s.ms.length c1) = X1 at *
  refine hK.out _ _ ?_
  clear hK K
  try simp only [Act.put, List.setIfInBounds_toArray, List.set_cons_zero, List.set_cons_succ]
  refine wpAnyD_takeP (i := 11) (oi := { dst := some 13, op := Op.fieldAddr 48 (Operand.tmp 1) 2, type := 0, pos := "vocab.go:41", after := #[{ on := 0, ground := Ground.phase }, { on := 1, ground := Ground.phase }, { on := 2, ground := Ground.phase }, { on := 3, ground := Ground.phase }, { on := 4, ground := Ground.phase }, { on := 5, ground := Ground.phase }, { on := 6, ground := Ground.phase }, { on := 7, ground := Ground.phase }, { on := 8, ground := Ground.textOnly Departure.lateStoresUnsure }, { on := 9, ground := Ground.phase }, { on := 10, ground := Ground.phase }], guard := none }) (d := 13) (v := ?_) rfl rfl (by kernel_rfl) (by kernel_rfl) (by kernel_rfl) (fun _ _ _ h => h) (Or.inl ⟨by rfl, ?_⟩) ?_
  rotate_left
  · (intro w' _; go_simp; (try with_reducible rfl))
  simp only [List.setIfInBounds_toArray, List.set_cons_zero, List.set_cons_succ]
  refine wpAnyD_last (D := 12) (by decide) (o := { dst := none, op := Op.store 31 (Operand.tmp 13) (Operand.tmp 8), type := 0, pos := "vocab.go:41", after := #[{ on := 11, ground := Ground.data }, { on := 5, ground := Ground.data }, { on := 10, ground := Ground.chain }, { on := 0, ground := Ground.phase }, { on := 1, ground := Ground.phase }, { on := 2, ground := Ground.phase }, { on := 3, ground := Ground.phase }, { on := 4, ground := Ground.phase }, { on := 5, ground := Ground.phase }, { on := 6, ground := Ground.phase }, { on := 7, ground := Ground.phase }, { on := 8, ground := Ground.textOnly Departure.lateStoresUnsure }, { on := 9, ground := Ground.phase }, { on := 10, ground := Ground.phase }], guard := none }) (by kernel_rfl) rfl (by rfl) (fun K hK => ?_)
  have z0 := blk_froz HC.out.blk 2; have d0 := blk_cell HC.out.blk 2; simp only [List.getElem?_toArray, List.getElem?_cons_zero, List.getElem?_cons_succ] at d0; go_simp; have hk : Keep (fun g => g = sb) X1 (X1.setCell ⟨sb, 2, none⟩ (.slice A2 s.ts.length c2)) := (Keep.refl (fun g => g = sb) X1).setCell (p := ⟨sb, 2, none⟩) (.inl rfl) (.slice A2 s.ts.length c2); have hc := blk_set HC.out.blk 2 (.slice A2 s.ts.length c2); simp only [List.setIfInBounds_toArray, List.set_cons_zero, List.set_cons_succ] at hc; replace HC := Lib.hid (HC.out.put hk hc); replace HM0 := Lib.hid (HM0.out.keep hk); replace HM1 := Lib.hid (HM1.out.keep hk); replace HM2 := Lib.hid (HM2.out.keep hk); clear z0 d0 hk hc; generalize X1.setCell ⟨sb, 2, none⟩ (.slice A2 s.ts.length c2) = X2 at *
  refine hK.out _ _ ?_
  clear hK K
  try simp only [Act.put, List.setIfInBounds_toArray, List.set_cons_zero, List.set_cons_succ]
  refine wpAnyD_takeP (i := 13) (oi := { dst := some 14, op := Op.fieldAddr 48 (Operand.tmp 1) 3, type := 0, pos := "vocab.go:41", after := #[{ on := 0, ground := Ground.phase }, { on := 1, ground := Ground.phase }, { on := 2, ground := Ground.phase }, { on := 3, ground := Ground.phase }, { on := 4, ground := Ground.phase }, { on := 5, ground := Ground.phase }, { on := 6, ground := Ground.phase }, { on := 7, ground := Ground.phase }, { on := 8, ground := Ground.phase }, { on := 9, ground := Ground.phase }, { on := 10, ground := Ground.phase }, { on := 11, ground := Ground.phase }, { on := 12, ground := Ground.phase }], guard := none }) (d := 14) (v := ?_) rfl rfl (by kernel_rfl) (by kernel_rfl) (by kernel_rfl) (fun _ _ _ h => h) (Or.inl ⟨by rfl, ?_⟩) ?_
  rotate_left
  · (intro w' _; go_simp; (try with_reducible rfl))
  simp only [List.setIfInBounds_toArray, List.set_cons_zero, List.set_cons_succ]
  refine wpAnyD_last (D := 14) (by decide) (o := { dst := none, op := Op.store 25 (Operand.tmp 14) (Operand.tmp 11), type := 0, pos := "vocab.go:41", after := #[{ on := 13, ground := Ground.data }, { on := 8, ground := Ground.data }, { on := 12, ground := Ground.chain }, { on := 0, ground := Ground.phase }, { on := 1, ground := Ground.phase }, { on := 2, ground := Ground.phase }, { on := 3, ground := Ground.phase }, { on := 4, ground := Ground.phase }, { on := 5, ground := Ground.phase }, { on := 6, ground := Ground.phase }, { on := 7, ground := Ground.phase }, { on := 8, ground := Ground.phase }, { on := 9, ground := Ground.phase }, { on := 10, ground := Ground.phase }, { on := 11, ground := Ground.phase }, { on := 12, ground := Ground.phase }], guard := none }) (by kernel_rfl) rfl (by rfl) (fun K hK => ?_)
  have z0 := blk_froz HC.out.blk 3; have d0 := blk_cell HC.out.blk 3; simp only [List.getElem?_toArray, List.getElem?_cons_zero, List.getElem?_cons_succ] at d0; go_simp; have hk : Keep (fun g => g = sb) X2 (X2.setCell ⟨sb, 3, none⟩ (.slice A3 s.xs.length c3)) := (Keep.refl (fun g => g = sb) X2).setCell (p := ⟨sb, 3, none⟩) (.inl rfl) (.slice A3 s.xs.length c3); have hc := blk_set HC.out.blk 3 (.slice A3 s.xs.length c3); simp only [List.setIfInBounds_toArray, List.set_cons_zero, List.set_cons_succ] at hc; replace HC := Lib.hid (HC.out.put hk hc); replace HM0 := Lib.hid (HM0.out.keep hk); replace HM1 := Lib.hid (HM1.out.keep hk); replace HM2 := Lib.hid (HM2.out.keep hk); clear z0 d0 hk hc; generalize X2.setCell ⟨sb, 3, none⟩ (.slice A3 s.xs.length c3) = X3 at *
  refine hK.out _ _ ?_
  clear hK K
  try simp only [Act.put, List.setIfInBounds_toArray, List.set_cons_zero, List.set_cons_succ]
  refine wpAnyD_done (by kernel_rfl) ?_ _
  clear hHeld h
  go_upto_region 2 with fail
  refine wp_region_D (Ds := [7, 9]) (S := fun V => V.cell? ⟨sb, 4, none⟩ = some (.slice AC s.cs.length cC) ∧ V.cell? ⟨sb, 5, none⟩ = some (.slice AJ s.js.length cJ)) (by kernel_rfl) (by (have q4 := blk_cell HC.out.blk 4); (have q5 := blk_cell HC.out.blk 5); (simp only [List.getElem?_toArray, List.getElem?_cons_zero, List.getElem?_cons_succ] at q4 q5); exact And.intro q4 q5) (fun hHeld => ?_)
  (replace HC := Lib.hid HC.out.drew); (replace HM0 := Lib.hid HM0.out.drew); (replace HM1 := Lib.hid HM1.out.drew); (replace HM2 := Lib.hid HM2.out.drew); generalize X3.drew = Y0 at *
  refine wpAnyD_takeP (i := 0) (oi := { dst := some 15, op := Op.fieldAddr 48 (Operand.tmp 1) 4, type := 0, pos := "vocab.go:42", after := #[], guard := none }) (d := 15) (v := ?_) rfl rfl (by kernel_rfl) (by kernel_rfl) (by kernel_rfl) (fun _ _ _ h => h) (Or.inl ⟨by rfl, ?_⟩) ?_
  rotate_left
  · (intro w' _; go_simp; (try with_reducible rfl))
  simp only [List.setIfInBounds_toArray, List.set_cons_zero, List.set_cons_succ]
  refine wpAnyD_takeP (i := 3) (oi := { dst := some 18, op := Op.fieldAddr 48 (Operand.tmp 1) 5, type := 0, pos := "vocab.go:42", after := #[], guard := none }) (d := 18) (v := ?_) rfl rfl (by kernel_rfl) (by kernel_rfl) (by kernel_rfl) (fun _ _ _ h => h) (Or.inl ⟨by rfl, ?_⟩) ?_
  rotate_left
  · (intro w' _; go_simp; (try with_reducible rfl))
  simp only [List.setIfInBounds_toArray, List.set_cons_zero, List.set_cons_succ]
  refine wpAnyD_takeD (i := 1) (oi := { dst := some 16, op := Op.load 23 (Operand.tmp 15), type := 23, pos := "vocab.go:42", after := #[{ on := 0, ground := Ground.data }], guard := none }) (d := 16) (v := ?_) rfl rfl (by kernel_rfl) (by kernel_rfl) (by kernel_rfl) (by kernel_rfl) (fun _ _ _ h => h) (Or.inl ⟨by rfl, ?_⟩) hHeld ?_
  rotate_left
  · (intro w' hSw; (try dsimp only at hSw); go_simp; (try with_reducible rfl))
  simp only [List.setIfInBounds_toArray, List.set_cons_zero, List.set_cons_succ]
  refine wpAnyD_takeD (i := 4) (oi := { dst := some 19, op := Op.load 24 (Operand.tmp 18), type := 24, pos := "vocab.go:42", after := #[{ on := 3, ground := Ground.data }], guard := none }) (d := 19) (v := ?_) rfl rfl (by kernel_rfl) (by kernel_rfl) (by kernel_rfl) (by kernel_rfl) (fun _ _ _ h => h) (Or.inl ⟨by rfl, ?_⟩) hHeld ?_
  rotate_left
  · (intro w' hSw; (try dsimp only at hSw); go_simp; (try with_reducible rfl))
  simp only [List.setIfInBounds_toArray, List.set_cons_zero, List.set_cons_succ]
  refine wpAnyD_one (i := 2) (o := { dst := some 17, op := Op.call { callee := Callee.value (Operand.func 114), args := #[Operand.tmp 16], argTypes := #[23] }, type := 23, pos := "vocab.go:42", after := #[{ on := 1, ground := Ground.data }], guard := none }) (by kernel_rfl) rfl (by rfl) (fun K hK => ?_)
  go_simp; refine (clone_Cls s.cs AC cC _ ((HS0.out.below HC.out.bl (Nat.le_refl _)).cs) (by have := HLN.out; omega)).mono ?_; rintro e V1 ⟨A4, c4, rfl, hsl, hfr, hb⟩; have HM3 := Lib.hid (HC.out.fresh hsl hfr); replace HC := Lib.hid (HC.out.below hb); replace HM0 := Lib.hid (HM0.out.below hb); replace HM1 := Lib.hid (HM1.out.below hb); replace HM2 := Lib.hid (HM2.out.below hb); clear hsl hfr hb; have q4 := blk_cell HC.out.blk 4; have q5 := blk_cell HC.out.blk 5; simp only [List.getElem?_toArray, List.getElem?_cons_zero, List.getElem?_cons_succ] at q4 q5; have h := And.intro q4 (q5); clear q4 q5; go_simp
  refine hK.out _ _ h (fun hHeld => ?_)
  clear hK K
  try simp only [Act.put, List.setIfInBounds_toArray, List.set_cons_zero, List.set_cons_succ]
  refine wpAnyD_takeP (i := 6) (oi := { dst := some 21, op := Op.fieldAddr 48 (Operand.tmp 1) 4, type := 0, pos := "vocab.go:42", after := #[{ on := 0, ground := Ground.phase }, { on := 1, ground := Ground.phase }, { on := 2, ground := Ground.phase }, { on := 3, ground := Ground.phase }, { on := 4, ground := Ground.phase }, { on := 5, ground := Ground.textOnly Departure.lateStoresUnsure }], guard := none }) (d := 21) (v := ?_) rfl rfl (by kernel_rfl) (by kernel_rfl) (by kernel_rfl) (fun _ _ _ h => h) (Or.inl ⟨by rfl, ?_⟩) ?_
  rotate_left
  · (intro w' _; go_simp; (try with_reducible rfl))
  simp only [List.setIfInBounds_toArray, List.set_cons_zero, List.set_cons_succ]
  refine wpAnyD_one (i := 5) (o := { dst := some 20, op := Op.call { callee := Callee.value (Operand.func 115), args := #[Operand.tmp 19], argTypes := #[24] }, type := 24, pos := "vocab.go:42", after := #[{ on := 4, ground := Ground.data }, { on := 2, ground := Ground.chain }], guard := none }) (by kernel_rfl) rfl (by rfl) (fun K hK => ?_)
  go_simp; refine (clone_Jns s.js AJ cJ _ ((HS0.out.below HC.out.bl (Nat.le_refl _)).js) (by have := HLN.out; omega)).mono ?_; rintro e V1 ⟨A5, c5, rfl, hsl, hfr, hb⟩; have HM4 := Lib.hid (HC.out.fresh hsl hfr); replace HC := Lib.hid (HC.out.below hb); replace HM0 := Lib.hid (HM0.out.below hb); replace HM1 := Lib.hid (HM1.out.below hb); replace HM2 := Lib.hid (HM2.out.below hb); replace HM3 := Lib.hid (HM3.out.below hb); clear hsl hfr hb; have q4 := blk_cell HC.out.blk 4; have q5 := blk_cell HC.out.blk 5; simp only [List.getElem?_toArray, List.getElem?_cons_zero, List.getElem?_cons_succ] at q4 q5; have h := And.intro q4 (q5); clear q4 q5; go_simp
  refine hK.out _ _ h (fun hHeld => ?_)
  clear hK K
  try simp only [Act.put, List.setIfInBounds_toArray, List.set_cons_zero, List.set_cons_succ]
  refine wpAnyD_last (D := 7) (by decide) (o := { dst := none, op := Op.store 23 (Operand.tmp 21) (Operand.tmp 17), type := 0, pos := "vocab.go:42", after := #[{ on := 6, ground := Ground.data }, { on := 2, ground := Ground.data }, { on := 5, ground := Ground.chain }, { on := 0, ground := Ground.phase }, { on := 1, ground := Ground.phase }, { on := 2, ground := Ground.phase }, { on := 3, ground := Ground.phase }, { on := 4, ground := Ground.phase }, { on := 5, ground := Ground.textOnly Departure.lateStoresUnsure }], guard := none }) (by kernel_rfl) rfl (by rfl) (fun K hK => ?_)
  have z0 := blk_froz HC.out.blk 4; have d0 := blk_cell HC.out.blk 4; simp only [List.getElem?_toArray, List.getElem?_cons_zero, List.getElem?_cons_succ] at d0; go_simp; have hk : Keep (fun g => g = sb) V1 (V1.setCell ⟨sb, 4, none⟩ (.slice A4 s.cs.length c4)) := (Keep.refl (fun g => g = sb) V1).setCell (p := ⟨sb, 4, none⟩) (.inl rfl) (.slice A4 s.cs.length c4); have hc := blk_set HC.out.blk 4 (.slice A4 s.cs.length c4); simp only [List.setIfInBounds_toArray, List.set_cons_zero, List.set_cons_succ] at hc; replace HC := Lib.hid (HC.out.put hk hc); replace HM0 := Lib.hid (HM0.out.keep hk); replace HM1 := Lib.hid (HM1.out.keep hk); replace HM2 := Lib.hid (HM2.out.keep hk); replace HM3 := Lib.hid (HM3.out.keep hk); replace HM4 := Lib.hid (HM4.out.keep hk); clear z0 d0 hk hc; generalize V1.setCell ⟨sb, 4, none⟩ (.slice A4 s.cs.length c4) = Z1 at *
  refine hK.out _ _ ?_
  clear hK K
  try simp only [Act.put, List.setIfInBounds_toArray, List.set_cons_zero, List.set_cons_succ]
  refine wpAnyD_takeP (i := 8) (oi := { dst := some 22, op := Op.fieldAddr 48 (Operand.tmp 1) 5, type := 0, pos := "vocab.go:42", after := #[{ on := 0, ground := Ground.phase }, { on := 1, ground := Ground.phase }, { on := 2, ground := Ground.phase }, { on := 3, ground := Ground.phase }, { on := 4, ground := Ground.phase }, { on := 5, ground := Ground.phase }, { on := 6, ground := Ground.phase }, { on := 7, ground := Ground.phase }], guard := none }) (d := 22) (v := ?_) rfl rfl (by kernel_rfl) (by kernel_rfl) (by kernel_rfl) (fun _ _ _ h => h) (Or.inl ⟨by rfl, ?_⟩) ?_
  rotate_left
  · (intro w' _; go_simp; (try with_reducible rfl))
  simp only [List.setIfInBounds_toArray, List.set_cons_zero, List.set_cons_succ]
  refine wpAnyD_last (D := 9) (by decide) (o := { dst := none, op := Op.store 24 (Operand.tmp 22) (Operand.tmp 20), type := 0, pos := "vocab.go:42", after := #[{ on := 8, ground := Ground.data }, { on := 5, ground := Ground.data }, { on := 7, ground := Ground.chain }, { on := 0, ground := Ground.phase }, { on := 1, ground := Ground.phase }, { on := 2, ground := Ground.phase }, { on := 3, ground := Ground.phase }, { on := 4, ground := Ground.phase }, { on := 5, ground := Ground.phase }, { on := 6, ground := Ground.phase }, { on := 7, ground := Ground.phase }], guard := none }) (by kernel_rfl) rfl (by rfl) (fun K hK => ?_)
  have z0 := blk_froz HC.out.blk 5; have d0 := blk_cell HC.out.blk 5; simp only [List.getElem?_toArray, List.getElem?_cons_zero, List.getElem?_cons_succ] at d0; go_simp; have hk : Keep (fun g => g = sb) Z1 (Z1.setCell ⟨sb, 5, none⟩ (.slice A5 s.js.length c5)) := (Keep.refl (fun g => g = sb) Z1).setCell (p := ⟨sb, 5, none⟩) (.inl rfl) (.slice A5 s.js.length c5); have hc := blk_set HC.out.blk 5 (.slice A5 s.js.length c5); simp only [List.setIfInBounds_toArray, List.set_cons_zero, List.set_cons_succ] at hc; replace HC := Lib.hid (HC.out.put hk hc); replace HM0 := Lib.hid (HM0.out.keep hk); replace HM1 := Lib.hid (HM1.out.keep hk); replace HM2 := Lib.hid (HM2.out.keep hk); replace HM3 := Lib.hid (HM3.out.keep hk); replace HM4 := Lib.hid (HM4.out.keep hk); clear z0 d0 hk hc; generalize Z1.setCell ⟨sb, 5, none⟩ (.slice A5 s.js.length c5) = Z2 at *
  refine hK.out _ _ ?_
  clear hK K
  try simp only [Act.put, List.setIfInBounds_toArray, List.set_cons_zero, List.set_cons_succ]
  refine wpAnyD_done (by kernel_rfl) ?_ _
  clear hHeld h
  have g0 := blk_cell HC.out.blk 0
  have g1 := blk_cell HC.out.blk 1
  have g2 := blk_cell HC.out.blk 2
  have g3 := blk_cell HC.out.blk 3
  have g4 := blk_cell HC.out.blk 4
  have g5 := blk_cell HC.out.blk 5
  simp only [List.getElem?_toArray, List.getElem?_cons_zero, List.getElem?_cons_succ] at g0 g1 g2 g3 g4 g5
  have d0 := blk_cell HC.out.res 0
  have d1 := blk_cell HC.out.res 1
  have d2 := blk_cell HC.out.res 2
  have d3 := blk_cell HC.out.res 3
  have d4 := blk_cell HC.out.res 4
  have d5 := blk_cell HC.out.res 5
  simp only [List.getElem?_toArray, List.getElem?_cons_zero, List.getElem?_cons_succ] at d0 d1 d2 d3 d4 d5
  have z0 := blk_froz HC.out.res 0
  have z1 := blk_froz HC.out.res 1
  have z2 := blk_froz HC.out.res 2
  have z3 := blk_froz HC.out.res 3
  have z4 := blk_froz HC.out.res 4
  have z5 := blk_froz HC.out.res 5
  go_wp2_with fail
  clear d0 d1 d2 d3 d4 d5 z0 z1 z2 z3 z4 z5 g0 g1 g2 g3 g4 g5
  have hc := (blk_set (blk_set (blk_set (blk_set (blk_set (blk_set HC.out.res 0 (.bool s.rk)) 1 (.slice A1 s.ms.length c1)) 2 (.slice A2 s.ts.length c2)) 3 (.slice A3 s.xs.length c3)) 4 (.slice A4 s.cs.length c4)) 5 (.slice A5 s.js.length c5))
  simp only [List.setIfInBounds_toArray, List.set_cons_zero, List.set_cons_succ] at hc
  have hk := (((((((Keep.refl (fun g => g = sb + 1) Z2).setCell (p := ⟨sb + 1, 0, none⟩) (.inl rfl) (.bool s.rk)).setCell (p := ⟨sb + 1, 1, none⟩) (.inl rfl) (.slice A1 s.ms.length c1)).setCell (p := ⟨sb + 1, 2, none⟩) (.inl rfl) (.slice A2 s.ts.length c2)).setCell (p := ⟨sb + 1, 3, none⟩) (.inl rfl) (.slice A3 s.xs.length c3)).setCell (p := ⟨sb + 1, 4, none⟩) (.inl rfl) (.slice A4 s.cs.length c4)).setCell (p := ⟨sb + 1, 5, none⟩) (.inl rfl) (.slice A5 s.js.length c5))
  refine ret_cell1 (r := sb + 1) rfl rfl (load_spec hc) ?_
  have hbf := hk.below HC.out.bl.size (fun x hx => by have := HC.out.lt; omega)
  exact ⟨⟨A1, A2, A3, A4, A5, c1, c2, c3, c4, c5, rfl, ⟨HM0.out.keep1 hk, sl_to1 (HM1.out.keep1 hk), HM2.out.keep1 hk, HM3.out.keep1 hk, HM4.out.keep1 hk, HS0.out.len⟩⟩, HC.out.bl.trans hbf⟩
end
end Go.Proofs.YtbppaiejpgdbiaaGreat

/- Layer 9 (mark): special tokens in memory; Mark. -/
namespace Go.Proofs.YtbppaiejpgdbiaaGreat
open Go.RowKit Go.Maps Go.WideMaps
set_option maxRecDepth 100000
set_option linter.unusedVariables false
set_option linter.unusedSimpArgs false
def markC (sv : Value) (mi mt : Nat) (fs : Nat → Bool) (mo : Nat) (i : Nat) : Value := if i = 0 then sv else if i = 1 then .map (some mi) else if i = 2 then .map (some mt) else if i < 259 then .bool (fs (i - 3)) else .int .i64 (mo : Nat)
def markA (sv : Value) (mi mt : Nat) (fs : Nat → Bool) (mo : Nat) : Array Value := Array.ofFn (n := 260) fun i => markC sv mi mt fs mo i
theorem mark_get (sv : Value) (mi mt : Nat) (fs : Nat → Bool) (mo : Nat) (i : Nat) (h : i < 260) : (markA sv mi mt fs mo)[i]? = some (markC sv mi mt fs mo i) := by simp [markA, h]
def fndI (M : List (Int × List UInt8)) (id : Int) : Option Nat := M.findIdx? (fun x => x.1 == id)
def fndX (M : List (Int × List UInt8)) (s : List UInt8) : Option Nat := M.findIdx? (fun x => x.2 == s)
def firstB (M : List (Int × List UInt8)) (b : Nat) : Bool := M.any (fun x => match x.2 with | [] => false | c :: _ => c.toNat == b)
def mostM (M : List (Int × List UInt8)) : Nat := M.foldl (fun n x => max n x.2.length) 0
/-- special tokens in memory -/
structure MarkIs (w : World) (base mb : Nat) (M : List (Int × List UInt8)) (sv : Value) (mi mt : Nat) : Prop where
  blk : w.heap[mb]? = some (.cells (markA sv mi mt (firstB M) (mostM M)) 214)
  row : w.ownsRow base 98 2 sv M.length (M.flatMap encIS)
  ids : MapOf Tryz.prog 3 3 (Value.int .i64) w mi M.length (fun i => (fndI M i).map Int.ofNat)
  txs : MapOf Tryz.prog 9 3 strV w mt M.length (fun s => (fndX M s).map Int.ofNat)
  ne : mi ≠ mt
  lt : base ≤ mb ∧ base ≤ mi ∧ base ≤ mt
theorem MarkIs.below {B : Nat} {w w' : World} {base mb : Nat} {M : List (Int × List UInt8)} {sv : Value} {mi mt : Nat} (h : MarkIs w base mb M sv mi mt) (hb : Below B w w') (hB : w.heap.size ≤ B) : MarkIs w' base mb M sv mi mt :=
  ⟨blk_below hb (Nat.lt_of_lt_of_le (blk_lt h.blk) hB) h.blk, own_below h.row hb hB, h.ids.below hb (Nat.lt_of_lt_of_le h.ids.lt hB), h.txs.below hb (Nat.lt_of_lt_of_le h.txs.lt hB), h.ne, h.lt⟩
theorem keyed_int : Keyed Tryz.prog 3 := int_keyed Tryz.underlying3
theorem key_int {n : Int} (h : (Lit.int .i64 n).wf = true) : ∃ l, keyOf Tryz.prog 3 (.int .i64 n) = some l := ⟨_, keyOf_int_mk Tryz.underlying3 h⟩
theorem mitem_any (n : Int) (h0 : 0 ≤ n) (h1 : n < 1000000) (w : World) : Calls Tryz.prog 132 #[.int .i64 n] w fun e w' => e = .returned (.int .i64 (-1 - n)) ∧ w' = w := by
  have e1 : IntKind.i64.wrap (-1 - n) = -1 - n := IntWalk.i64_in _ (by omega)
  go_enter Tryz.func132, Tryz.ntmps132
  go_wp2_with fail
  go_ret
  exact ⟨rfl, rfl⟩
set_option maxHeartbeats 1000000 in
/-- Mark -/
theorem mark_any {w : World} {base mb : Nat} {M : List (Int × List UInt8)} {sv : Value} {mi mt : Nat} (h : MarkIs w base mb M sv mi mt) (id : Int) (hw : (Lit.int .i64 id).wf = true) (hM : M.length ≤ 1000) :
    Calls Tryz.prog 93 #[.pointer (some ⟨mb, 0, none⟩), .int .i64 id] w fun e w' => e = .returned (.tuple #[.int .i64 (match fndI M id with | some i => -1 - (i : Int) | none => 0), .bool (fndI M id).isSome]) ∧ w' = w := by
  have c1 := blk_cell h.blk 1
  rw [mark_get _ _ _ _ _ _ (by decide)] at c1
  change w.cell? ⟨mb, 1, none⟩ = some (.map (some mi)) at c1
  obtain ⟨f, hfd⟩ : ∃ f : Int → Option Int, (fun i => (fndI M i).map Int.ofNat) = f := ⟨_, rfl⟩
  have hids := h.ids
  rw [hfd] at hids
  have HB := Lib.hid hids
  clear hids
  have HK := Lib.hid (key_int hw)
  cases hf : fndI M id with
  | none =>
    have HF : Hid (f id = none) := Lib.hid (by rw [← hfd]; simp only [hf]; rfl)
    clear h hw hf hfd
    go_enter Tryz.func93, Tryz.ntmps93
    go_wp2_with (refine map_look 49 _ _ rfl rfl keyed_int Tryz.underlying49 Tryz.underlying3 (zero_int _) rfl HB.out id rfl HK.out ?_; (simp only [HF.out, Option.getD_none, Option.isSome_none]))
    go_ret2
    exact ⟨rfl, rfl⟩
  | some i =>
    have hi : i < M.length := by
      unfold fndI at hf
      rw [List.findIdx?_eq_some_iff_getElem] at hf
      exact hf.1
    have HF : Hid (f id = some (i : Int)) := Lib.hid (by rw [← hfd]; simp only [hf]; rfl)
    have HI := Lib.hid (fun V => mitem_any (i : Int) (by omega) (by omega) V)
    clear h hw hf hi hM hfd
    go_enter Tryz.func93, Tryz.ntmps93
    go_wp2_with (first | (refine map_look 49 _ _ rfl rfl keyed_int Tryz.underlying49 Tryz.underlying3 (zero_int _) rfl HB.out id rfl HK.out ?_; (simp only [HF.out, Option.getD_some, Option.isSome_some])) | (go_at_call 132; (refine (HI.out w).mono ?_); (rintro e V1 ⟨rfl, rfl⟩)))
    go_ret2
    exact ⟨rfl, rfl⟩
end Go.Proofs.YtbppaiejpgdbiaaGreat

/- Layer 9 (mark): New of no special tokens. -/
namespace Go.Proofs.YtbppaiejpgdbiaaGreat
open Go.RowKit Go.Maps Go.WideMaps
set_option maxRecDepth 100000
set_option linter.unusedVariables false
set_option linter.unusedSimpArgs false
def zeroC (i : Nat) : Value := if i = 0 then .slice none 0 0 else if i = 1 then .map none else if i = 2 then .map none else if i < 259 then .bool false else .int .i64 0
theorem zero_mark0 : Tryz.zeroCells214 = Array.ofFn (n := 260) fun i => zeroC i := by
  have : Tryz.zeroCells214.toList = (Array.ofFn (n := 260) fun i => zeroC i).toList := by
    rw [Array.toList_ofFn]
    kernel_rfl
  exact Array.toList_inj.1 this
theorem zero_mark (a b : Nat) : ((Tryz.zeroCells214.setIfInBounds 1 (.map (some a))).setIfInBounds 2 (.map (some b))) = markA (.slice none 0 0) a b (firstB []) (mostM []) := by
  rw [zero_mark0]
  apply Array.ext_getElem?
  intro j
  by_cases hj : j < 260
  · rw [mark_get _ _ _ _ _ _ hj]
    simp only [Array.getElem?_setIfInBounds, Array.size_setIfInBounds, Array.size_ofFn]
    by_cases h2 : 2 = j
    · subst h2; simp [markC]
    · rw [if_neg h2]
      by_cases h1 : 1 = j
      · subst h1; simp [markC]
      · rw [if_neg h1]
        simp only [Array.getElem?_ofFn, hj, dite_true, zeroC, markC]
        have n1 : ¬ j = 1 := fun e => h1 e.symm
        have n2 : ¬ j = 2 := fun e => h2 e.symm
        simp only [n1, n2, if_false, firstB, List.any_nil, mostM, List.foldl_nil]
        rfl
  · simp [markA, hj]
set_option maxHeartbeats 1000000 in
theorem mnew_nil (w : World) (c : Nat) : Calls Tryz.prog 88 #[.slice none 0 c] w fun e w' => (∃ mb sv mi mt, e = .returned (.tuple #[.pointer (some ⟨mb, 0, none⟩), .int .i64 0, .int .i64 0]) ∧ MarkIs w' w.heap.size mb [] sv mi mt) ∧ Below w.heap.size w w' := by
  have hmm := @run_makeMap Tryz.prog
  have HM : Hid (MarkIs (((w.alloc (.map #[] 0)).alloc (.map #[] 0)).alloc (.cells (markA (.slice none 0 0) w.heap.size (w.heap.size + 1) (firstB []) (mostM [])) 214)) w.heap.size (w.heap.size + 1 + 1) [] (.slice none 0 0) w.heap.size (w.heap.size + 1)) := Lib.hid (by
    refine ⟨?_, own_nil _ _ _ _, ?_, ?_, by omega, by omega, by omega, by omega⟩
    · have := blk_new ((w.alloc (.map #[] 0)).alloc (.map #[] 0)) (.cells (markA (.slice none 0 0) w.heap.size (w.heap.size + 1) (firstB []) (mostM [])) 214)
      simpa [size_alloc] using this
    · refine ((MapOf.made w Tryz.prog 3 3 (Value.int .i64)).keep (F := fun _ => False) ((Keep.refl _ _).alloc _ |>.alloc _) (fun h => h)).congr (fun a => rfl)
    · have := MapOf.made (w.alloc (.map #[] 0)) Tryz.prog 9 3 strV
      rw [size_alloc] at this
      exact (this.keep (F := fun _ => False) ((Keep.refl _ _).alloc _) (fun h => h)).congr (fun a => rfl))
  have HB := Lib.hid ((((Below.refl w.heap.size w).alloc (Nat.le_refl _) (.map #[] 0)).alloc (by simp) (.map #[] 0)).alloc (by simp; omega) (.cells (markA (.slice none 0 0) w.heap.size (w.heap.size + 1) (firstB []) (mostM [])) 214))
  go_enter Tryz.func88, Tryz.ntmps88
  go_upto_region 2 with fail
  rw [zero_mark]
  clear hmm
  obtain ⟨mb, hmb⟩ : ∃ mb, w.heap.size + 1 + 1 = mb := ⟨_, rfl⟩
  rw [hmb] at HM ⊢
  clear hmb
  go_wp2_with fail
  go_loopg [15] 0 (fun n i W => i = .int .i64 0 ∧ MarkIs W w.heap.size mb [] (.slice none 0 0) w.heap.size (w.heap.size + 1) ∧ Below w.heap.size w W)
  case atStart => exact ⟨rfl, HM.out, HB.out⟩
  case round =>
    obtain ⟨rfl, hm, hb⟩ := hrel
    clear HM HB
    have HM := Lib.hid hm
    have HB := Lib.hid hb
    clear hm hb
    go_wp2_with fail
    go_ret3
    exact ⟨⟨_, _, _, _, rfl, HM.out⟩, HB.out⟩
end Go.Proofs.YtbppaiejpgdbiaaGreat

/- Layer 10 (vocab): build's look at the special tokens' numbers. PRINTED by tools/vocab_idx.py. -/
namespace Go.Proofs.YtbppaiejpgdbiaaGreat
open Go.RowKit Go.Maps Go.WideMaps
set_option maxRecDepth 100000
set_option linter.unusedVariables false
set_option linter.unusedSimpArgs false
/-- a special token's number is none of the table's -/
def idB (T : List Ent) (x : Int × List UInt8) : Bool := !decide (x.1 < (T.length : Int))
section
variable {tbase tb : Nat} {T : List Ent} {sv : Value} {mb mp : Nat}
theorem bclo_any (x : Int × List UInt8) (w : World) (pb : Nat) (hp : w.cell? ⟨pb, 0, none⟩ = some (.pointer (some ⟨tb, 0, none⟩))) (hT : TabIs w tbase tb T sv mb mp) :
    Calls Tryz.prog 90 #[.agg #[.int .i64 x.1, .string (bs x.2)], .pointer (some ⟨pb, 0, none⟩)] w fun e w' => e = .returned (.bool (!idB T x)) ∧ Below w.heap.size w w' := by
  obtain ⟨x1, x2⟩ := x
  have hr : (!idB T (x1, x2)) = decide (x1 < (T.length : Int)) := by simp [idB]
  rw [hr]
  have HB := Lib.hid ((Below.refl w.heap.size w).alloc (Nat.le_refl _) (.cells #[.int .i64 x1, .string (bs x2)] 98))
  have hp2 := below_cell HB.out (Nat.le_refl _) hp
  have n0 := blk_cell (blk_new w (.cells #[.int .i64 x1, .string (bs x2)] 98)) 0
  simp only [List.getElem?_toArray, List.getElem?_cons_zero, List.getElem?_cons_succ] at n0
  have HT := Lib.hid (hT.below HB.out (Nat.le_refl _)).drew
  clear hp hT hr
  go_enter Tryz.func90, Tryz.ntmps90
  go_upto_region 1 with fail
  generalize (w.alloc (.cells #[.int .i64 x1, .string (bs x2)] 98)) = W at *
  obtain ⟨nb, hnb⟩ : ∃ nb, w.heap.size = nb := ⟨_, rfl⟩
  have HB9 := Lib.hid HB.out
  rw [hnb] at n0 ⊢
  clear hnb
  refine wp_region_held_drew (S := fun V => V.cell? ⟨nb, 0, none⟩ = some (.int .i64 x1) ∧ V.cell? ⟨pb, 0, none⟩ = some (.pointer (some ⟨tb, 0, none⟩))) (by kernel_rfl) (by exact ⟨n0, hp2⟩) (fun hHeld => ?_)
  refine wpAnyH_takeD (i := 0) (d := 4) (v := ?_) rfl rfl (by kernel_rfl) (by kernel_rfl) (by kernel_rfl) (fun _ _ _ h => h) (Or.inl ⟨by rfl, ?_⟩) hHeld ?_
  rotate_left
  · (intro w' hSw; (try dsimp only at hSw); go_simp; (try with_reducible rfl))
  simp only [List.setIfInBounds_toArray, List.set_cons_zero, List.set_cons_succ]
  refine wpAnyH_takeD (i := 1) (d := 5) (v := ?_) rfl rfl (by kernel_rfl) (by kernel_rfl) (by kernel_rfl) (fun _ _ _ h => h) (Or.inl ⟨by rfl, ?_⟩) hHeld ?_
  rotate_left
  · (intro w' hSw; (try dsimp only at hSw); go_simp; (try with_reducible rfl))
  simp only [List.setIfInBounds_toArray, List.set_cons_zero, List.set_cons_succ]
  refine wpAnyH_takeD (i := 2) (d := 6) (v := ?_) rfl rfl (by kernel_rfl) (by kernel_rfl) (by kernel_rfl) (fun _ _ _ h => h) (Or.inl ⟨by rfl, ?_⟩) hHeld ?_
  rotate_left
  · (intro w' hSw; (try dsimp only at hSw); go_simp; (try with_reducible rfl))
  simp only [List.setIfInBounds_toArray, List.set_cons_zero, List.set_cons_succ]
  refine wpAnyH_ready (rs := [3]) (by kernel_rfl) (by simp) ?_
  refine AllReadyH.cons rfl (fun K hK => ?_) AllReadyH.nil
  (try go_simp)
  refine (len_tab HT.out).mono ?_; rintro e V1 ⟨rfl, rfl⟩; have h := hHeld; go_simp
  go_wp2_with fail
  refine hK.out _ _ h (fun hHeld => ?_)
  clear hK K
  try simp only [Act.put, List.setIfInBounds_toArray, List.set_cons_zero, List.set_cons_succ]
  refine wpAnyH_takeD (i := 4) (d := 8) (v := ?_) rfl rfl (by kernel_rfl) (by kernel_rfl) (by kernel_rfl) (fun _ _ _ h => h) (Or.inl ⟨by rfl, ?_⟩) hHeld ?_
  rotate_left
  · (intro w' hSw; (try dsimp only at hSw); go_simp; (try with_reducible rfl))
  simp only [List.setIfInBounds_toArray, List.set_cons_zero, List.set_cons_succ]
  refine wpAnyH_takeD (i := 5) (d := 3) (v := ?_) rfl rfl (by kernel_rfl) (by kernel_rfl) (by kernel_rfl) (fun _ _ _ h => h) (Or.inl ⟨by rfl, ?_⟩) hHeld ?_
  rotate_left
  · (intro w' hSw; (try dsimp only at hSw); go_simp; (try with_reducible rfl))
  simp only [List.setIfInBounds_toArray, List.set_cons_zero, List.set_cons_succ]
  refine wpAnyH_done (by kernel_rfl) ?_ _
  go_wp2_with fail
  go_ret
  exact ⟨rfl, HB.out.drew⟩
set_option maxHeartbeats 1000000 in
theorem bidx_any (xs : List (Int × List UInt8)) (A : Option Addr) (c pb : Nat) (w : World) (hA : Sl w A encIS 2 xs) (hp : w.cell? ⟨pb, 0, none⟩ = some (.pointer (some ⟨tb, 0, none⟩))) (hT : TabIs w tbase tb T sv mb mp) (hl : xs.length < 9000000000000000000) :
    Calls Tryz.prog 89 #[.slice A xs.length c, .func (.func 90) #[] #[.pointer (some ⟨pb, 0, none⟩)]] w fun e w' => (∃ r, e = .returned (.int .i64 r) ∧ decide (0 ≤ r) = !(xs.all (idB T))) ∧ Below w.heap.size w w' := by
  have HA := Lib.hid hA
  have HP := Lib.hid hp
  have HL := Lib.hid hl
  have HTT := Lib.hid hT
  clear hA hp hT
  go_enter Tryz.func89, Tryz.ntmps89
  go_wp2_with fail
  go_loopg [8] xs.length (fun n i W => ∃ k : Nat, k + n = xs.length ∧ i = .int .i64 (k : Int) ∧ Below w.heap.size w W ∧ (xs.take k).all (idB T) = true)
  case atStart => exact ⟨0, Nat.zero_add _, rfl, Below.refl _ _, rfl⟩
  case round =>
    obtain ⟨k, hk, rfl, hbl, hall⟩ := hrel
    rename World => W
    by_cases hlt : k < xs.length
    · have HT := Lib.hid (take_snoc hlt)
      have HG := Lib.hid (show xs[k]? = some xs[k] from by simp)
      have HC := Lib.hid (bclo_any xs[k] W pb (below_cell hbl (Nat.le_refl _) HP.out) (HTT.out.below hbl (Nat.le_refl _)))
      obtain ⟨b, o, rfl, hc⟩ := HA.out.at k hlt
      have g0 : W.cell? ⟨b, o + k * 2, none⟩ = some (.int .i64 xs[k].1) := below_cell hbl (Nat.le_refl _) (hc 0 _ rfl)
      have g1 : W.cell? ⟨b, o + k * 2 + 1, none⟩ = some (.string (bs xs[k].2)) := below_cell hbl (Nat.le_refl _) (hc 1 _ rfl)
      generalize xs[k] = x at *
      have HK := Lib.hid hk
      have HBL := Lib.hid hbl
      have HALL := Lib.hid hall
      have w1 : IntKind.i64.wrap ((k : Int) + 1) = ((k + 1 : Nat) : Int) := IntWalk.i64_in _ (by omega)
      have k0 : (0 : Int) ≤ (k : Int) := by omega
      have k1 : (k : Int) < (xs.length : Int) := by omega
      obtain ⟨b2, hb2⟩ : ∃ b, (idB T) x = b := ⟨_, rfl⟩
      rw [hb2] at HC
      have HB2 := Lib.hid hb2
      clear hk hbl hall hc hb2
      rcases b2 with _ | _
      · go_wp2_with (go_at_call 90; (refine HC.out.mono ?_); (rintro e V1 ⟨rfl, hb⟩); (have HB3 := Lib.hid (HBL.out.trans (hb.mono HBL.out.size))); (clear hb))
        go_ret
        refine ⟨⟨_, rfl, ?_⟩, HB3.out⟩
        rw [all_false HG.out HB2.out, decide_eq_true k0]
        rfl
      · go_wp2_with (go_at_call 90; (refine HC.out.mono ?_); (rintro e V1 ⟨rfl, hb⟩); (have HB3 := Lib.hid (HBL.out.trans (hb.mono HBL.out.size))); (clear hb))
        have hk := HK.out
        go_roundg (xs.length - (k + 1))
        · refine ⟨k + 1, by omega, rfl, HB3.out, ?_⟩
          rw [HT.out, all_snoc, HALL.out, HB2.out]
          rfl
        · omega
    · have hke : k = xs.length := by omega
      have HBL := Lib.hid hbl
      have HALL : Hid (xs.all (idB T) = true) := Lib.hid (by rw [hke, List.take_length] at hall; exact hall)
      have k1 : ¬ (k : Int) < (xs.length : Int) := by omega
      clear hk hke hbl hall
      go_wp2_with fail
      go_ret
      exact ⟨⟨_, rfl, by rw [HALL.out]; rfl⟩, HBL.out⟩
end
end Go.Proofs.YtbppaiejpgdbiaaGreat

/- Layer 10 (vocab): build, where nothing is wrong. PRINTED by tools/vocab_build.py. -/
namespace Go.Proofs.YtbppaiejpgdbiaaGreat
open Go.RowKit Go.Maps Go.WideMaps
set_option maxRecDepth 100000
set_option linter.unusedVariables false
set_option linter.unusedSimpArgs false
theorem results_tm4 {fn : Func} {a b c d : Tmp} (h : fn.results = #[.tmp a, .tmp b, .tmp c, .tmp d]) (tmps : Array Value) (P : Program) (w : World) :
    (results fn tmps).run P w = .ok (.tuple #[tmps.getD a undef, tmps.getD b undef, tmps.getD c undef, tmps.getD d undef]) w := by
  simp only [results, h]
  simp [Sem.run_bind, Result.andThen]

/-- a vocabulary in memory -/
structure VocIs (w : World) (base vb : Nat) (s : SpecP) (T : List Ent) (A1 A2 A3 A4 A5 : Option Addr) (c1 c2 c3 c4 c5 tbase tb bk kbase mk : Nat) (sv : Value) (mb mp : Nat) (sv2 : Value) (mi mt : Nat) (l : Value) (dn st se us : Int) : Prop where
  blk : w.heap[vb]? = some (.cells #[.bool s.rk, .slice A1 s.ms.length c1, .slice A2 s.ts.length c2, .slice A3 s.xs.length c3, .slice A4 s.cs.length c4, .slice A5 s.js.length c5, .pointer (some ⟨tb, 0, none⟩), .pointer (some ⟨bk, 0, none⟩), .pointer (some ⟨mk, 0, none⟩), .int .u32 dn, .int .i32 st, .int .u32 se, l, .int .i64 us] 161)
  org : ∃ V0 : World, V0.heap.size ≤ vb ∧ SpecAt V0 s A1 A2 A3 A4 A5 ∧ TabIs V0 tbase tb T sv mb mp ∧ BTab V0 bk (Cof s.cs) (Jof s.js) ∧ MarkIs V0 kbase mk s.xs sv2 mi mt ∧ Below V0.heap.size V0 w
  lt : base ≤ vb ∧ base ≤ tbase ∧ base ≤ kbase
section
variable {w : World} {base vb : Nat} {s : SpecP} {T : List Ent} {A1 A2 A3 A4 A5 : Option Addr} {c1 c2 c3 c4 c5 tbase tb bk kbase mk : Nat} {sv : Value} {mb mp : Nat} {sv2 : Value} {mi mt : Nat} {l : Value} {dn st se us : Int}
theorem VocIs.tab (h : VocIs w base vb s T A1 A2 A3 A4 A5 c1 c2 c3 c4 c5 tbase tb bk kbase mk sv mb mp sv2 mi mt l dn st se us) : TabIs w tbase tb T sv mb mp := by obtain ⟨V0, _, a, b, c, d, e⟩ := h.org; exact b.below e (Nat.le_refl _)
theorem VocIs.bnd (h : VocIs w base vb s T A1 A2 A3 A4 A5 c1 c2 c3 c4 c5 tbase tb bk kbase mk sv mb mp sv2 mi mt l dn st se us) : BTab w bk (Cof s.cs) (Jof s.js) := by obtain ⟨V0, _, a, b, c, d, e⟩ := h.org; exact c.below e (blk_lt c.1)
theorem VocIs.mrk (h : VocIs w base vb s T A1 A2 A3 A4 A5 c1 c2 c3 c4 c5 tbase tb bk kbase mk sv mb mp sv2 mi mt l dn st se us) : MarkIs w kbase mk s.xs sv2 mi mt := by obtain ⟨V0, _, a, b, c, d, e⟩ := h.org; exact d.below e (Nat.le_refl _)
end
theorem BTab.lt {w : World} {bk : Nat} {C : Nat → Int} {J : Nat → Nat → Bool} (h : BTab w bk C J) : bk < w.heap.size := blk_lt h.1
section
variable {w : World} {s : SpecP} {T : List Ent} {AM AT AX AC AJ : Option Addr} {cM cT cX cC cJ : Nat}
set_option maxHeartbeats 2000000 in
theorem build_any (hs : SpecAt w s AM AT AX AC AJ)
    (hL : ∀ V, Below w.heap.size w V → Calls Tryz.prog 87 #[specW s AM AT AX AC AJ cM cT cX cC cJ] V fun e w' => (∃ tb sv mb mp n, e = .returned (.tuple #[.pointer (some ⟨tb, 0, none⟩), .int .i64 n, .int .i64 0]) ∧ TabIs w' V.heap.size tb T sv mb mp) ∧ Below V.heap.size V w')
    (hM : ∀ V, Below w.heap.size w V → Calls Tryz.prog 88 #[.slice AX s.xs.length cX] V fun e w' => (∃ mb sv mi mt n, e = .returned (.tuple #[.pointer (some ⟨mb, 0, none⟩), .int .i64 n, .int .i64 0]) ∧ MarkIs w' V.heap.size mb s.xs sv mi mt) ∧ Below V.heap.size V w')
    (hid : s.xs.all (idB T) = true) (hln : s.ms.length ≤ 1000000 ∧ s.ts.length ≤ 1000000 ∧ s.xs.length ≤ 1000000 ∧ s.cs.length ≤ 1000000 ∧ s.js.length ≤ 1000000) (hcs : s.cs.all spanB = true) (hjs : s.js.all jnB = true) :
    Calls Tryz.prog 48 #[specW s AM AT AX AC AJ cM cT cX cC cJ] w fun e w' => (∃ vb A1 A2 A3 A4 A5 c1 c2 c3 c4 c5 tbase tb bk kbase mk sv mb mp sv2 mi mt, e = .returned (.tuple #[.pointer (some ⟨vb, 0, none⟩), .int .i64 0, .int .i64 0, .int .i64 0]) ∧ VocIs w' w.heap.size vb s T A1 A2 A3 A4 A5 c1 c2 c3 c4 c5 tbase tb bk kbase mk sv mb mp sv2 mi mt (.slice none 0 0) 0 0 0 0) ∧ Below w.heap.size w w' := by
  unfold specW specV at hL ⊢
  have HS := Lib.hid hs
  have HL := Lib.hid hL
  have HM := Lib.hid hM
  have HI := Lib.hid hid
  have HLN := Lib.hid hln
  have HC := Lib.hid hcs
  have HJ := Lib.hid hjs
  have HB0 := Lib.hid ((Below.refl w.heap.size w).alloc (Nat.le_refl _) (.cells #[.bool s.rk, .slice AM s.ms.length cM, .slice AT s.ts.length cT, .slice AX s.xs.length cX, .slice AC s.cs.length cC, .slice AJ s.js.length cJ] 48))
  have HO0 := Lib.hid (blk_new w (.cells #[.bool s.rk, .slice AM s.ms.length cM, .slice AT s.ts.length cT, .slice AX s.xs.length cX, .slice AC s.cs.length cC, .slice AJ s.js.length cJ] 48))
  obtain ⟨sb, hsb⟩ : ∃ sb, w.heap.size = sb := ⟨_, rfl⟩
  have HO0 : Hid ((w.alloc (.cells #[.bool s.rk, .slice AM s.ms.length cM, .slice AT s.ts.length cT, .slice AX s.xs.length cX, .slice AC s.cs.length cC, .slice AJ s.js.length cJ] 48)).heap[sb]? = some (.cells #[.bool s.rk, .slice AM s.ms.length cM, .slice AT s.ts.length cT, .slice AX s.xs.length cX, .slice AC s.cs.length cC, .slice AJ s.js.length cJ] 48)) := Lib.hid (by rw [← hsb]; exact HO0.out)
  clear hs hL hM hid hln hcs hjs
  go_enter Tryz.func48, Tryz.ntmps48
  go_upto_region 13 with (first
    | (go_at_call 87; (refine (HL.out _ HB0.out).mono ?_); (rintro e V1 ⟨⟨tb, sv, mb, mp, n1, rfl, ht⟩, hb⟩); (have HB1 := Lib.hid ((HB0.out.trans (hb.mono HB0.out.size)).trans (((Below.refl V1.heap.size V1).alloc (Nat.le_refl _) (.cells #[.pointer (some ⟨tb, 0, none⟩)] 63)).mono (HB0.out.trans (hb.mono HB0.out.size)).size))); (have HO1 := Lib.hid (blk_alloc (blk_below hb (blk_lt HO0.out) HO0.out) (.cells #[.pointer (some ⟨tb, 0, none⟩)] 63))); (have HP1 := Lib.hid (blk_new V1 (.cells #[.pointer (some ⟨tb, 0, none⟩)] 63))); (have HT1 := Lib.hid (ht.below ((Below.refl V1.heap.size V1).alloc (Nat.le_refl _) (.cells #[.pointer (some ⟨tb, 0, none⟩)] 63)) (Nat.le_refl _))); (have a1 := blk_cell HO1.out 3); (simp only [List.getElem?_toArray, List.getElem?_cons_zero, List.getElem?_cons_succ] at a1); (clear ht hb))
    | (go_at_call 88; (obtain ⟨pb, hpb⟩ : ∃ pb, V1.heap.size = pb := ⟨_, rfl⟩); (have HP1 := Lib.hid HP1.out); (rw [hpb] at HP1 ⊢); (generalize hX : V1.alloc (.cells #[.pointer (some ⟨tb, 0, none⟩)] 63) = X at *); (clear hX hpb); (refine (HM.out X HB1.out).mono ?_); (rintro e V2 ⟨⟨mk, sv2, mi, mt, n2, rfl, hm⟩, hb⟩); (have HB2 := Lib.hid (HB1.out.trans (hb.mono HB1.out.size))); (have HO2 := Lib.hid (blk_below hb (blk_lt HO1.out) HO1.out)); (have HP2 := Lib.hid (blk_below hb (blk_lt HP1.out) HP1.out)); (have HT2 := Lib.hid (HT1.out.below hb (Nat.le_refl _))); (have HK2 := Lib.hid hm); (have a2 := blk_cell HO2.out 3); (simp only [List.getElem?_toArray, List.getElem?_cons_zero, List.getElem?_cons_succ] at a2); (clear hm hb))
    | (go_at_call 89; (refine (bidx_any s.xs AX cX pb V2 (HS.out.xs.below HB2.out (Nat.le_refl _)) (blk_cell HP2.out 0) HT2.out HS.out.len.2.2.1).mono ?_); (rintro e V3 ⟨⟨r, rfl, hr⟩, hb⟩); (rw [HI.out] at hr); (have r0 : ¬ (0 : Int) ≤ r := of_decide_eq_false hr); (have HB3 := Lib.hid (HB2.out.trans (hb.mono HB2.out.size))); (have HO3 := Lib.hid (blk_below hb (blk_lt HO2.out) HO2.out)); (have HP3 := Lib.hid (blk_below hb (blk_lt HP2.out) HP2.out)); (have HT3 := Lib.hid (HT2.out.below hb (Nat.le_refl _))); (have HK3 := Lib.hid (HK2.out.below hb (Nat.le_refl _))); (have a3 := blk_cell HO3.out 4); (have a4 := blk_cell HO3.out 5); (simp only [List.getElem?_toArray, List.getElem?_cons_zero, List.getElem?_cons_succ] at a3 a4); (clear hr hb))
    | (go_at_call 91; (refine (bnew_any s.cs s.js AC AJ cC cJ V3 (HS.out.cs.below HB3.out (Nat.le_refl _)) (HS.out.js.below HB3.out (Nat.le_refl _)) HS.out.len.2.2.2.1 HS.out.len.2.2.2.2).mono ?_); (rintro e V4 ⟨hb, hn⟩); (rw [if_pos (by rw [HC.out, HJ.out]; rfl)] at hn); (obtain ⟨bk, hbk, rfl, hbt, hbs⟩ := hn); (have HB4 := Lib.hid (HB3.out.trans (hb.mono HB3.out.size))); (have HO4 := Lib.hid (blk_below hb (blk_lt HO3.out) HO3.out)); (have HP4 := Lib.hid (blk_below hb (blk_lt HP3.out) HP3.out)); (have HT4 := Lib.hid (HT3.out.below hb (Nat.le_refl _))); (have HK4 := Lib.hid (HK3.out.below hb (Nat.le_refl _))); (have HN4 : Hid (BTab V4 bk (Cof s.cs) (Jof s.js)) := Lib.hid ⟨hbt, hbs⟩); (clear hb hbk hbt hbs)))
  clear a1 a2 a3 a4 r0
  refine wp_region_D (Ds := []) (S := fun V => V.cell? ⟨sb, 0, none⟩ = some (.bool s.rk) ∧ V.cell? ⟨sb, 1, none⟩ = some (.slice AM s.ms.length cM) ∧ V.cell? ⟨sb, 2, none⟩ = some (.slice AT s.ts.length cT) ∧ V.cell? ⟨sb, 3, none⟩ = some (.slice AX s.xs.length cX) ∧ V.cell? ⟨sb, 4, none⟩ = some (.slice AC s.cs.length cC) ∧ V.cell? ⟨sb, 5, none⟩ = some (.slice AJ s.js.length cJ) ∧ V.cell? ⟨pb, 0, none⟩ = some (.pointer (some ⟨tb, 0, none⟩))) (by kernel_rfl) (by (have q0 := blk_cell HO4.out 0); (have q1 := blk_cell HO4.out 1); (have q2 := blk_cell HO4.out 2); (have q3 := blk_cell HO4.out 3); (have q4 := blk_cell HO4.out 4); (have q5 := blk_cell HO4.out 5); (have q6 := blk_cell HP4.out 0); (simp only [List.getElem?_toArray, List.getElem?_cons_zero, List.getElem?_cons_succ] at q0 q1 q2 q3 q4 q5 q6); exact And.intro q0 (And.intro q1 (And.intro q2 (And.intro q3 (And.intro q4 (And.intro q5 (q6))))))) (fun hHeld => ?_)
  (have hd : Below V4.heap.size V4 V4.drew := ⟨rfl, rfl, rfl, Nat.le_refl _, fun _ _ => rfl⟩); (replace HB4 := Lib.hid HB4.out.drew); (replace HO4 := Lib.hid (blk_below hd (blk_lt HO4.out) HO4.out)); (replace HP4 := Lib.hid (blk_below hd (blk_lt HP4.out) HP4.out)); (replace HT4 := Lib.hid (HT4.out.below hd (Nat.le_refl _))); (replace HK4 := Lib.hid (HK4.out.below hd (Nat.le_refl _))); (replace HN4 := Lib.hid (HN4.out.below hd (blk_lt HN4.out.1))); clear hd; generalize V4.drew = X4 at *
  refine wpAnyD_takeP (i := 3) (oi := { dst := some 54, op := Op.move (Operand.tmp 11), type := 139, pos := "vocab.go:73", after := #[], guard := none }) (d := 54) (v := ?_) rfl rfl (by kernel_rfl) (by kernel_rfl) (by kernel_rfl) (fun _ _ _ h => h) (Or.inl ⟨by rfl, ?_⟩) ?_
  rotate_left
  · (intro w' _; go_simp; (try with_reducible rfl))
  simp only [List.setIfInBounds_toArray, List.set_cons_zero, List.set_cons_succ]
  refine wpAnyD_takeP (i := 4) (oi := { dst := some 55, op := Op.move (Operand.tmp 9), type := 124, pos := "vocab.go:73", after := #[], guard := none }) (d := 55) (v := ?_) rfl rfl (by kernel_rfl) (by kernel_rfl) (by kernel_rfl) (fun _ _ _ h => h) (Or.inl ⟨by rfl, ?_⟩) ?_
  rotate_left
  · (intro w' _; go_simp; (try with_reducible rfl))
  simp only [List.setIfInBounds_toArray, List.set_cons_zero, List.set_cons_succ]
  refine wpAnyD_takeD (i := 0) (oi := { dst := some 51, op := Op.load 48 (Operand.tmp 1), type := 48, pos := "vocab.go:73", after := #[], guard := none }) (d := 51) (v := ?_) rfl rfl (by kernel_rfl) (by kernel_rfl) (by kernel_rfl) (by kernel_rfl) (fun _ _ _ h => h) (Or.inl ⟨by rfl, ?_⟩) hHeld ?_
  rotate_left
  · (intro w' hSw; (try dsimp only at hSw); go_simp; (try with_reducible rfl))
  simp only [List.setIfInBounds_toArray, List.set_cons_zero, List.set_cons_succ]
  refine wpAnyD_takeD (i := 2) (oi := { dst := some 53, op := Op.load 63 (Operand.tmp 6), type := 63, pos := "vocab.go:73", after := #[], guard := none }) (d := 53) (v := ?_) rfl rfl (by kernel_rfl) (by kernel_rfl) (by kernel_rfl) (by kernel_rfl) (fun _ _ _ h => h) (Or.inl ⟨by rfl, ?_⟩) hHeld ?_
  rotate_left
  · (intro w' hSw; (try dsimp only at hSw); go_simp; (try with_reducible rfl))
  simp only [List.setIfInBounds_toArray, List.set_cons_zero, List.set_cons_succ]
  refine wpAnyD_one (i := 1) (o := { dst := some 52, op := Op.call { callee := Callee.value (Operand.func 76), args := #[Operand.tmp 51], argTypes := #[48] }, type := 48, pos := "vocab.go:73", after := #[{ on := 0, ground := Ground.data }], guard := none }) (by kernel_rfl) rfl (by rfl) (fun K hK => ?_)
  go_simp; refine (copied_any (s := s) (HS.out.below HB4.out (Nat.le_refl _)) (by have := HLN.out; omega)).mono ?_; rintro e V5 ⟨⟨A1, A2, A3, A4, A5, c1, c2, c3, c4, c5, rfl, hsp⟩, hb⟩; have HB5 := Lib.hid (HB4.out.trans (hb.mono HB4.out.size)); have HO5 := Lib.hid (blk_below hb (blk_lt HO4.out) HO4.out); have HP5 := Lib.hid (blk_below hb (blk_lt HP4.out) HP4.out); have HT5 := Lib.hid (HT4.out.below hb (Nat.le_refl _)); have HK5 := Lib.hid (HK4.out.below hb (Nat.le_refl _)); have HN5 := Lib.hid (HN4.out.below hb (blk_lt HN4.out.1)); have HS5 := Lib.hid hsp; clear hsp hb; have q0 := blk_cell HO5.out 0; have q1 := blk_cell HO5.out 1; have q2 := blk_cell HO5.out 2; have q3 := blk_cell HO5.out 3; have q4 := blk_cell HO5.out 4; have q5 := blk_cell HO5.out 5; have q6 := blk_cell HP5.out 0; simp only [List.getElem?_toArray, List.getElem?_cons_zero, List.getElem?_cons_succ] at q0 q1 q2 q3 q4 q5 q6; have h := And.intro q0 (And.intro q1 (And.intro q2 (And.intro q3 (And.intro q4 (And.intro q5 (q6)))))); clear q0 q1 q2 q3 q4 q5 q6; unfold specW specV; go_simp
  refine hK.out _ _ h (fun hHeld => ?_)
  clear hK K
  try simp only [Act.put, List.setIfInBounds_toArray, List.set_cons_zero, List.set_cons_succ]
  refine wpAnyD_takeP (i := 5) (oi := { dst := some 56, op := Op.build 141 #[(0, Operand.tmp 52), (1, Operand.tmp 53), (2, Operand.tmp 54), (3, Operand.tmp 55)], type := 141, pos := "vocab.go:73", after := #[{ on := 1, ground := Ground.data }, { on := 2, ground := Ground.data }, { on := 3, ground := Ground.data }, { on := 4, ground := Ground.data }], guard := none }) (d := 56) (v := ?_) rfl rfl (by kernel_rfl) (by kernel_rfl) (by kernel_rfl) (fun _ _ _ h => h) (Or.inl ⟨by rfl, ?_⟩) ?_
  rotate_left
  · (intro w' _; go_simp; (try with_reducible rfl))
  simp only [List.setIfInBounds_toArray, List.set_cons_zero, List.set_cons_succ]
  refine wpAnyD_takeP (i := 6) (oi := { dst := some 57, op := Op.build 161 #[(0, Operand.tmp 56)], type := 161, pos := "vocab.go:73", after := #[{ on := 5, ground := Ground.data }], guard := none }) (d := 57) (v := ?_) rfl rfl (by kernel_rfl) (by kernel_rfl) (by kernel_rfl) (fun _ _ _ h => h) (Or.inl ⟨by rfl, ?_⟩) ?_
  rotate_left
  · (intro w' _; go_simp; (try with_reducible rfl))
  simp only [List.setIfInBounds_toArray, List.set_cons_zero, List.set_cons_succ]
  refine wpAnyD_one (i := 7) (o := { dst := some 58, op := Op.box 161 (Operand.tmp 57), type := 30, pos := "vocab.go:73", after := #[{ on := 6, ground := Ground.data }], guard := none }) (by kernel_rfl) rfl (by rfl) (fun K hK => ?_)
  go_simp; have hal := ((Below.refl V5.heap.size V5).alloc (Nat.le_refl _) (.cells #[.bool s.rk, .slice A1 s.ms.length c1, .slice A2 s.ts.length c2, .slice A3 s.xs.length c3, .slice A4 s.cs.length c4, .slice A5 s.js.length c5, .pointer (some ⟨tb, 0, none⟩), .pointer (some ⟨bk, 0, none⟩), .pointer (some ⟨mk, 0, none⟩), .int .u32 0, .int .i32 0, .int .u32 0, .slice none 0 0, .int .i64 0] 161)); have HV := Lib.hid (blk_new V5 (.cells #[.bool s.rk, .slice A1 s.ms.length c1, .slice A2 s.ts.length c2, .slice A3 s.xs.length c3, .slice A4 s.cs.length c4, .slice A5 s.js.length c5, .pointer (some ⟨tb, 0, none⟩), .pointer (some ⟨bk, 0, none⟩), .pointer (some ⟨mk, 0, none⟩), .int .u32 0, .int .i32 0, .int .u32 0, .slice none 0 0, .int .i64 0] 161)); have HB6 := Lib.hid (HB5.out.trans (hal.mono HB5.out.size)); have HO6 := Lib.hid (blk_below hal (blk_lt HO5.out) HO5.out); have HP6 := Lib.hid (blk_below hal (blk_lt HP5.out) HP5.out); have HT6 := Lib.hid (HT5.out.below hal (Nat.le_refl _)); have HK6 := Lib.hid (HK5.out.below hal (Nat.le_refl _)); have HN6 := Lib.hid (HN5.out.below hal (blk_lt HN5.out.1)); have HS6 := Lib.hid (HS5.out.below hal (Nat.le_refl _)); have HVL := Lib.hid HB5.out.size; have HAL := Lib.hid hal; clear hal; obtain ⟨vb, hvb⟩ : ∃ vb, V5.heap.size = vb := ⟨_, rfl⟩; have HVB : Hid (V5.heap.size ≤ vb) := Lib.hid (Nat.le_of_eq hvb); rw [hvb] at HV HVL ⊢; clear hvb; generalize V5.alloc (.cells #[.bool s.rk, .slice A1 s.ms.length c1, .slice A2 s.ts.length c2, .slice A3 s.xs.length c3, .slice A4 s.cs.length c4, .slice A5 s.js.length c5, .pointer (some ⟨tb, 0, none⟩), .pointer (some ⟨bk, 0, none⟩), .pointer (some ⟨mk, 0, none⟩), .int .u32 0, .int .i32 0, .int .u32 0, .slice none 0 0, .int .i64 0] 161) = V6 at *; have q0 := blk_cell HO6.out 0; have q1 := blk_cell HO6.out 1; have q2 := blk_cell HO6.out 2; have q3 := blk_cell HO6.out 3; have q4 := blk_cell HO6.out 4; have q5 := blk_cell HO6.out 5; have q6 := blk_cell HP6.out 0; simp only [List.getElem?_toArray, List.getElem?_cons_zero, List.getElem?_cons_succ] at q0 q1 q2 q3 q4 q5 q6; have h := And.intro q0 (And.intro q1 (And.intro q2 (And.intro q3 (And.intro q4 (And.intro q5 (q6)))))); clear q0 q1 q2 q3 q4 q5 q6
  refine hK.out _ _ h (fun hHeld => ?_)
  clear hK K
  try simp only [Act.put, List.setIfInBounds_toArray, List.set_cons_zero, List.set_cons_succ]
  refine wpAnyD_takeP (i := 8) (oi := { dst := some 2, op := Op.assign (Operand.tmp 58), type := 30, pos := "vocab.go:73", after := #[{ on := 7, ground := Ground.data }, { on := 1, ground := Ground.chain }, { on := 0, ground := Ground.phase }, { on := 1, ground := Ground.phase }, { on := 2, ground := Ground.phase }, { on := 3, ground := Ground.phase }, { on := 4, ground := Ground.phase }, { on := 5, ground := Ground.phase }, { on := 6, ground := Ground.phase }, { on := 7, ground := Ground.phase }], guard := none }) (d := 2) (v := ?_) rfl rfl (by kernel_rfl) (by kernel_rfl) (by kernel_rfl) (fun _ _ _ h => h) (Or.inl ⟨by rfl, ?_⟩) ?_
  rotate_left
  · (intro w' _; go_simp; (try with_reducible rfl))
  simp only [List.setIfInBounds_toArray, List.set_cons_zero, List.set_cons_succ]
  refine wpAnyD_takeP (i := 9) (oi := { dst := some 3, op := Op.assign (Operand.const (Value.int IntKind.i64 0)), type := 100, pos := "vocab.go:73", after := #[{ on := 8, ground := Ground.chain }, { on := 0, ground := Ground.phase }, { on := 1, ground := Ground.phase }, { on := 2, ground := Ground.phase }, { on := 3, ground := Ground.phase }, { on := 4, ground := Ground.phase }, { on := 5, ground := Ground.phase }, { on := 6, ground := Ground.phase }, { on := 7, ground := Ground.phase }, { on := 8, ground := Ground.phase }], guard := none }) (d := 3) (v := ?_) rfl rfl (by kernel_rfl) (by kernel_rfl) (by kernel_rfl) (fun _ _ _ h => h) (Or.inl ⟨by rfl, ?_⟩) ?_
  rotate_left
  · (intro w' _; go_simp; (try with_reducible rfl))
  simp only [List.setIfInBounds_toArray, List.set_cons_zero, List.set_cons_succ]
  refine wpAnyD_takeP (i := 10) (oi := { dst := some 4, op := Op.assign (Operand.const (Value.int IntKind.i64 0)), type := 3, pos := "vocab.go:73", after := #[{ on := 9, ground := Ground.chain }, { on := 0, ground := Ground.phase }, { on := 1, ground := Ground.phase }, { on := 2, ground := Ground.phase }, { on := 3, ground := Ground.phase }, { on := 4, ground := Ground.phase }, { on := 5, ground := Ground.phase }, { on := 6, ground := Ground.phase }, { on := 7, ground := Ground.phase }, { on := 8, ground := Ground.phase }, { on := 9, ground := Ground.phase }], guard := none }) (d := 4) (v := ?_) rfl rfl (by kernel_rfl) (by kernel_rfl) (by kernel_rfl) (fun _ _ _ h => h) (Or.inl ⟨by rfl, ?_⟩) ?_
  rotate_left
  · (intro w' _; go_simp; (try with_reducible rfl))
  simp only [List.setIfInBounds_toArray, List.set_cons_zero, List.set_cons_succ]
  refine wpAnyD_takeP (i := 11) (oi := { dst := some 5, op := Op.assign (Operand.const (Value.int IntKind.i64 0)), type := 42, pos := "vocab.go:73", after := #[{ on := 10, ground := Ground.chain }, { on := 0, ground := Ground.phase }, { on := 1, ground := Ground.phase }, { on := 2, ground := Ground.phase }, { on := 3, ground := Ground.phase }, { on := 4, ground := Ground.phase }, { on := 5, ground := Ground.phase }, { on := 6, ground := Ground.phase }, { on := 7, ground := Ground.phase }, { on := 8, ground := Ground.phase }, { on := 9, ground := Ground.phase }, { on := 10, ground := Ground.phase }], guard := none }) (d := 5) (v := ?_) rfl rfl (by kernel_rfl) (by kernel_rfl) (by kernel_rfl) (fun _ _ _ h => h) (Or.inl ⟨by rfl, ?_⟩) ?_
  rotate_left
  · (intro w' _; go_simp; (try with_reducible rfl))
  simp only [List.setIfInBounds_toArray, List.set_cons_zero, List.set_cons_succ]
  refine wpAnyD_done (by kernel_rfl) ?_ _
  go_wp2_with fail
  refine bodyPost_ret (results_tm4 rfl _ _ _) rfl ?_
  exact ⟨⟨vb, A1, A2, A3, A4, A5, c1, c2, c3, c4, c5, _, tb, bk, _, mk, _, _, _, _, _, _, rfl, HV.out, ⟨V5, HVB.out, HS5.out, HT5.out, HN5.out, HK5.out, HAL.out⟩, HVL.out, HB0.out.size, HB1.out.size⟩, HB6.out⟩
end
end Go.Proofs.YtbppaiejpgdbiaaGreat

/- Layer 10 (vocab): New, where nothing is wrong. -/
namespace Go.Proofs.YtbppaiejpgdbiaaGreat
open Go.RowKit Go.Maps Go.WideMaps
set_option maxRecDepth 100000
set_option linter.unusedVariables false
set_option linter.unusedSimpArgs false
section
variable {w : World} {s : SpecP} {T : List Ent} {AM AT AX AC AJ : Option Addr} {cM cT cX cC cJ : Nat}
set_option maxHeartbeats 2000000 in
theorem vnew_any (hs : SpecAt w s AM AT AX AC AJ) (hR : rightS s = true)
    (hL : ∀ V, Below w.heap.size w V → Calls Tryz.prog 87 #[specW s AM AT AX AC AJ cM cT cX cC cJ] V fun e w' => (∃ tb sv mb mp n, e = .returned (.tuple #[.pointer (some ⟨tb, 0, none⟩), .int .i64 n, .int .i64 0]) ∧ TabIs w' V.heap.size tb T sv mb mp) ∧ Below V.heap.size V w')
    (hM : ∀ V, Below w.heap.size w V → Calls Tryz.prog 88 #[.slice AX s.xs.length cX] V fun e w' => (∃ mb sv mi mt n, e = .returned (.tuple #[.pointer (some ⟨mb, 0, none⟩), .int .i64 n, .int .i64 0]) ∧ MarkIs w' V.heap.size mb s.xs sv mi mt) ∧ Below V.heap.size V w')
    (hid : s.xs.all (idB T) = true) (hln : s.ms.length ≤ 1000000 ∧ s.ts.length ≤ 1000000 ∧ s.xs.length ≤ 1000000 ∧ s.cs.length ≤ 1000000 ∧ s.js.length ≤ 1000000) (hcs : s.cs.all spanB = true) (hjs : s.js.all jnB = true) :
    Calls Tryz.prog 15 #[specW s AM AT AX AC AJ cM cT cX cC cJ] w fun e w' => (∃ vb A1 A2 A3 A4 A5 c1 c2 c3 c4 c5 tbase tb bk kbase mk sv mb mp sv2 mi mt, e = .returned (.tuple #[.pointer (some ⟨vb, 0, none⟩), .int .i64 0, .int .i64 0]) ∧ VocIs w' w.heap.size vb s T A1 A2 A3 A4 A5 c1 c2 c3 c4 c5 tbase tb bk kbase mk sv mb mp sv2 mi mt (.slice none 0 0) 0 0 0 0) ∧ Below w.heap.size w w' := by
  have HB0 := Lib.hid ((Below.refl w.heap.size w).alloc (Nat.le_refl _) (.cells #[.bool s.rk, .slice AM s.ms.length cM, .slice AT s.ts.length cT, .slice AX s.xs.length cX, .slice AC s.cs.length cC, .slice AJ s.js.length cJ] 48))
  have HO0 := Lib.hid (blk_new w (.cells #[.bool s.rk, .slice AM s.ms.length cM, .slice AT s.ts.length cT, .slice AX s.xs.length cX, .slice AC s.cs.length cC, .slice AJ s.js.length cJ] 48))
  have HRI := Lib.hid (fun V (hV : Below w.heap.size w V) => sright_any (cM := cM) (cT := cT) (cX := cX) (cC := cC) (cJ := cJ) (hs.below hV (Nat.le_refl _)))
  rw [hR] at HRI
  have HBU := Lib.hid (fun V (hV : Below w.heap.size w V) => build_any (cM := cM) (cT := cT) (cX := cX) (cC := cC) (cJ := cJ) (hs.below hV (Nat.le_refl _)) (fun U hU => hL U (hV.trans (hU.mono hV.size))) (fun U hU => hM U (hV.trans (hU.mono hV.size))) hid hln hcs hjs)
  clear hs hR hL hM hid hln hcs hjs
  unfold specW specV at *
  go_enter Tryz.func15, Tryz.ntmps15
  go_wp2_with (first
    | (go_at_call 47; (refine (HRI.out _ HB0.out).mono ?_); (rintro e V1 ⟨rfl, hb⟩); (have HB1 := Lib.hid (HB0.out.trans (hb.mono HB0.out.size))); (have HO1 := Lib.hid (blk_below hb (blk_lt HO0.out) HO0.out)); (have q0 := blk_cell HO1.out 0); (have q1 := blk_cell HO1.out 1); (have q2 := blk_cell HO1.out 2); (have q3 := blk_cell HO1.out 3); (have q4 := blk_cell HO1.out 4); (have q5 := blk_cell HO1.out 5); (simp only [List.getElem?_toArray, List.getElem?_cons_zero, List.getElem?_cons_succ] at q0 q1 q2 q3 q4 q5); (clear hb))
    | (go_at_call 48; (refine (HBU.out V1 HB1.out).mono ?_); (rintro e V2 ⟨⟨vb, A1, A2, A3, A4, A5, c1, c2, c3, c4, c5, tbase, tb, bk, kbase, mk, sv, mb, mp, sv2, mi, mt, rfl, hv⟩, hb⟩); (have HV := Lib.hid hv); (have HB2 := Lib.hid (HB1.out.trans (hb.mono HB1.out.size))); (clear hv hb)))
  go_ret3
  have hv := HV.out
  have hz := HB1.out.size
  exact ⟨⟨vb, A1, A2, A3, A4, A5, c1, c2, c3, c4, c5, tbase, tb, bk, kbase, mk, sv, mb, mp, sv2, mi, mt, rfl, ⟨hv.blk, hv.org, Nat.le_trans hz hv.lt.1, Nat.le_trans hz hv.lt.2.1, Nat.le_trans hz hv.lt.2.2⟩⟩, HB2.out⟩
end
end Go.Proofs.YtbppaiejpgdbiaaGreat

/- sync.Once: its parts (after LazyParts). -/
namespace Go.Proofs.YtbppaiejpgdbiaaGreat
open Go.RowKit Go.Maps Go.WideMaps
set_option maxRecDepth 100000
set_option linter.unusedVariables false
set_option linter.unusedSimpArgs false
theorem disable_1 (w : World) : (callFunc 170 #[]).run Tryz.prog w = .ok (.value (.tuple #[])) w := run_call_mark0 Tryz.func170 (by kernel_rfl) (by kernel_rfl) (by kernel_rfl) .disable (by kernel_rfl) w
theorem enable_1 (w : World) : (callFunc 172 #[]).run Tryz.prog w = .ok (.value (.tuple #[])) w := run_call_mark0 Tryz.func172 (by kernel_rfl) (by kernel_rfl) (by kernel_rfl) .enable (by kernel_rfl) w
theorem acquire_1 (a : Addr) (w : World) : (callFunc 173 #[.pointer (some a)]).run Tryz.prog w = .ok (.value (.tuple #[])) w := run_call_marked Tryz.func173 (by kernel_rfl) (by kernel_rfl) (by kernel_rfl) .acquire (by kernel_rfl) a w
theorem releaseMerge_1 (a : Addr) (w : World) : (callFunc 175 #[.pointer (some a)]).run Tryz.prog w = .ok (.value (.tuple #[])) w := run_call_marked Tryz.func175 (by kernel_rfl) (by kernel_rfl) (by kernel_rfl) .releaseMerge (by kernel_rfl) a w
theorem bload_any (b o : Nat) (n : Int) (w : World) (hc : w.cell? ⟨b, o, none⟩ = some (.int .u32 n)) :
    Calls Tryz.prog 133 #[.pointer (some ⟨b, o, none⟩)] w fun e w' => e = .returned (.bool (n != 0)) ∧ w' = w := by
  have hl := run_call_load (P := Tryz.prog) Tryz.func153 (by kernel_rfl) (by kernel_rfl) (by kernel_rfl) .u32 (by kernel_rfl) hc
  clear hc
  go_enter Tryz.func133, Tryz.ntmps133
  go_wp2_with fail
  go_ret
  exact ⟨rfl, rfl⟩
/-- '(*sync/atomic.Bool).Store(true)', entered as a deferred call: the cell holds 1. -/
theorem store_def (a : Addr) (x : Value) (u : FrameMode) (w : World) (hc : w.cell? a = some x) (hz : w.frozen? a = false) :
    CallsD Tryz.prog 156 #[.pointer (some a), .bool true] u w fun e u' w' => u' = u ∧ (e = .returned (.tuple #[]) ∧ w' = w.drew.setCell a (.int .u32 1)) := by
  have hc' : w.drew.cell? a = some x := by go_simp
  have hz' : w.drew.frozen? a = false := by go_simp
  have hst := run_call_store (P := Tryz.prog) Tryz.func165 (by kernel_rfl) (by kernel_rfl) (by kernel_rfl) (by kernel_rfl) (k := .u32) (y := 1) hc' hz'
  go_enter_d Tryz.func156, Tryz.ntmps156
  go_wp2
  go_region_calls
  all_goals (go_end0; exact ⟨rfl, rfl⟩)
/-- '(*sync.Mutex).Unlock', entered as a deferred call, the lock held and nobody waiting: state 0. (251, 255: *internal/sync.Mutex, unsafe.Pointer: this seat's numbers) -/
theorem unlock_def (b o : Nat) (u : FrameMode) (w : World) (hc : w.cell? ⟨b, o, none⟩ = some (.int .i32 1)) (hz : w.frozen? ⟨b, o, none⟩ = false) :
    CallsD Tryz.prog 155 #[.pointer (some ⟨b, o, none⟩)] u w fun e u' w' => u' = u ∧ (e = .returned (.tuple #[]) ∧ w' = w.setCell ⟨b, o, none⟩ (.int .i32 0)) := by
  have hd := disable_1
  have he := enable_1
  have hr := releaseMerge_1
  have hadd := run_call_add (P := Tryz.prog) Tryz.func176 (by kernel_rfl) (by kernel_rfl) (by kernel_rfl) .i32 (by kernel_rfl) (y := -1) (s := 0) hc hz (by simp [go_sem]; rfl)
  have hcv := run_convert_to_unsafe (P := Tryz.prog) (src := 251) (dst := 255) Tryz.underlying251 Tryz.underlying255 (by kernel_rfl) hc
  go_enter_d Tryz.func155, Tryz.ntmps155
  go_wp2
  go_end0
  go_wp2
  go_end0
  exact ⟨rfl, rfl⟩
theorem lock_free (b o : Nat) (w : World) (hc : w.cell? ⟨b, o, none⟩ = some (.int .i32 0)) (hz : w.frozen? ⟨b, o, none⟩ = false) :
    Calls Tryz.prog 154 #[.pointer (some ⟨b, o, none⟩)] w fun e w' => e = .returned (.tuple #[]) ∧ w' = w.setCell ⟨b, o, none⟩ (.int .i32 1) := by
  have hd := disable_1
  have he := enable_1
  have ha := acquire_1
  have hcas := run_call_cas_hit (P := Tryz.prog) Tryz.func171 (by kernel_rfl) (by kernel_rfl) (by kernel_rfl) .i32 (by kernel_rfl) (y := 1) hc hz
  have hc' : (w.setCell ⟨b, o, none⟩ (.int .i32 1)).cell? ⟨b, o, none⟩ = some (.int .i32 1) := World.cell?_setCell_same w ⟨b, o, none⟩ _ hc
  have hcv := run_convert_to_unsafe (P := Tryz.prog) (src := 251) (dst := 255) Tryz.underlying251 Tryz.underlying255 (by kernel_rfl) hc'
  go_enter Tryz.func154, Tryz.ntmps154
  go_wp2
  first | go_end0 | (simp only [Exit.inBlock, Exit.then]; refine bodyPost_ret (results_none rfl _ _ _) rfl ?_) | refine bodyPost_ret (results_none rfl _ _ _) rfl ?_
  go_wp2
  go_end0
  exact ⟨rfl, rfl⟩
end Go.Proofs.YtbppaiejpgdbiaaGreat

/- sync.Once.Do, done already. -/
namespace Go.Proofs.YtbppaiejpgdbiaaGreat
open Go.RowKit Go.Maps Go.WideMaps
set_option maxRecDepth 100000
set_option linter.unusedVariables false
set_option linter.unusedSimpArgs false
theorem do_done (b o : Nat) (f : Value) (w : World) (hc : w.cell? ⟨b, o, none⟩ = some (.int .u32 1)) :
    Calls Tryz.prog 94 #[.pointer (some ⟨b, o, none⟩), f] w fun e w' => e = .returned (.tuple #[]) ∧ w' = w := by
  have hl := bload_any b o 1 w hc
  clear hc
  go_enter Tryz.func94, Tryz.ntmps94
  go_wp2_with (go_at_call 133; (refine hl.mono ?_); (rintro e V1 ⟨rfl, rfl⟩))
  go_end0
  exact ⟨rfl, rfl⟩
end Go.Proofs.YtbppaiejpgdbiaaGreat

/- sync.Once.Do, the first time (after LazySlow). -/
namespace Go.Proofs.YtbppaiejpgdbiaaGreat
open Go.RowKit Go.Maps Go.WideMaps
set_option linter.unusedVariables false
set_option linter.unusedSimpArgs false
set_option maxRecDepth 100000 in
set_option maxHeartbeats 1600000 in
theorem slow_any {R : World → Prop} (b o vb : Nat) (w : World)
    (h0 : w.cell? ⟨b, o, none⟩ = some (.int .u32 0)) (h1 : w.cell? ⟨b, o + 1, none⟩ = some (.int .i32 0)) (f1 : w.frozen? ⟨b, o + 1, none⟩ = false)
    (hF : Calls Tryz.prog 95 #[.pointer (some ⟨vb, 0, none⟩)] (w.setCell ⟨b, o + 1, none⟩ (.int .i32 1)) fun e w1 => e = .returned (.tuple #[]) ∧ R w1 ∧ w1.cell? ⟨b, o, none⟩ = some (.int .u32 0) ∧ w1.cell? ⟨b, o + 1, none⟩ = some (.int .i32 1) ∧ w1.frozen? ⟨b, o, none⟩ = false ∧ w1.frozen? ⟨b, o + 1, none⟩ = false) :
    Calls Tryz.prog 134 #[.pointer (some ⟨b, o, none⟩), .func (.func 95) #[.pointer (some ⟨vb, 0, none⟩)] #[]] w fun e w' => e = .returned (.tuple #[]) ∧
      ∃ w1, R w1 ∧ w' = (w1.drew.setCell ⟨b, o, none⟩ (.int .u32 1)).setCell ⟨b, o + 1, none⟩ (.int .i32 0) := by
  have hl := bload_any b o 0 (w.setCell ⟨b, o + 1, none⟩ (.int .i32 1)) ((World.cell?_setCell_other _ ⟨b, o + 1, none⟩ ⟨b, o, none⟩ _ (by simp)).trans h0)
  have HL := Lib.hid hl
  have HF := Lib.hid hF
  have HK := Lib.hid (lock_free b o.succ w h1 f1)
  clear hl hF h0 h1 f1
  go_enter_defers Tryz.func134, Tryz.ntmps134
  go_wp2_with (first | (go_at_call 154; refine HK.out.mono ?_; rintro e w' ⟨rfl, rfl⟩) | (go_at_call 133; refine HL.out.mono ?_; rintro e w' ⟨rfl, rfl⟩) | (go_at_call 95; refine HF.out.mono ?_; rintro e w1 ⟨rfl, hR, c0, c1, z0, z1⟩))
  refine leaves_cons (f := 156) (args := #[.pointer (some ⟨b, o, none⟩), .bool true]) (by simp) (by simp [go_sem]) ?_
  refine (store_def ⟨b, o, none⟩ (.int .u32 0) .returning _ c0 z0).mono ?_
  rintro e u' w'' ⟨rfl, rfl, rfl⟩
  refine leaves_cons (f := 155) (args := #[.pointer (some ⟨b, o + 1, none⟩)]) (by simp [settle]) (by simp [go_sem]) ?_
  refine (unlock_def b (o + 1) _ _ ?_ (by simp [z1])).mono ?_
  · refine (World.cell?_setCell_other _ ⟨b, o, none⟩ ⟨b, o + 1, none⟩ _ (by simp)).trans ?_
    rw [World.cell?_drew]
    exact c1
  rintro e u' w'' ⟨rfl, rfl, rfl⟩
  simp [Leaves, settle, results, Tryz.results134]
  exact ⟨_, hR, rfl⟩
set_option maxHeartbeats 1600000 in
theorem do_first {R : World → Prop} (b o vb : Nat) (w : World)
    (h0 : w.cell? ⟨b, o, none⟩ = some (.int .u32 0)) (h1 : w.cell? ⟨b, o + 1, none⟩ = some (.int .i32 0)) (f1 : w.frozen? ⟨b, o + 1, none⟩ = false)
    (hF : Calls Tryz.prog 95 #[.pointer (some ⟨vb, 0, none⟩)] (w.setCell ⟨b, o + 1, none⟩ (.int .i32 1)) fun e w1 => e = .returned (.tuple #[]) ∧ R w1 ∧ w1.cell? ⟨b, o, none⟩ = some (.int .u32 0) ∧ w1.cell? ⟨b, o + 1, none⟩ = some (.int .i32 1) ∧ w1.frozen? ⟨b, o, none⟩ = false ∧ w1.frozen? ⟨b, o + 1, none⟩ = false) :
    Calls Tryz.prog 94 #[.pointer (some ⟨b, o, none⟩), .func (.func 95) #[.pointer (some ⟨vb, 0, none⟩)] #[]] w fun e w' => e = .returned (.tuple #[]) ∧
      ∃ w1, R w1 ∧ w' = (w1.drew.setCell ⟨b, o, none⟩ (.int .u32 1)).setCell ⟨b, o + 1, none⟩ (.int .i32 0) := by
  have HL := Lib.hid (bload_any b o 0 w h0)
  have HS := Lib.hid (slow_any b o vb w h0 h1 f1 hF)
  clear h0 h1 f1 hF
  go_enter Tryz.func94, Tryz.ntmps94
  go_wp2_with (first | (go_at_call 133; refine HL.out.mono ?_; rintro e w' ⟨rfl, rfl⟩) | (go_at_call 134; refine HS.out.mono ?_; rintro e w' ⟨rfl, w1, hR, rfl⟩))
  go_end0
  exact ⟨rfl, w1, hR, rfl⟩
end Go.Proofs.YtbppaiejpgdbiaaGreat

/- Layer 10 (vocab): what a vocabulary is made of: Table, Bounds, Marks, Size. -/
namespace Go.Proofs.YtbppaiejpgdbiaaGreat
open Go.RowKit Go.Maps Go.WideMaps
set_option maxRecDepth 100000
set_option linter.unusedVariables false
set_option linter.unusedSimpArgs false
section
variable {w : World} {base vb : Nat} {s : SpecP} {T : List Ent} {A1 A2 A3 A4 A5 : Option Addr} {c1 c2 c3 c4 c5 tbase tb bk kbase mk : Nat} {sv : Value} {mb mp : Nat} {sv2 : Value} {mi mt : Nat} {l : Value} {dn st se us : Int}
theorem vtable_any (h : VocIs w base vb s T A1 A2 A3 A4 A5 c1 c2 c3 c4 c5 tbase tb bk kbase mk sv mb mp sv2 mi mt l dn st se us) : Calls Tryz.prog 65 #[.pointer (some ⟨vb, 0, none⟩)] w fun e w' => e = .returned (.pointer (some ⟨tb, 0, none⟩)) ∧ w' = w := by
  have c := blk_cell h.blk 6
  simp only [List.getElem?_toArray, List.getElem?_cons_zero, List.getElem?_cons_succ] at c
  clear h
  go_enter Tryz.func65, Tryz.ntmps65
  go_wp2_with fail
  go_ret
  exact ⟨rfl, rfl⟩
theorem vbounds_any (h : VocIs w base vb s T A1 A2 A3 A4 A5 c1 c2 c3 c4 c5 tbase tb bk kbase mk sv mb mp sv2 mi mt l dn st se us) : Calls Tryz.prog 98 #[.pointer (some ⟨vb, 0, none⟩)] w fun e w' => e = .returned (.pointer (some ⟨bk, 0, none⟩)) ∧ w' = w := by
  have c := blk_cell h.blk 7
  simp only [List.getElem?_toArray, List.getElem?_cons_zero, List.getElem?_cons_succ] at c
  clear h
  go_enter Tryz.func98, Tryz.ntmps98
  go_wp2_with fail
  go_ret
  exact ⟨rfl, rfl⟩
theorem vmarks_any (h : VocIs w base vb s T A1 A2 A3 A4 A5 c1 c2 c3 c4 c5 tbase tb bk kbase mk sv mb mp sv2 mi mt l dn st se us) : Calls Tryz.prog 68 #[.pointer (some ⟨vb, 0, none⟩)] w fun e w' => e = .returned (.pointer (some ⟨mk, 0, none⟩)) ∧ w' = w := by
  have c := blk_cell h.blk 8
  simp only [List.getElem?_toArray, List.getElem?_cons_zero, List.getElem?_cons_succ] at c
  clear h
  go_enter Tryz.func68, Tryz.ntmps68
  go_wp2_with fail
  go_ret
  exact ⟨rfl, rfl⟩
theorem vsize_any (h : VocIs w base vb s T A1 A2 A3 A4 A5 c1 c2 c3 c4 c5 tbase tb bk kbase mk sv mb mp sv2 mi mt l dn st se us) : Calls Tryz.prog 36 #[.pointer (some ⟨vb, 0, none⟩)] w fun e w' => e = .returned (.int .i64 (T.length : Nat)) ∧ w' = w := by
  have h1 := vtable_any h
  have h2 := len_tab h.tab
  clear h
  go_enter Tryz.func36, Tryz.ntmps36
  go_wp2_with (first | (go_at_call 65; (refine h1.mono ?_); (rintro e V1 ⟨rfl, rfl⟩)) | (go_at_call 66; (refine h2.mono ?_); (rintro e V1 ⟨rfl, rfl⟩)))
  go_ret
  exact ⟨rfl, rfl⟩
end
end Go.Proofs.YtbppaiejpgdbiaaGreat

/- Layer 8 (bound): what the pieces of bytes are, as plain lists. -/
namespace Go.Proofs.YtbppaiejpgdbiaaGreat

/-- is it cut behind the last byte of a piece? -/
def cutLast (cut : Nat → Nat → Bool) (p : List UInt8) (c : UInt8) : Bool := match p.getLast? with | none => false | some d => cut d.toNat c.toNat
theorem cutLast_snoc (cut : Nat → Nat → Bool) (p : List UInt8) (d c : UInt8) : cutLast cut (p ++ [d]) c = cut d.toNat c.toNat := by simp [cutLast]
/-- one more byte: a new piece where it is cut (or nothing is there yet), else the last piece grows -/
def addByte (cut : Nat → Nat → Bool) (acc : List (List UInt8)) (c : UInt8) : List (List UInt8) :=
  match acc.getLast? with
  | none => [[c]]
  | some p => if cutLast cut p c then acc ++ [[c]] else acc.dropLast ++ [p ++ [c]]
def pcs (cut : Nat → Nat → Bool) (l : List UInt8) : List (List UInt8) := l.foldl (addByte cut) []
theorem pcs_snoc (cut : Nat → Nat → Bool) (l : List UInt8) (c : UInt8) : pcs cut (l ++ [c]) = addByte cut (pcs cut l) c := by simp [pcs]
theorem pcs_one (cut : Nat → Nat → Bool) (c : UInt8) : pcs cut [c] = [[c]] := rfl

theorem addByte_new {cut : Nat → Nat → Bool} {acc : List (List UInt8)} {p : List UInt8} {d c : UInt8} (h : cut d.toNat c.toNat = true) : addByte cut (acc ++ [p ++ [d]]) c = acc ++ [p ++ [d]] ++ [[c]] := by
  simp [addByte, cutLast_snoc, h]
theorem addByte_grow {cut : Nat → Nat → Bool} {acc : List (List UInt8)} {p : List UInt8} {d c : UInt8} (h : cut d.toNat c.toNat = false) : addByte cut (acc ++ [p ++ [d]]) c = acc ++ [p ++ [d] ++ [c]] := by
  simp [addByte, cutLast_snoc, h]

/-- The state of the walk over the bytes l: 'done' are closed, the open one begins at 'f'; i bytes are taken. -/
def Open (cut : Nat → Nat → Bool) (l : List UInt8) (done : List (List UInt8)) (f i : Nat) : Prop :=
  f < i ∧ i ≤ l.length ∧ pcs cut (l.take i) = done ++ [(l.drop f).take (i - f)]

theorem open_start (cut : Nat → Nat → Bool) (l : List UInt8) (h : 0 < l.length) : Open cut l [] 0 1 := by
  refine ⟨by omega, by omega, ?_⟩
  cases l with
  | nil => simp at h
  | cons c l => simp [pcs_one]

theorem slice_snoc (l : List UInt8) (f i : Nat) (h : f ≤ i) (hi : i < l.length) : (l.drop f).take (i + 1 - f) = (l.drop f).take (i - f) ++ [l[i]] := by
  rw [show i + 1 - f = (i - f) + 1 by omega, List.take_succ_eq_append_getElem (by rw [List.length_drop]; omega)]
  congr 2
  rw [List.getElem_drop]
  congr 1
  omega

theorem open_last {l : List UInt8} {f i : Nat} (h : f < i) (hi : i ≤ l.length) : (l.drop f).take (i - f) = (l.drop f).take (i - 1 - f) ++ [l[i - 1]] := by
  have := slice_snoc l f (i - 1) (by omega) (by omega)
  rwa [show i - 1 + 1 = i by omega] at this

theorem open_cut {cut : Nat → Nat → Bool} {l : List UInt8} {done : List (List UInt8)} {f i : Nat} (h : Open cut l done f i) (hi : i < l.length) (hc : cut (l[i - 1]'(by omega)).toNat l[i].toNat = true) :
    Open cut l (done ++ [(l.drop f).take (i - f)]) i (i + 1) := by
  obtain ⟨h1, h2, h3⟩ := h
  refine ⟨by omega, by omega, ?_⟩
  rw [take_snoc hi, pcs_snoc, h3, open_last h1 h2, addByte_new hc, show i + 1 - i = 0 + 1 by omega, List.take_succ_eq_append_getElem (by rw [List.length_drop]; omega)]
  simp

theorem open_grow {cut : Nat → Nat → Bool} {l : List UInt8} {done : List (List UInt8)} {f i : Nat} (h : Open cut l done f i) (hi : i < l.length) (hc : cut (l[i - 1]'(by omega)).toNat l[i].toNat = false) :
    Open cut l done f (i + 1) := by
  obtain ⟨h1, h2, h3⟩ := h
  refine ⟨by omega, by omega, ?_⟩
  rw [take_snoc hi, pcs_snoc, h3, open_last h1 h2, addByte_grow hc, ← open_last h1 h2, slice_snoc l f i (by omega) hi]

theorem open_end {cut : Nat → Nat → Bool} {l : List UInt8} {done : List (List UInt8)} {f : Nat} (h : Open cut l done f l.length) : pcs cut l = done ++ [(l.drop f).take (l.length - f)] := by
  have := h.2.2
  rwa [List.take_length] at this

/-! what the pieces are: none is empty, together they are the bytes, each is whole, between each two there is a cut -/
theorem length_pcs_le (cut : Nat → Nat → Bool) (l : List UInt8) : (pcs cut l).length ≤ l.length := by
  have key : ∀ (l : List UInt8) (acc : List (List UInt8)), (l.foldl (addByte cut) acc).length ≤ acc.length + l.length := by
    intro l
    induction l with
    | nil => intro acc; simp
    | cons c l ih =>
      intro acc
      rw [List.foldl_cons]
      refine Nat.le_trans (ih _) ?_
      have : (addByte cut acc c).length ≤ acc.length + 1 := by
        unfold addByte
        split
        · simp
        · split
          · simp
          · simp
      simp only [List.length_cons]
      omega
  have := key l []
  simpa [pcs] using this

end Go.Proofs.YtbppaiejpgdbiaaGreat

/- Layer 8 (bound): the contracts of Pieces, Whole, Between. -/
namespace Go.Proofs.YtbppaiejpgdbiaaGreat
open Go.RowKit
set_option maxRecDepth 100000
set_option linter.unusedVariables false
set_option linter.unusedSimpArgs false

/-- a table's pointer (nil: nothing is cut), and where it cuts -/
def TP (w : World) (p : Option Addr) (cut : Nat → Nat → Bool) : Prop :=
  (p = none ∧ cut = fun _ _ => false) ∨ ∃ bk C J, p = some ⟨bk, 0, none⟩ ∧ BTab w bk C J ∧ cut = cutB C J
theorem TP.below {B : Nat} {w w' : World} {p : Option Addr} {cut : Nat → Nat → Bool} (h : TP w p cut) (hb : Below B w w') (hB : w.heap.size ≤ B) : TP w' p cut := by
  rcases h with h | ⟨bk, C, J, h1, h2, h3⟩
  · exact .inl h
  · exact .inr ⟨bk, C, J, h1, h2.below hb (Nat.lt_of_lt_of_le (blk_lt h2.1) hB), h3⟩

theorem TP.drewN {w : World} {p : Option Addr} {cut : Nat → Nat → Bool} (h : TP w p cut) (n : Nat) : TP (w.drewN n) p cut := h
theorem cuts_any (p : Option Addr) (cut : Nat → Nat → Bool) (a b : Int) (w : World) (ha0 : 0 ≤ a) (ha : a < 256) (hb0 : 0 ≤ b) (hb : b < 256) (h : TP w p cut) :
    Calls Tryz.prog 137 #[.pointer p, .int .u8 a, .int .u8 b] w fun e w' => e = .returned (.bool (cut a.toNat b.toNat)) ∧ ∃ m, w' = w.drewN m := by
  rcases h with ⟨rfl, rfl⟩ | ⟨bk, C, J, rfl, h2, rfl⟩
  · exact cuts_nil a b w
  · obtain ⟨a, rfl⟩ := Int.eq_ofNat_of_zero_le ha0
    obtain ⟨b, rfl⟩ := Int.eq_ofNat_of_zero_le hb0
    exact cuts_tab bk C J a b w (by omega) (by omega) h2

theorem info_str : (Tryz.prog.info? 9).map (fun i => (i.zero, i.size, i.bytes)) = some (some (.string ⟨#[]⟩), 1, 16) := by kernel_rfl

/-- the loop of Pieces at its head -/
def PcRel (cut : Nat → Nat → Bool) (s : ByteArray) (w : World) (v : Value) (done : List (List UInt8)) (f i : Nat) (wr : World) : Prop :=
  Below w.heap.size w wr ∧ wr.ownsRow w.heap.size 9 1 v done.length (done.map strV) ∧ done.length < i ∧
  (i ≤ s.size → Open cut s.data.toList done f i) ∧ (s.size < i → done = pcs cut s.data.toList)

def PiecesPost (cut : Nat → Nat → Bool) (s : ByteArray) (w : World) (e : Ending) (w' : World) : Prop :=
  ∃ v, e = .returned v ∧ Below w.heap.size w w' ∧ w'.ownsRow w.heap.size 9 1 v (pcs cut s.data.toList).length ((pcs cut s.data.toList).map strV)

theorem data_len (s : ByteArray) : s.data.toList.length = s.size := by cases s; rfl
theorem grown_below {B : Nat} {w w1 w2 : World} {v : Value} {e : TypeId} {size n : Nat} {xs : List Value} (h : Below B w w1) (hB : B ≤ w1.heap.size) (hg : w1.grownBy w2 v.ownBlock) (ho : w1.ownsRow B e size v n xs) : Below B w w2 :=
  h.grown hg hB (own_base ho)

/-- one piece more is closed -/
theorem pc_add {s : ByteArray} {w wr w1 : World} {v v' : Value} {done : List (List UInt8)} {nf k : Nat} (hk : k + 1 ≤ s.size) (hf : nf ≤ k) (hb : Below w.heap.size w wr) (hg : wr.grownBy w1 v.ownBlock)
    (ho : wr.ownsRow w.heap.size 9 1 v done.length (done.map strV))
    (ho1 : w1.ownsRow w.heap.size 9 1 v' (done.length + 1) (done.map strV ++ [.string (s.extract nf (k + 1))])) :
    Below w.heap.size w w1 ∧ w1.ownsRow w.heap.size 9 1 v' (done ++ [(s.data.toList.drop nf).take (k + 1 - nf)]).length ((done ++ [(s.data.toList.drop nf).take (k + 1 - nf)]).map strV) := by
  refine ⟨grown_below hb hb.size hg ho, ?_⟩
  rw [extract_bs] at ho1
  simpa [strV] using ho1

set_option maxHeartbeats 1000000 in
theorem pieces_any (p : Option Addr) (cut : Nat → Nat → Bool) (s : ByteArray) (w : World) (hp : TP w p cut) (hs : s.size ≤ 1000000000) :
    Calls Tryz.prog 158 #[.pointer p, .string s] w (PiecesPost cut s w) := by
  have HP := Lib.hid hp
  clear hp
  go_enter Tryz.func158, Tryz.ntmps158
  go_wp2
  go_loopw [5, 6, 7] (fun v f i wr => ∃ (done : List (List UInt8)) (nf k : Nat), f = .int .i64 nf ∧ i = .int .i64 k ∧ 1 ≤ k ∧ k ≤ s.size + 1 ∧ nf < k ∧ PcRel cut s w v done nf k wr) (fun _ _ i _ => s.size + 1 - (intOf i).toNat)
  case atStart =>
    refine ⟨[], 0, 1, rfl, rfl, by omega, by omega, by omega, Below.refl _ _, own_nil _ _ _ _, by simp, fun h => open_start _ _ (by rw [data_len]; omega), fun h => ?_⟩
    have : s.data.toList = [] := List.eq_nil_of_length_eq_zero (by rw [data_len]; omega)
    rw [this]
    rfl
  case round =>
    obtain ⟨done, nf, k, rfl, rfl, hk1, hk2, hnf, hb, hown, hdl, hop, hdone⟩ := hrel
    have HB := Lib.hid hb
    have HO := Lib.hid hown
    have HOP := Lib.hid hop
    have HD := Lib.hid hdone
    have hsz := hb.size
    clear hb hown hop hdone
    obtain ⟨k, rfl⟩ : ∃ m, k = m + 1 := ⟨k - 1, by omega⟩
    by_cases hle : k + 1 ≤ s.size
    · have HOPEN := Lib.hid (HOP.out hle)
      have f1 : (nf : Int) ≤ (k : Int) + 1 := by omega
      have f2 : (k : Int) + 1 ≤ (s.size : Int) := by omega
      clear HOP HD
      by_cases he : k + 1 = s.size
      · have HE := Lib.hid he
        have hbk : ((k : Int) + 1 == (s.size : Int)) = true := by rw [beq_iff_eq]; omega
        have hbk' : (k + 1 == s.size) = true := by rw [beq_iff_eq]; omega
        clear he
        go_wp2_with fail
        go_quiet (fail)
        clear hbk hbk'
        go_wp2_with (at_builtin; refine app_one (w.heap.size) 31 9 (.string ⟨#[]⟩) 1 16 [_] 1 _ _ rfl rfl Tryz.underlying31 info_str rfl (by decide) _ _ _ rfl rfl rfl (by intro u hu; simp at hu; subst hu; rfl) HO.out (by omega) (by omega) hsz ?_)
        intro v' w1 hown1 hg1
        have HO1 := Lib.hid hown1
        have HG1 := Lib.hid hg1
        clear hown1 hg1
        go_wp2_with fail
        go_roundw
        case rel =>
          have h := pc_add (wr := wr.drewN nq) (nf := nf) (k := k) hle (by omega) (below_drewN HB.out _) HG1.out (own_drewN HO.out _) HO1.out
          refine ⟨done ++ [(s.data.toList.drop nf).take (k + 1 - nf)], k + 1, k + 2, by go_num, by go_num, by omega, by omega, by omega, h.1, h.2, by simp; omega, fun hh => absurd hh (by have := HE.out; omega), fun _ => ?_⟩
          have hop := HOPEN.out
          rw [HE.out, ← data_len s] at hop
          rw [open_end hop, HE.out, data_len]
        case measure => simp [intOf]; omega
      · have he1 : ((k : Int) + 1 == (s.size : Int)) = false := by rw [beq_eq_false_iff_ne]; omega
        have he2 : (k + 1 == s.size) = false := by rw [beq_eq_false_iff_ne]; omega
        have HE := Lib.hid he
        have hlt : (k : Int) + 1 < s.size := by omega
        have hlt1 : (k : Int) < s.size := by omega
        have q0 : 0 ≤ (k : Int) := by omega
        have q2 : 0 ≤ (k : Int) + 1 := by omega
        have q3 : ((k : Int) + 1).toNat = k + 1 := by omega
        clear he
        obtain ⟨x, hx⟩ : ∃ x, s[k]'(by omega) = x := ⟨_, rfl⟩
        obtain ⟨y, hy⟩ : ∃ y, s[k + 1]'(by omega) = y := ⟨_, rfl⟩
        have HX := Lib.hid hx
        have HY := Lib.hid hy
        clear hx hy
        have q1 : IntKind.i64.wrap (k : Int) = k := IntWalk.i64_in _ (by omega)
        have HC := Lib.hid (fun n => cuts_any p cut (s[k].toNat : Int) (s[k + 1].toNat : Int) (wr.drewN n) (by omega) (by have := s[k].toNat_lt; omega) (by omega) (by have := s[k + 1].toNat_lt; omega) ((HP.out.below HB.out (Nat.le_refl _)).drewN n))
        go_wp2_with fail
        go_quiet ((go_at_call 137; exact Calls.quiet_of (HC.out _)))
        clear HC
        simp only [Int.toNat_natCast]
        simp only [HX.out, HY.out]
        clear q1
        cases hc : cut x.toNat y.toNat with
        | true =>
          have HCUT := Lib.hid hc
          clear hc
          go_wp2_with (at_builtin; refine app_one (w.heap.size) 31 9 (.string ⟨#[]⟩) 1 16 [_] 1 _ _ rfl rfl Tryz.underlying31 info_str rfl (by decide) _ _ _ rfl rfl rfl (by intro u hu; simp at hu; subst hu; rfl) (own_drewN HO.out _) (by omega) (by omega) (by exact hsz) ?_)
          intro v' w1 hown1 hg1
          have HO1 := Lib.hid hown1
          have HG1 := Lib.hid hg1
          clear hown1 hg1
          go_wp2_with fail
          go_roundw
          case rel =>
            have h := pc_add (wr := wr.drewN nq) (nf := nf) (k := k) hle (by omega) (below_drewN HB.out _) HG1.out (own_drewN HO.out _) HO1.out
            refine ⟨done ++ [(s.data.toList.drop nf).take (k + 1 - nf)], k + 1, k + 2, by go_num, by go_num, by omega, by omega, by omega, h.1, h.2, by simp; omega, fun hh => ?_, fun hh => absurd hh (by omega)⟩
            exact open_cut HOPEN.out (by rw [data_len]; omega) (by have := HCUT.out; rw [← HX.out, ← HY.out] at this; exact this)
          case measure => simp [intOf]; omega
        | false =>
          have HCUT := Lib.hid hc
          clear hc
          go_wp2_with fail
          go_roundw
          case rel =>
            exact ⟨done, nf, k + 2, rfl, by go_num, by omega, by omega, by omega, below_drewN HB.out _, own_drewN HO.out _, by omega, fun hh => open_grow HOPEN.out (by rw [data_len]; omega) (by have := HCUT.out; rw [← HX.out, ← HY.out] at this; exact this), fun hh => absurd hh (by omega)⟩
          case measure => simp [intOf]; omega
    · have HDN := Lib.hid (HD.out (by omega))
      clear HOP HD
      go_wp2_with fail
      go_ret
      refine ⟨u5, by simp, HB.out, ?_⟩
      rw [← HDN.out]
      exact HO.out

theorem whole_any (p : Option Addr) (cut : Nat → Nat → Bool) (s : ByteArray) (w : World) (hp : TP w p cut) (hs : s.size ≤ 1000000000) :
    Calls Tryz.prog 136 #[.pointer p, .string s] w fun e w' => e = .returned (.bool (decide ((pcs cut s.data.toList).length ≤ 1))) ∧ Below w.heap.size w w' := by
  have HC := Lib.hid (pieces_any p cut s w hp hs)
  have hl := length_pcs_le cut s.data.toList
  rw [data_len] at hl
  clear hp
  go_enter Tryz.func136, Tryz.ntmps136
  go_wp2_with fail
  refine HC.out.mono ?_
  rintro e w' ⟨v, rfl, hb, ho⟩
  obtain ⟨A, c, rfl⟩ := own_slice ho
  clear ho HC
  go_wp2_with fail
  go_ret
  exact ⟨by simp; omega, hb⟩

/-- Between: nothing on a side is no cut -/
def betB (cut : Nat → Nat → Bool) (a b : List UInt8) : Bool :=
  match a.getLast?, b.head? with
  | some x, some y => cut x.toNat y.toNat
  | _, _ => false

theorem toList_data (s : ByteArray) : s.toList = s.data.toList := by
  rw [ByteArray.toList_eq]
theorem between_none (p : Option Addr) (s u : ByteArray) (w : World) (h : s.data.toList = [] ∨ u.data.toList = []) :
    Calls Tryz.prog 99 #[.pointer p, .string s, .string u] w fun e w' => e = .returned (.bool false) ∧ ∃ m, w' = w.drewN m := by
  by_cases hs : s.data.toList = []
  · have h1 : s.toList = [] := by rw [toList_data]; exact hs
    clear h hs
    go_enter Tryz.func99, Tryz.ntmps99
    go_wp2_with fail
    go_quiet (fail)
    go_wp2_with fail
    go_ret
    exact ⟨by simp, _, rfl⟩
  · have h1 : s.toList.isEmpty = false := by rw [toList_data]; simpa using hs
    have h1' : (!s.toList.isEmpty) = true := by rw [h1]; rfl
    have h2 : u.toList = [] := by rw [toList_data]; exact h.resolve_left hs
    clear h hs
    go_enter Tryz.func99, Tryz.ntmps99
    go_wp2_with fail
    go_quiet (fail)
    go_wp2_with fail
    go_ret
    exact ⟨by simp, _, rfl⟩

theorem between_some (p : Option Addr) (cut : Nat → Nat → Bool) (s u : ByteArray) (k : Nat) (x y : UInt8) (w : World) (hp : TP w p cut) (hs : s.size = k + 1) (hu : 0 < u.size) (hsz : s.size ≤ 1000000000) (hk : k < s.size) (hx : s[k]'hk = x) (hy : u[0] = y) :
    Calls Tryz.prog 99 #[.pointer p, .string s, .string u] w fun e w' => e = .returned (.bool (cut x.toNat y.toNat)) ∧ ∃ m, w' = w.drewN m := by
  have h1 : s.toList.isEmpty = false := by rw [toList_data, ← Bool.not_eq_true, List.isEmpty_iff]; intro h; have := data_len s; rw [h] at this; simp at this; omega
  have h1' : (!s.toList.isEmpty) = true := by rw [h1]; rfl
  have h2 : u.toList.isEmpty = false := by rw [toList_data, ← Bool.not_eq_true, List.isEmpty_iff]; intro h; have := data_len u; rw [h] at this; simp at this; omega
  have h2' : (!u.toList.isEmpty) = true := by rw [h2]; rfl
  have HX := Lib.hid hx
  have HY := Lib.hid hy
  have f0 : (0 : Int) < (u.size : Int) := by omega
  have f2 : (k : Int) < (s.size : Int) := by omega
  have f3 : 0 ≤ (k : Int) := by omega
  have q1 : IntKind.i64.wrap ((s.size : Int) - 1) = k := by rw [IntWalk.i64_in _ (by omega)]; omega
  have HC := Lib.hid (fun n => cuts_any p cut (x.toNat : Int) (y.toNat : Int) (w.drewN n) (by omega) (by have := x.toNat_lt; omega) (by omega) (by have := y.toNat_lt; omega) (hp.drewN n))
  clear hx hy hp hs
  go_enter Tryz.func99, Tryz.ntmps99
  go_wp2_with fail
  go_quiet (first | (go_at_call 137; simp only [HX.out, HY.out]; exact Calls.quiet_of (HC.out _)))
  go_wp2_with fail
  go_ret
  exact ⟨by simp, _, rfl⟩

theorem between_any (p : Option Addr) (cut : Nat → Nat → Bool) (s u : ByteArray) (w : World) (hp : TP w p cut) (hs : s.size ≤ 1000000000) :
    Calls Tryz.prog 99 #[.pointer p, .string s, .string u] w fun e w' => e = .returned (.bool (betB cut s.data.toList u.data.toList)) ∧ ∃ m, w' = w.drewN m := by
  by_cases h : s.data.toList = [] ∨ u.data.toList = []
  · have e : betB cut s.data.toList u.data.toList = false := by
      rcases h with h | h
      · simp [betB, h]
      · simp only [betB, h, List.head?_nil]; split <;> first | rfl | contradiction
    rw [e]
    exact between_none p s u w h
  · have h1 : 0 < s.size := by
      rcases Nat.eq_zero_or_pos s.size with e | e
      · exact absurd (.inl (List.eq_nil_of_length_eq_zero (by rw [data_len]; exact e))) h
      · exact e
    have h2 : 0 < u.size := by
      rcases Nat.eq_zero_or_pos u.size with e | e
      · exact absurd (.inr (List.eq_nil_of_length_eq_zero (by rw [data_len]; exact e))) h
      · exact e
    have e : betB cut s.data.toList u.data.toList = cut (s[s.size - 1]'(by omega)).toNat u[0].toNat := by
      unfold betB
      rw [List.getLast?_eq_getElem?, List.head?_eq_getElem?, data_len, List.getElem?_eq_getElem (by rw [data_len]; omega), List.getElem?_eq_getElem (by rw [data_len]; omega)]
      rfl
    rw [e]
    exact between_some p cut s u (s.size - 1) _ _ w hp (by omega) h2 hs (by omega) rfl rfl
end Go.Proofs.YtbppaiejpgdbiaaGreat

/- Layer 10 (vocab): which ordinary tokens are alone: the plain part. -/
namespace Go.Proofs.YtbppaiejpgdbiaaGreat
open Go.RowKit Go.Maps Go.WideMaps
set_option maxRecDepth 100000
set_option linter.unusedVariables false
set_option linter.unusedSimpArgs false
/-- a token is what is made of its bytes, and lies in one piece -/
def aloneB (T : List Ent) (C : Nat → Int) (J : Nat → Nat → Bool) (id : Int) : Bool := decide (encT T T.length (bytesT T id) = [id]) && decide ((pcs (cutB C J) (bytesT T id)).length ≤ 1)
/-- the row that find fills: k done -/
def aloneL (T : List Ent) (C : Nat → Int) (J : Nat → Nat → Bool) (k : Nat) : List Bool := (List.range T.length).map (fun (i : Nat) => decide (i < k) && aloneB T C J (i : Int))
theorem aloneL_len (T : List Ent) (C : Nat → Int) (J : Nat → Nat → Bool) (k : Nat) : (aloneL T C J k).length = T.length := by simp [aloneL]
theorem aloneL_zero (T : List Ent) (C : Nat → Int) (J : Nat → Nat → Bool) : aloneL T C J 0 = List.replicate T.length false := by
  apply List.ext_getElem
  · simp [aloneL]
  · intro i h1 h2
    simp [aloneL]
theorem aloneL_succ (T : List Ent) (C : Nat → Int) (J : Nat → Nat → Bool) (k : Nat) : aloneL T C J (k + 1) = (aloneL T C J k).set k (aloneB T C J (k : Int)) := by
  apply List.ext_getElem
  · simp [aloneL]
  · intro i h1 h2
    rw [List.getElem_set]
    by_cases h : k = i
    · subst h; simp [aloneL]
    · rw [if_neg h]
      have : (i < k + 1) ↔ (i < k) := by omega
      simp [aloneL, this]
end Go.Proofs.YtbppaiejpgdbiaaGreat

/- Layer 10 (vocab): rows of bools that were just made. -/
namespace Go.Proofs.YtbppaiejpgdbiaaGreat
open Go.RowKit Go.Maps Go.WideMaps
set_option maxRecDepth 100000
set_option linter.unusedVariables false
set_option linter.unusedSimpArgs false
theorem info_bool : (Tryz.prog.info? 4).map (fun i => (i.zero, i.size, i.bytes)) = some (some (.bool false), 1, 1) := by kernel_rfl
theorem made_false (n : Nat) : (madeCells (Value.bool false).cells (n * 1)).toList = (List.replicate n false).map Value.bool := by
  apply List.ext_getElem
  · simp [madeCells]
  · intro i h1 h2
    simp [madeCells, Value.cells, Nat.mod_one]
/-- a slice that was just made -/
theorem make_bools (n : Nat) (w : World) (hn : n ≤ 100000) : ∃ w', (Instr.makeSlice 154 (.int .i64 (n : Int)) (.int .i64 (n : Int))).run Tryz.prog w = .ok (.slice (some ⟨w.heap.size, 0, none⟩) n n) w' ∧
    w'.ownsRow w.heap.size 4 1 (.slice (some ⟨w.heap.size, 0, none⟩) n n) n ((List.replicate n false).map Value.bool) ∧ Below w.heap.size w w' := by
  obtain ⟨i, hi, hz0, hz1, hz2⟩ := info_parts info_bool
  obtain ⟨w', h1, h2, h3⟩ := run_makeSlice_full (P := Tryz.prog) w w.heap.size 154 4 i (.bool false) 1 Tryz.underlying154 hi hz0 hz1 .i64 .i64 n (by omega) (by rw [hz2]; omega) (by unfold maxLen; omega) (Nat.le_refl _)
  rw [made_false] at h2
  exact ⟨w', h1, h2, (Keep.of_grown (F := fun _ => False) h3 (fun k hk => by cases hk)).below (Nat.le_refl _) (fun x hx => hx.elim)⟩
end Go.Proofs.YtbppaiejpgdbiaaGreat

/- Layer 14 (spine): the walk along two spines: the plain law. -/
namespace Go.Proofs.YtbppaiejpgdbiaaGreat
set_option linter.unusedVariables false
set_option linter.unusedSimpArgs false

/-- one taken apart: the two, and the limit -/
def nxtW (T : List Ent) (a b : Int) : Int × Int × Int := if b < 256 ∨ a > b then ((parT T a).2, b, a) else (a, (parT T b).1, b + 1)
/-- may two stand side by side; how many are taken apart -/
def walkT (T : List Ent) : Nat → Int → Int → Int → Bool × Nat
  | 0, _, _, _ => (true, 0)
  | f + 1, a, b, lim =>
    if (pairB T lim a b).isSome then (false, 0)
    else if a < 256 ∧ b < 256 then (true, 0)
    else ((walkT T f (nxtW T a b).1 (nxtW T a b).2.1 (nxtW T a b).2.2).1, (walkT T f (nxtW T a b).1 (nxtW T a b).2.1 (nxtW T a b).2.2).2 + 1)
theorem born_iff {T : List Ent} (hT : OkT T) {a : Int} (h : hasT T a = true) : bornT T a = decide (256 ≤ a) := by
  obtain ⟨k, rfl, hk, _⟩ := hasT_at h
  by_cases h2 : 256 ≤ k
  · rw [(made_all hT h2 hk).1]
    symm
    simp; omega
  · have : bornT T (k : Int) = false := by
      unfold bornT
      rw [base_ent hT (by omega)]
      simp
    rw [this]
    symm
    simp; omega
/-- a token's parents are there, and smaller -/
theorem par_has {T : List Ent} (hT : OkT T) {a : Int} (h : hasT T a = true) (h2 : 256 ≤ a) : hasT T (parT T a).1 = true ∧ hasT T (parT T a).2 = true ∧ (parT T a).1 < a ∧ (parT T a).2 < a := by
  obtain ⟨k, rfl, hk, _⟩ := hasT_at h
  obtain ⟨_, q1, q2, _, _, _, _, _, q3, q4⟩ := made_all hT (i := k) (by omega) hk
  exact ⟨q1, q2, q3, q4⟩
theorem hasT_iff {T : List Ent} {a : Int} : hasT T a = true ↔ 0 ≤ a ∧ a < T.length := by simp [hasT]
theorem nxt_has {T : List Ent} (hT : OkT T) {a b : Int} (ha : hasT T a = true) (hb : hasT T b = true) (hn : ¬ (a < 256 ∧ b < 256)) :
    hasT T (nxtW T a b).1 = true ∧ hasT T (nxtW T a b).2.1 = true ∧ (nxtW T a b).1.toNat + (nxtW T a b).2.1.toNat < a.toNat + b.toNat := by
  unfold nxtW
  by_cases h : b < 256 ∨ a > b
  · rw [if_pos h]
    have h2 : 256 ≤ a := by omega
    obtain ⟨q1, q2, q3, q4⟩ := par_has hT ha h2
    have := hasT_iff.1 q2
    exact ⟨q2, hb, by simp only; omega⟩
  · rw [if_neg h]
    have h2 : 256 ≤ b := by omega
    obtain ⟨q1, q2, q3, q4⟩ := par_has hT hb h2
    have := hasT_iff.1 q1
    exact ⟨ha, q1, by simp only; omega⟩
/-- enough is enough -/
theorem walk_more {T : List Ent} (hT : OkT T) : ∀ (f g : Nat) (a b lim : Int), hasT T a = true → hasT T b = true → a.toNat + b.toNat < f → f ≤ g → walkT T g a b lim = walkT T f a b lim
  | 0, _, _, _, _, _, _, h, _ => by omega
  | f + 1, 0, _, _, _, _, _, _, h => by omega
  | f + 1, g + 1, a, b, lim, ha, hb, hf, hg => by
    rw [walkT, walkT]
    split
    · rfl
    · split
      · rfl
      · rename_i hn
        obtain ⟨q1, q2, q3⟩ := nxt_has hT ha hb hn
        rw [walk_more hT f g _ _ _ q1 q2 (by omega) (by omega)]
/-- the walk -/
def wlkT (T : List Ent) (a b lim : Int) : Bool × Nat := walkT T (a.toNat + b.toNat + 1) a b lim
theorem wlk_blocked {T : List Ent} {a b lim : Int} (h : (pairB T lim a b).isSome = true) : wlkT T a b lim = (false, 0) := by
  unfold wlkT; rw [walkT, if_pos h]
theorem wlk_bytes {T : List Ent} {a b lim : Int} (h : (pairB T lim a b).isSome = false) (hb : a < 256 ∧ b < 256) : wlkT T a b lim = (true, 0) := by
  unfold wlkT; rw [walkT, if_neg (by rw [h]; decide), if_pos hb]
theorem wlk_next {T : List Ent} (hT : OkT T) {a b lim : Int} (ha : hasT T a = true) (hb : hasT T b = true) (h : (pairB T lim a b).isSome = false) (hn : ¬ (a < 256 ∧ b < 256)) :
    wlkT T a b lim = ((wlkT T (nxtW T a b).1 (nxtW T a b).2.1 (nxtW T a b).2.2).1, (wlkT T (nxtW T a b).1 (nxtW T a b).2.1 (nxtW T a b).2.2).2 + 1) := by
  obtain ⟨q1, q2, q3⟩ := nxt_has hT ha hb hn
  unfold wlkT
  rw [walkT, if_neg (by rw [h]; decide), if_neg hn, walk_more hT _ _ _ _ _ q1 q2 (Nat.lt_succ_self _) (by omega)]
/-- limits above all tokens are one -/
theorem pairB_all {T : List Ent} {lim : Int} (h : (T.length : Int) ≤ lim) (a b : Int) : pairB T lim a b = pairB T T.length a b := by
  unfold pairB
  cases hp : pairT T (a, b) with
  | none => rfl
  | some i =>
    have hlt : i < T.length := by
      unfold pairT at hp
      rw [List.findIdx?_eq_some_iff_getElem] at hp
      exact hp.1
    simp only [Option.bind_some]
    rw [if_pos (by omega), if_pos (by omega)]
theorem wlk_all {T : List Ent} {lim lim' : Int} (h : (T.length : Int) ≤ lim) (h' : (T.length : Int) ≤ lim') (a b : Int) : wlkT T a b lim = wlkT T a b lim' := by
  unfold wlkT
  rw [walkT, walkT, pairB_all h, pairB_all h']
theorem wlk_len {T : List Ent} (hT : OkT T) : ∀ (n : Nat) (a b lim : Int), a.toNat + b.toNat ≤ n → hasT T a = true → hasT T b = true → (wlkT T a b lim).2 ≤ a.toNat + b.toNat
  | n, a, b, lim, hn, ha, hb => by
    cases h : (pairB T lim a b).isSome with
    | true => rw [wlk_blocked h]; exact Nat.zero_le _
    | false =>
      by_cases h2 : a < 256 ∧ b < 256
      · rw [wlk_bytes h h2]; exact Nat.zero_le _
      · rw [wlk_next hT ha hb h h2]
        obtain ⟨q1, q2, q3⟩ := nxt_has hT ha hb h2
        match n, hn with
        | 0, hn => omega
        | n + 1, hn =>
          have := wlk_len hT n _ _ (nxtW T a b).2.2 (by omega) q1 q2
          simp only
          omega
end Go.Proofs.YtbppaiejpgdbiaaGreat

