/- GrowImports returns true for every list of texts, and its argument read afterwards is as before. -/
import Derived.Test.YtpkmcokkapfnmaaZ4
import Derived.Test.YtpkmcokkapfnmaaRows
import Derived.WalkKit
import Derived.ProofKit
import Derived.OpenShut
import Derived.ShutString
import Derived.ChangeOld
import Derived.Below
import Derived.Lib.SmallJoins
/- Layer 7 (grow): GrowImports. -/
namespace Go.Proofs.Ytpkmcokkapfnmaa
open Go.RowKit Go.Maps Go.WideMaps
set_option maxRecDepth 100000
set_option linter.unusedVariables false
set_option linter.unusedSimpArgs false

theorem imps_lt {l : List (List UInt8)} {k k' : Nat} {T T' : List Ent} (hk : k < l.length) (hk' : k' ≤ l.length) (h1 : impsT baseT (l.take k) = some T) (h2 : errT T l[k] ≠ 0) (h3 : impsT baseT (l.take k') = some T') : ¬ k < k' := by
  intro hlt
  have h4 : k < (l.take k').length := by rw [List.length_take]; omega
  have h5 : (l.take k').take k = l.take k := by rw [List.take_take]; congr 1; omega
  have := impsT_take (l.take k') baseT T' k h4 T h3 (by rw [h5]; exact h1)
  rw [List.getElem_take] at this
  exact h2 this
theorem imps_same {l : List (List UInt8)} {k k' : Nat} {T T' : List Ent} (hk : k < l.length) (hk' : k' < l.length) (h1 : impsT baseT (l.take k) = some T) (h2 : errT T l[k] ≠ 0) (h3 : impsT baseT (l.take k') = some T') (h4 : errT T' l[k'] ≠ 0) : k = k' := by
  have := imps_lt hk (Nat.le_of_lt hk') h1 h2 h3
  have := imps_lt hk' (Nat.le_of_lt hk) h3 h4 h1
  omega
theorem below_drew1 (w : World) : Below w.heap.size w w.drew := ⟨rfl, rfl, rfl, Nat.le_refl _, fun _ _ => rfl⟩
theorem merges_same (l : List (Int × Int)) (A B : Option Addr) (c d : Nat) (w : World) (hl : Sl w A encM 2 l) (hm : Sl w B encM 2 l) (hz : l.length < 1000000000000) :
    Calls Try.prog 28 #[.slice A l.length c, .slice B l.length d] w fun e w' => e = .returned (.bool true) ∧ Below w.heap.size w w' :=
  (merges_any l l A B c d w hl hm hz).mono fun e w' ⟨h, hb⟩ => ⟨by rw [h]; exact ret_bool (decide_eq_true rfl), hb⟩
theorem texts_same (l : List (List UInt8)) (A B : Option Addr) (c d : Nat) (w : World) (hl : Sl1 w A strV l) (hm : Sl1 w B strV l) (hz : l.length < 1000000000000) :
    Calls Try.prog 32 #[.slice A l.length c, .slice B l.length d] w fun e w' => e = .returned (.bool true) ∧ Below w.heap.size w w' :=
  (texts_any l l A B c d w hl hm hz).mono fun e w' ⟨h, hb⟩ => ⟨by rw [h]; exact ret_bool (decide_eq_true rfl), hb⟩
set_option maxHeartbeats 8000000 in
theorem gimp_small (l : List (List UInt8)) (A : Option Addr) (c : Nat) (w : World) (hl : Sl1 w A strV l) (hf : fewT l = true) :
    Calls Try.prog 8 #[.slice A l.length c] w (RetTrue w) := by
  obtain ⟨hs, hlen⟩ := (fewT_iff l).1 hf
  have HL := Lib.hid hl
  have HF := Lib.hid (few_any l A c w hl (by unfold maxLen; omega))
  rw [hf] at HF
  have HS := Lib.hid (fun s (h : s ∈ l) => Nat.le_trans (hs s h) (by decide : 100 ≤ 100000000))
  clear hl hf hs
  go_enter Try.func8, Try.ntmps8
  go_wp2_with fail
  refine HF.out.mono ?_
  rintro e w ⟨rfl, rfl⟩
  clear HF
  go_wp2_with fail
  refine (import_any l A c w HL.out (by omega) HS.out).mono ?_
  rintro e w1 ⟨hb, h1⟩
  have HB1 := Lib.hid hb
  have HRI := Lib.hid (rimport_any l A c w1 (HL.out.below hb (Nat.le_refl _)) (by omega) HS.out)
  clear hb
  rcases h1 with ⟨T, tb, sv, mb, mp, rfl, ha, hok, ht⟩ | ⟨k, hk, T', ha, hok, he, rfl⟩
  · have HA := Lib.hid ha
    have HOK := Lib.hid hok
    have HT := Lib.hid ht
    clear ha hok ht
    go_wp2_with fail
    refine HRI.out.mono ?_
    rintro e w2 ⟨hb, k, T', A1, n1, c1, A2, n2, c2, no, rfl, href, hok2, himp, hno⟩
    have hk : k = l.length ∧ no = 0 := by
      rcases hno with h | ⟨hk, rfl, hne⟩
      · exact h
      · have := impsT_bad hk himp hne
        rw [HA.out] at this
        cases this
    obtain ⟨rfl, rfl⟩ := hk
    have hTT : T' = T := by
      rw [List.take_length, HA.out] at himp
      exact (Option.some.inj himp).symm
    subst hTT
    have hn2 : n2 = (mrgsT T').length := by obtain ⟨_, _, e⟩ := own_slice href.mrg; injection e
    subst hn2
    have hba := (Below.refl w2.heap.size w2).alloc (Nat.le_refl _) (.cells #[.slice A1 n1 c1, .slice A2 (mrgsT T').length c2] 28)
    have HN := Lib.hid (blk_new w2 (.cells #[.slice A1 n1 c1, .slice A2 (mrgsT T').length c2] 28))
    have hb12 := HB1.out.trans (hb.mono HB1.out.size)
    have HB2 := Lib.hid (hb12.trans (hba.mono hb12.size))
    have HT2 := Lib.hid ((HT.out.below hb (Nat.le_refl _)).below hba (Nat.le_refl _))
    have HM := Lib.hid ((own_sl (enc := encM) (fun _ => rfl) href.mrg (by decide)).below hba (Nat.le_refl _))
    have hsm := hok2.small
    have HML := Lib.hid (show (mrgsT T').length < 1000000000000 by rw [mrgs_len]; omega)
    have HEX : Hid (expT T' = l) := Lib.hid (by have := impsT_exp l baseT T' okT_base HA.out; rwa [expT_base, List.nil_append] at this)
    clear hno himp hok2 href hb hba hb12 hsm HRI HT
    go_upto_region 5 with fail
    generalize w2.alloc (.cells #[.slice A1 n1 c1, .slice A2 (mrgsT T').length c2] 28) = w3 at *
    generalize w2.heap.size = g6 at *
    have m1 := blk_cell HN.out 1
    simp only [List.getElem?_toArray, List.getElem?_cons_zero, List.getElem?_cons_succ] at m1
    have HSC : Hid (∀ V, Below w3.heap.size w3 V → V.cell? ⟨g6, 1, none⟩ = some (.slice A2 (mrgsT T').length c2)) := Lib.hid (fun V hV => below_cell hV (Nat.le_refl _) m1)
    have HBB := Lib.hid (below_drew1 w3)
    have HLW : Hid (∀ V, Below w3.heap.size w3 V → Sl1 V A strV l) := Lib.hid (fun V hV => HL.out.below (HB2.out.trans (hV.mono HB2.out.size)) (Nat.le_refl _))
    clear m1
    go_upto_region 9 with fail
    refine wp_region_D (Ds := []) (S := fun V => V.cell? ⟨g6, 1, none⟩ = some (.slice A2 (mrgsT T').length c2)) (by kernel_rfl) (by exact HSC.out _ HBB.out) (fun hHeld => ?_)
    refine wpAnyD_takeP (i := 0) (oi := { dst := some 40, op := Op.move (Operand.tmp 3), type := 24, pos := "law.go:59", after := #[], guard := none }) (d := 40) (v := ?_) rfl rfl (by kernel_rfl) (by kernel_rfl) (by kernel_rfl) (fun _ _ _ h => h) (Or.inl ⟨by rfl, ?_⟩) ?_
    rotate_left
    · (intro w' _; go_simp; (try with_reducible rfl))
    simp only [List.setIfInBounds_toArray, List.set_cons_zero, List.set_cons_succ]
    refine wpAnyD_takeP (i := 2) (oi := { dst := some 42, op := Op.fieldAddr 28 (Operand.tmp 6) 1, type := 0, pos := "law.go:59", after := #[], guard := none }) (d := 42) (v := ?_) rfl rfl (by kernel_rfl) (by kernel_rfl) (by kernel_rfl) (fun _ _ _ h => h) (Or.inl ⟨by rfl, ?_⟩) ?_
    rotate_left
    · (intro w' _; go_simp; (try with_reducible rfl))
    simp only [List.setIfInBounds_toArray, List.set_cons_zero, List.set_cons_succ]
    refine wpAnyD_takeD (i := 3) (oi := { dst := some 43, op := Op.load 26 (Operand.tmp 42), type := 26, pos := "law.go:59", after := #[{ on := 2, ground := Ground.data }], guard := none }) (d := 43) (v := ?_) rfl rfl (by kernel_rfl) (by kernel_rfl) (by kernel_rfl) (by kernel_rfl) (fun _ _ _ h => h) (Or.inl ⟨by rfl, ?_⟩) hHeld ?_
    rotate_left
    · (intro w' hSw; (try dsimp only at hSw); go_simp; (try with_reducible rfl))
    simp only [List.setIfInBounds_toArray, List.set_cons_zero, List.set_cons_succ]
    refine wpAnyD_one (i := 1) (o := { dst := some 41, op := Op.call { callee := Callee.value (Operand.func 29), args := #[Operand.tmp 40], argTypes := #[24] }, type := 26, pos := "law.go:59", after := #[{ on := 0, ground := Ground.data }], guard := none }) (by kernel_rfl) rfl (by rfl) (fun K hK => ?_)
    go_simp; refine (merges_tab (HT2.out.below HBB.out (Nat.le_refl _)) HOK.out).mono ?_; rintro e V1 ⟨A3, c3, rfl, hr3, hb⟩; have HR3 := Lib.hid (own_sl (enc := encM) (fun _ => rfl) hr3 (by decide)); replace HBB := Lib.hid (HBB.out.trans (hb.mono HBB.out.size)); have h := HSC.out _ HBB.out; clear hr3 hb; go_simp
    refine hK.out _ _ h (fun hHeld => ?_)
    clear hK K
    try simp only [Act.put, List.setIfInBounds_toArray, List.set_cons_zero, List.set_cons_succ]
    refine wpAnyD_one (i := 4) (o := { dst := some 44, op := Op.call { callee := Callee.value (Operand.func 28), args := #[Operand.tmp 41, Operand.tmp 43], argTypes := #[26, 26] }, type := 4, pos := "law.go:59", after := #[{ on := 1, ground := Ground.data }, { on := 3, ground := Ground.data }, { on := 1, ground := Ground.chain }], guard := none }) (by kernel_rfl) rfl (by rfl) (fun K hK => ?_)
    go_simp; refine (merges_same (mrgsT T') A3 A2 c3 c2 _ HR3.out (HM.out.below HBB.out (Nat.le_refl _)) HML.out).mono ?_; rintro e V2 ⟨rfl, hb⟩; replace HBB := Lib.hid (HBB.out.trans (hb.mono HBB.out.size)); have h := HSC.out _ HBB.out; clear hb; go_simp
    refine hK.out _ _ h (fun hHeld => ?_)
    clear hK K
    try simp only [Act.put, List.setIfInBounds_toArray, List.set_cons_zero, List.set_cons_succ]
    refine wpAnyD_takeP (i := 5) (oi := { dst := some 45, op := Op.move (Operand.tmp 44), type := 4, pos := "law.go:59", after := #[{ on := 4, ground := Ground.data }, { on := 4, ground := Ground.chain }], guard := none }) (d := 45) (v := ?_) rfl rfl (by kernel_rfl) (by kernel_rfl) (by kernel_rfl) (fun _ _ _ h => h) (Or.inl ⟨by rfl, ?_⟩) ?_
    rotate_left
    · (intro w' _; go_simp; (try with_reducible rfl))
    simp only [List.setIfInBounds_toArray, List.set_cons_zero, List.set_cons_succ]
    refine wpAnyD_takeP (i := 6) (oi := { dst := some 46, op := Op.move (Operand.tmp 3), type := 24, pos := "law.go:59", after := #[{ on := 5, ground := Ground.guard }], guard := some (5, true) }) (d := 46) (v := ?_) rfl rfl (by kernel_rfl) (by kernel_rfl) (by kernel_rfl) (fun _ _ _ h => h) (Or.inl ⟨by rfl, ?_⟩) ?_
    rotate_left
    · (intro w' _; go_simp; (try with_reducible rfl))
    simp only [List.setIfInBounds_toArray, List.set_cons_zero, List.set_cons_succ]
    refine wpAnyD_takeP (i := 8) (oi := { dst := some 48, op := Op.move (Operand.tmp 0), type := 25, pos := "law.go:59", after := #[{ on := 5, ground := Ground.guard }], guard := some (5, true) }) (d := 48) (v := ?_) rfl rfl (by kernel_rfl) (by kernel_rfl) (by kernel_rfl) (fun _ _ _ h => h) (Or.inl ⟨by rfl, ?_⟩) ?_
    rotate_left
    · (intro w' _; go_simp; (try with_reducible rfl))
    simp only [List.setIfInBounds_toArray, List.set_cons_zero, List.set_cons_succ]
    refine wpAnyD_one (i := 7) (o := { dst := some 47, op := Op.call { callee := Callee.value (Operand.func 33), args := #[Operand.tmp 46], argTypes := #[24] }, type := 25, pos := "law.go:59", after := #[{ on := 6, ground := Ground.data }, { on := 5, ground := Ground.chain }, { on := 5, ground := Ground.guard }], guard := some (5, true) }) (by kernel_rfl) rfl (by rfl) (fun K hK => ?_)
    go_simp; refine (export_any (HT2.out.below HBB.out (Nat.le_refl _)) HOK.out).mono ?_; rintro e V3 ⟨⟨v, rfl, hv⟩, hb⟩; rw [HEX.out] at hv; obtain ⟨A4, c4, rfl, hs4⟩ := strs_sl hv; have HS4 := Lib.hid hs4; replace HBB := Lib.hid (HBB.out.trans (hb.mono HBB.out.size)); have h := HSC.out _ HBB.out; clear hv hb hs4; go_simp
    refine hK.out _ _ h (fun hHeld => ?_)
    clear hK K
    try simp only [Act.put, List.setIfInBounds_toArray, List.set_cons_zero, List.set_cons_succ]
    refine wpAnyD_one (i := 9) (o := { dst := some 49, op := Op.call { callee := Callee.value (Operand.func 32), args := #[Operand.tmp 47, Operand.tmp 48], argTypes := #[25, 25] }, type := 4, pos := "law.go:59", after := #[{ on := 7, ground := Ground.data }, { on := 8, ground := Ground.data }, { on := 7, ground := Ground.chain }, { on := 5, ground := Ground.guard }], guard := some (5, true) }) (by kernel_rfl) rfl (by rfl) (fun K hK => ?_)
    go_simp; refine (texts_same l A4 A c4 c _ HS4.out (HLW.out _ HBB.out) (by omega)).mono ?_; rintro e V4 ⟨rfl, hb⟩; replace HBB := Lib.hid (HBB.out.trans (hb.mono HBB.out.size)); have h := HSC.out _ HBB.out; clear hb; go_simp
    refine hK.out _ _ h (fun hHeld => ?_)
    clear hK K
    try simp only [Act.put, List.setIfInBounds_toArray, List.set_cons_zero, List.set_cons_succ]
    refine wpAnyD_takeP (i := 10) (oi := { dst := some 50, op := Op.pick (Operand.tmp 45) (Operand.tmp 49) (Operand.const (Value.bool false)), type := 4, pos := "law.go:59", after := #[{ on := 5, ground := Ground.data }, { on := 9, ground := Ground.data }], guard := none }) (d := 50) (v := ?_) rfl rfl (by kernel_rfl) (by kernel_rfl) (by kernel_rfl) (fun _ _ _ h => h) (Or.inl ⟨by rfl, ?_⟩) ?_
    rotate_left
    · (intro w' _; go_simp; (try with_reducible rfl))
    simp only [List.setIfInBounds_toArray, List.set_cons_zero, List.set_cons_succ]
    refine wpAnyD_takeP (i := 11) (oi := { dst := some 51, op := Op.move (Operand.tmp 50), type := 4, pos := "law.go:59", after := #[{ on := 10, ground := Ground.data }, { on := 9, ground := Ground.chain }], guard := none }) (d := 51) (v := ?_) rfl rfl (by kernel_rfl) (by kernel_rfl) (by kernel_rfl) (fun _ _ _ h => h) (Or.inl ⟨by rfl, ?_⟩) ?_
    rotate_left
    · (intro w' _; go_simp; (try with_reducible rfl))
    simp only [List.setIfInBounds_toArray, List.set_cons_zero, List.set_cons_succ]
    refine wpAnyD_one (i := 12) (o := { dst := some 52, op := Op.call { callee := Callee.value (Operand.func 25), args := #[], argTypes := #[] }, type := 4, pos := "law.go:59", after := #[{ on := 11, ground := Ground.chain }, { on := 11, ground := Ground.guard }], guard := some (11, true) }) (by kernel_rfl) rfl (by rfl) (fun K hK => ?_)
    go_simp; refine (awake7_any _).mono ?_; rintro e V5 ⟨rfl, hb⟩; replace HBB := Lib.hid (HBB.out.trans (hb.mono HBB.out.size)); have h := HSC.out _ HBB.out; clear hb; go_simp
    refine hK.out _ _ h (fun hHeld => ?_)
    clear hK K
    try simp only [Act.put, List.setIfInBounds_toArray, List.set_cons_zero, List.set_cons_succ]
    refine wpAnyD_takeP (i := 13) (oi := { dst := some 53, op := Op.pick (Operand.tmp 51) (Operand.tmp 52) (Operand.const (Value.bool false)), type := 4, pos := "law.go:59", after := #[{ on := 11, ground := Ground.data }, { on := 12, ground := Ground.data }], guard := none }) (d := 53) (v := ?_) rfl rfl (by kernel_rfl) (by kernel_rfl) (by kernel_rfl) (fun _ _ _ h => h) (Or.inl ⟨by rfl, ?_⟩) ?_
    rotate_left
    · (intro w' _; go_simp; (try with_reducible rfl))
    simp only [List.setIfInBounds_toArray, List.set_cons_zero, List.set_cons_succ]
    refine wpAnyD_takeP (i := 14) (oi := { dst := some 2, op := Op.assign (Operand.tmp 53), type := 4, pos := "law.go:59", after := #[{ on := 13, ground := Ground.data }, { on := 12, ground := Ground.chain }, { on := 0, ground := Ground.phase }, { on := 1, ground := Ground.phase }, { on := 2, ground := Ground.phase }, { on := 3, ground := Ground.phase }, { on := 4, ground := Ground.phase }, { on := 5, ground := Ground.phase }, { on := 6, ground := Ground.phase }, { on := 7, ground := Ground.phase }, { on := 8, ground := Ground.phase }, { on := 9, ground := Ground.phase }, { on := 10, ground := Ground.phase }, { on := 11, ground := Ground.phase }, { on := 12, ground := Ground.phase }, { on := 13, ground := Ground.phase }], guard := none }) (d := 2) (v := ?_) rfl rfl (by kernel_rfl) (by kernel_rfl) (by kernel_rfl) (fun _ _ _ h => h) (Or.inl ⟨by rfl, ?_⟩) ?_
    rotate_left
    · (intro w' _; go_simp; (try with_reducible rfl))
    simp only [List.setIfInBounds_toArray, List.set_cons_zero, List.set_cons_succ]
    refine wpAnyD_done (by kernel_rfl) ?_ _
    go_wp2_with fail
    go_ret
    exact ⟨rfl, HB2.out.trans (HBB.out.mono HB2.out.size)⟩
  · have HA := Lib.hid ha
    have HE := Lib.hid he
    obtain ⟨E, hE⟩ : ∃ E, errT T' l[k] = E := ⟨_, rfl⟩
    rw [hE] at he ⊢
    have HEE := Lib.hid hE
    clear hE ha hok
    go_wp2_with fail
    refine HRI.out.mono ?_
    rintro e w2 ⟨hb, k2, T2, A1, n1, c1, A2, n2, c2, no, rfl, href, hok2, himp, hno⟩
    have hk2 : k2 = k ∧ no = E := by
      rcases hno with ⟨rfl, rfl⟩ | ⟨hk2, rfl, hne⟩
      · rw [List.take_length, impsT_bad hk HA.out HE.out] at himp
        cases himp
      · have e1 := imps_same hk hk2 HA.out HE.out himp hne
        subst e1
        rw [HA.out] at himp
        have e2 := Option.some.inj himp
        subst e2
        exact ⟨rfl, HEE.out⟩
    obtain ⟨rfl, rfl⟩ := hk2
    have hba := (Below.refl w2.heap.size w2).alloc (Nat.le_refl _) (.cells #[.slice A1 n1 c1, .slice A2 n2 c2] 28)
    have hb12 := HB1.out.trans (hb.mono HB1.out.size)
    have HB2 := Lib.hid (hb12.trans (hba.mono hb12.size))
    have hne : (no != 0) = true := by simpa using he
    clear hno himp hok2 href hb hba hb12 HRI he HEE HE
    go_wp2_with fail
    refine (awake7_any _).mono ?_
    rintro e w4 ⟨rfl, hb⟩
    have HB4 := Lib.hid (HB2.out.trans (hb.mono HB2.out.size))
    clear hb
    go_wp2_with fail
    go_ret
    exact ⟨rfl, HB4.out⟩
theorem gimp_law (l : List (List UInt8)) (A : Option Addr) (c : Nat) (w : World) (_ : l.length ≤ c) (hc : c ≤ maxLen) (hw : ∀ y ∈ l, y.length ≤ maxLen) (hs : Sl1 w A strV l) :
    Calls Try.prog 8 #[.slice A l.length c] w (RetTrue w) := by
  cases hf : fewT l with
  | true => exact gimp_small l A c w hs hf
  | false =>
    have HF := Lib.hid (few_any l A c w hs (by omega))
    rw [hf] at HF
    clear hf hs
    go_enter Try.func8, Try.ntmps8
    go_wp2_with fail
    refine HF.out.mono ?_
    rintro e w ⟨rfl, rfl⟩
    go_wp2_with fail
    refine (awake7_any _).mono ?_
    rintro e w1 ⟨rfl, hb1⟩
    go_wp2_with fail
    go_ret
    exact ⟨rfl, hb1⟩
end Go.Proofs.Ytpkmcokkapfnmaa
/- GrowImports returns true for every list of texts, and its argument read afterwards is as before. -/
namespace Go.Proofs.Ytpkmcokkapfnmaa.growImports
open Go.ChangeShapes Go.WideShapes Go.ChangeAt Go.RowKit Go.Joins
open Go.ChangeMaps (open_string shut_string)
set_option linter.unusedVariables false

theorem own : ownKnob Try.prog.godebug = none := by kernel_rfl
theorem laidOut : laidOutB Try.prog = true := by kernel_rfl

set_option maxRecDepth 100000 in
theorem lifted (os : Os) (started : os.Started) (H : Type) (enc : TypeId × Value → H) :
    ReturnsInHanded {} Try.checked os 8 .any (Rows.growImportsSpec.pre6 enc Try.prog Try.f8 Rows.growImportsRow.domain false) (Rows.growImportsSpec.post enc Try.prog Try.f8 false true false false) := by
  refine returnsInHanded_of_change (C := Try.checked) own started (by kernel_rfl) Try.func8
    (ChangeSpec.witness6 (enc := enc) (C := Try.checked) false ⟨#[], #[.slice none 0 0], []⟩ 8 (by kernel_rfl) (by kernel_rfl) (by kernel_rfl) (by kernel_rfl)) ?_
  intro W base args ds gs before hval0 hW hcnd _
  have hval : ∀ (j : Nat) t v, Try.f8.params[j]? = some t → args[j]? = some v → Value.okWide Try.prog W .any base t v := hval0
  have hW' := hW
  obtain ⟨p, q, hA0, hV, rfl, hfz, hnd⟩ := hW
  have hA : DataW.TrodAll enc Try.prog W 0 (fun _ => true) true Try.f8.params.toList args.toList ds p := hA0
  rw [Try.params8] at hA hval
  obtain ⟨v0, vs0, d0, ds0, p0, q0, hargs, rfl, rfl, h0, r0⟩ := trodAll_cons hA
  obtain ⟨rfl, rfl, rfl⟩ := trodAll_nil r0
  obtain rfl : args = #[v0] := by cases args; simp_all
  obtain ⟨rfl, rfl⟩ := trodVars_none hV
  obtain ⟨a0, n0, c0, rfl⟩ := okWide_slice Try.underlying25 (hval 0 25 v0 rfl rfl)
  have k0 := h0
  have lt0 : ∀ x ∈ p0, x.block < W.heap.size := by obtain ⟨m, hm⟩ := k0; exact DataW.trod_lt m _ _ _ hm
  obtain ⟨fuel0, hf0⟩ := h0
  obtain ⟨x0, rfl, l0, m0, w0, s0⟩ := arg_strs Try.underlying25 Try.underlying9 (by kernel_rfl) hf0
  clear hA0 hval0
  refine (gimp_law x0 a0 c0 W l0 m0 w0 s0).mono fun e W' ⟨he, bel⟩ => ?_
  subst he
  exact ⟨_, rfl, _, _, _, [], _, [], hW', trodAll_mk1 (shut_bool Try.underlying4 _), (trodAll_cons_mk (Below.trod laidOut (by kernel_rfl) (of_decide_eq_true (by kernel_rfl)) k0 bel lt0) trodAll_mk0), rfl, bel.frame _, fun h => by cases h⟩

theorem over : Rows.growImportsRow.holds Try.pinned (OpenSpec.ofChange Rows.growImportsSpec) :=
  OpenClaim.holds_of_wide 8 Try.f8 rfl rfl rfl rfl rfl rfl rfl ⟨rfl, rfl, rfl, rfl, rfl⟩ rfl rfl rfl rfl rfl (by kernel_rfl) Try.func8 (by kernel_rfl)
    (of_decide_eq_true (by kernel_rfl)) (by unfold Func.isWrapper; first | (rw [if_pos (by decide +kernel)]; kernel_rfl) | (rw [if_neg (by decide +kernel)]; exact ⟨rfl, rfl⟩))
    (fun os started H enc _ => lifted os started H enc)
end Go.Proofs.Ytpkmcokkapfnmaa.growImports
namespace Go.Proofs.Ytpkmcokkapfnmaa
theorem growImports_holds : Rows.GrowImportsSaid := growImports.over
#print axioms growImports_holds
end Go.Proofs.Ytpkmcokkapfnmaa
