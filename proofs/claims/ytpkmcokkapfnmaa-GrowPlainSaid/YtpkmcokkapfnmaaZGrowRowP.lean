/- GrowPlain returns true for every list of numbers, and its argument read afterwards is as before. -/
import Derived.Test.YtpkmcokkapfnmaaZ4
import Derived.Test.YtpkmcokkapfnmaaRows
import Derived.WalkKit
import Derived.ProofKit
import Derived.OpenShut
import Derived.ShutString
import Derived.ChangeOld
import Derived.Below
import Derived.Lib.SmallJoins
/- Layer 7 (grow): GrowImports. -/
namespace Go.Proofs.Ytpkmcokkapfnmaa
open Go.RowKit Go.Maps Go.WideMaps
set_option maxRecDepth 100000
set_option linter.unusedVariables false
set_option linter.unusedSimpArgs false

theorem imps_lt {l : List (List UInt8)} {k k' : Nat} {T T' : List Ent} (hk : k < l.length) (hk' : k' ≤ l.length) (h1 : impsT baseT (l.take k) = some T) (h2 : errT T l[k] ≠ 0) (h3 : impsT baseT (l.take k') = some T') : ¬ k < k' := by
  intro hlt
  have h4 : k < (l.take k').length := by rw [List.length_take]; omega
  have h5 : (l.take k').take k = l.take k := by rw [List.take_take]; congr 1; omega
  have := impsT_take (l.take k') baseT T' k h4 T h3 (by rw [h5]; exact h1)
  rw [List.getElem_take] at this
  exact h2 this
theorem imps_same {l : List (List UInt8)} {k k' : Nat} {T T' : List Ent} (hk : k < l.length) (hk' : k' < l.length) (h1 : impsT baseT (l.take k) = some T) (h2 : errT T l[k] ≠ 0) (h3 : impsT baseT (l.take k') = some T') (h4 : errT T' l[k'] ≠ 0) : k = k' := by
  have := imps_lt hk (Nat.le_of_lt hk') h1 h2 h3
  have := imps_lt hk' (Nat.le_of_lt hk) h3 h4 h1
  omega
theorem below_drew1 (w : World) : Below w.heap.size w w.drew := ⟨rfl, rfl, rfl, Nat.le_refl _, fun _ _ => rfl⟩
theorem merges_same (l : List (Int × Int)) (A B : Option Addr) (c d : Nat) (w : World) (hl : Sl w A encM 2 l) (hm : Sl w B encM 2 l) (hz : l.length < 1000000000000) :
    Calls Try.prog 28 #[.slice A l.length c, .slice B l.length d] w fun e w' => e = .returned (.bool true) ∧ Below w.heap.size w w' :=
  (merges_any l l A B c d w hl hm hz).mono fun e w' ⟨h, hb⟩ => ⟨by rw [h]; exact ret_bool (decide_eq_true rfl), hb⟩
theorem texts_same (l : List (List UInt8)) (A B : Option Addr) (c d : Nat) (w : World) (hl : Sl1 w A strV l) (hm : Sl1 w B strV l) (hz : l.length < 1000000000000) :
    Calls Try.prog 32 #[.slice A l.length c, .slice B l.length d] w fun e w' => e = .returned (.bool true) ∧ Below w.heap.size w w' :=
  (texts_any l l A B c d w hl hm hz).mono fun e w' ⟨h, hb⟩ => ⟨by rw [h]; exact ret_bool (decide_eq_true rfl), hb⟩
set_option maxHeartbeats 8000000 in
theorem gimp_small (l : List (List UInt8)) (A : Option Addr) (c : Nat) (w : World) (hl : Sl1 w A strV l) (hf : fewT l = true) :
    Calls Try.prog 8 #[.slice A l.length c] w (RetTrue w) := by
  obtain ⟨hs, hlen⟩ := (fewT_iff l).1 hf
  have HL := Lib.hid hl
  have HF := Lib.hid (few_any l A c w hl (by unfold maxLen; omega))
  rw [hf] at HF
  have HS := Lib.hid (fun s (h : s ∈ l) => Nat.le_trans (hs s h) (by decide : 100 ≤ 100000000))
  clear hl hf hs
  go_enter Try.func8, Try.ntmps8
  go_wp2_with fail
  refine HF.out.mono ?_
  rintro e w ⟨rfl, rfl⟩
  clear HF
  go_wp2_with fail
  refine (import_any l A c w HL.out (by omega) HS.out).mono ?_
  rintro e w1 ⟨hb, h1⟩
  have HB1 := Lib.hid hb
  have HRI := Lib.hid (rimport_any l A c w1 (HL.out.below hb (Nat.le_refl _)) (by omega) HS.out)
  clear hb
  rcases h1 with ⟨T, tb, sv, mb, mp, rfl, ha, hok, ht⟩ | ⟨k, hk, T', ha, hok, he, rfl⟩
  · have HA := Lib.hid ha
    have HOK := Lib.hid hok
    have HT := Lib.hid ht
    clear ha hok ht
    go_wp2_with fail
    refine HRI.out.mono ?_
    rintro e w2 ⟨hb, k, T', A1, n1, c1, A2, n2, c2, no, rfl, href, hok2, himp, hno⟩
    have hk : k = l.length ∧ no = 0 := by
      rcases hno with h | ⟨hk, rfl, hne⟩
      · exact h
      · have := impsT_bad hk himp hne
        rw [HA.out] at this
        cases this
    obtain ⟨rfl, rfl⟩ := hk
    have hTT : T' = T := by
      rw [List.take_length, HA.out] at himp
      exact (Option.some.inj himp).symm
    subst hTT
    have hn2 : n2 = (mrgsT T').length := by obtain ⟨_, _, e⟩ := own_slice href.mrg; injection e
    subst hn2
    have hba := (Below.refl w2.heap.size w2).alloc (Nat.le_refl _) (.cells #[.slice A1 n1 c1, .slice A2 (mrgsT T').length c2] 28)
    have HN := Lib.hid (blk_new w2 (.cells #[.slice A1 n1 c1, .slice A2 (mrgsT T').length c2] 28))
    have hb12 := HB1.out.trans (hb.mono HB1.out.size)
    have HB2 := Lib.hid (hb12.trans (hba.mono hb12.size))
    have HT2 := Lib.hid ((HT.out.below hb (Nat.le_refl _)).below hba (Nat.le_refl _))
    have HM := Lib.hid ((own_sl (enc := encM) (fun _ => rfl) href.mrg (by decide)).below hba (Nat.le_refl _))
    have hsm := hok2.small
    have HML := Lib.hid (show (mrgsT T').length < 1000000000000 by rw [mrgs_len]; omega)
    have HEX : Hid (expT T' = l) := Lib.hid (by have := impsT_exp l baseT T' okT_base HA.out; rwa [expT_base, List.nil_append] at this)
    clear hno himp hok2 href hb hba hb12 hsm HRI HT
    go_upto_region 5 with fail
    generalize w2.alloc (.cells #[.slice A1 n1 c1, .slice A2 (mrgsT T').length c2] 28) = w3 at *
    generalize w2.heap.size = g6 at *
    have m1 := blk_cell HN.out 1
    simp only [List.getElem?_toArray, List.getElem?_cons_zero, List.getElem?_cons_succ] at m1
    have HSC : Hid (∀ V, Below w3.heap.size w3 V → V.cell? ⟨g6, 1, none⟩ = some (.slice A2 (mrgsT T').length c2)) := Lib.hid (fun V hV => below_cell hV (Nat.le_refl _) m1)
    have HBB := Lib.hid (below_drew1 w3)
    have HLW : Hid (∀ V, Below w3.heap.size w3 V → Sl1 V A strV l) := Lib.hid (fun V hV => HL.out.below (HB2.out.trans (hV.mono HB2.out.size)) (Nat.le_refl _))
    clear m1
    go_upto_region 9 with fail
    refine wp_region_D (Ds := []) (S := fun V => V.cell? ⟨g6, 1, none⟩ = some (.slice A2 (mrgsT T').length c2)) (by kernel_rfl) (by exact HSC.out _ HBB.out) (fun hHeld => ?_)
    refine wpAnyD_takeP (i := 0) (oi := { dst := some 40, op := Op.move (Operand.tmp 3), type := 24, pos := "law.go:59", after := #[], guard := none }) (d := 40) (v := ?_) rfl rfl (by kernel_rfl) (by kernel_rfl) (by kernel_rfl) (fun _ _ _ h => h) (Or.inl ⟨by rfl, ?_⟩) ?_
    rotate_left
    · (intro w' _; go_simp; (try with_reducible rfl))
    simp only [List.setIfInBounds_toArray, List.set_cons_zero, List.set_cons_succ]
    refine wpAnyD_takeP (i := 2) (oi := { dst := some 42, op := Op.fieldAddr 28 (Operand.tmp 6) 1, type := 0, pos := "law.go:59", after := #[], guard := none }) (d := 42) (v := ?_) rfl rfl (by kernel_rfl) (by kernel_rfl) (by kernel_rfl) (fun _ _ _ h => h) (Or.inl ⟨by rfl, ?_⟩) ?_
    rotate_left
    · (intro w' _; go_simp; (try with_reducible rfl))
    simp only [List.setIfInBounds_toArray, List.set_cons_zero, List.set_cons_succ]
    refine wpAnyD_takeD (i := 3) (oi := { dst := some 43, op := Op.load 26 (Operand.tmp 42), type := 26, pos := "law.go:59", after := #[{ on := 2, ground := Ground.data }], guard := none }) (d := 43) (v := ?_) rfl rfl (by kernel_rfl) (by kernel_rfl) (by kernel_rfl) (by kernel_rfl) (fun _ _ _ h => h) (Or.inl ⟨by rfl, ?_⟩) hHeld ?_
    rotate_left
    · (intro w' hSw; (try dsimp only at hSw); go_simp; (try with_reducible rfl))
    simp only [List.setIfInBounds_toArray, List.set_cons_zero, List.set_cons_succ]
    refine wpAnyD_one (i := 1) (o := { dst := some 41, op := Op.call { callee := Callee.value (Operand.func 29), args := #[Operand.tmp 40], argTypes := #[24] }, type := 26, pos := "law.go:59", after := #[{ on := 0, ground := Ground.data }], guard := none }) (by kernel_rfl) rfl (by rfl) (fun K hK => ?_)
    go_simp; refine (merges_tab (HT2.out.below HBB.out (Nat.le_refl _)) HOK.out).mono ?_; rintro e V1 ⟨A3, c3, rfl, hr3, hb⟩; have HR3 := Lib.hid (own_sl (enc := encM) (fun _ => rfl) hr3 (by decide)); replace HBB := Lib.hid (HBB.out.trans (hb.mono HBB.out.size)); have h := HSC.out _ HBB.out; clear hr3 hb; go_simp
    refine hK.out _ _ h (fun hHeld => ?_)
    clear hK K
    try simp only [Act.put, List.setIfInBounds_toArray, List.set_cons_zero, List.set_cons_succ]
    refine wpAnyD_one (i := 4) (o := { dst := some 44, op := Op.call { callee := Callee.value (Operand.func 28), args := #[Operand.tmp 41, Operand.tmp 43], argTypes := #[26, 26] }, type := 4, pos := "law.go:59", after := #[{ on := 1, ground := Ground.data }, { on := 3, ground := Ground.data }, { on := 1, ground := Ground.chain }], guard := none }) (by kernel_rfl) rfl (by rfl) (fun K hK => ?_)
    go_simp; refine (merges_same (mrgsT T') A3 A2 c3 c2 _ HR3.out (HM.out.below HBB.out (Nat.le_refl _)) HML.out).mono ?_; rintro e V2 ⟨rfl, hb⟩; replace HBB := Lib.hid (HBB.out.trans (hb.mono HBB.out.size)); have h := HSC.out _ HBB.out; clear hb; go_simp
    refine hK.out _ _ h (fun hHeld => ?_)
    clear hK K
    try simp only [Act.put, List.setIfInBounds_toArray, List.set_cons_zero, List.set_cons_succ]
    refine wpAnyD_takeP (i := 5) (oi := { dst := some 45, op := Op.move (Operand.tmp 44), type := 4, pos := "law.go:59", after := #[{ on := 4, ground := Ground.data }, { on := 4, ground := Ground.chain }], guard := none }) (d := 45) (v := ?_) rfl rfl (by kernel_rfl) (by kernel_rfl) (by kernel_rfl) (fun _ _ _ h => h) (Or.inl ⟨by rfl, ?_⟩) ?_
    rotate_left
    · (intro w' _; go_simp; (try with_reducible rfl))
    simp only [List.setIfInBounds_toArray, List.set_cons_zero, List.set_cons_succ]
    refine wpAnyD_takeP (i := 6) (oi := { dst := some 46, op := Op.move (Operand.tmp 3), type := 24, pos := "law.go:59", after := #[{ on := 5, ground := Ground.guard }], guard := some (5, true) }) (d := 46) (v := ?_) rfl rfl (by kernel_rfl) (by kernel_rfl) (by kernel_rfl) (fun _ _ _ h => h) (Or.inl ⟨by rfl, ?_⟩) ?_
    rotate_left
    · (intro w' _; go_simp; (try with_reducible rfl))
    simp only [List.setIfInBounds_toArray, List.set_cons_zero, List.set_cons_succ]
    refine wpAnyD_takeP (i := 8) (oi := { dst := some 48, op := Op.move (Operand.tmp 0), type := 25, pos := "law.go:59", after := #[{ on := 5, ground := Ground.guard }], guard := some (5, true) }) (d := 48) (v := ?_) rfl rfl (by kernel_rfl) (by kernel_rfl) (by kernel_rfl) (fun _ _ _ h => h) (Or.inl ⟨by rfl, ?_⟩) ?_
    rotate_left
    · (intro w' _; go_simp; (try with_reducible rfl))
    simp only [List.setIfInBounds_toArray, List.set_cons_zero, List.set_cons_succ]
    refine wpAnyD_one (i := 7) (o := { dst := some 47, op := Op.call { callee := Callee.value (Operand.func 33), args := #[Operand.tmp 46], argTypes := #[24] }, type := 25, pos := "law.go:59", after := #[{ on := 6, ground := Ground.data }, { on := 5, ground := Ground.chain }, { on := 5, ground := Ground.guard }], guard := some (5, true) }) (by kernel_rfl) rfl (by rfl) (fun K hK => ?_)
    go_simp; refine (export_any (HT2.out.below HBB.out (Nat.le_refl _)) HOK.out).mono ?_; rintro e V3 ⟨⟨v, rfl, hv⟩, hb⟩; rw [HEX.out] at hv; obtain ⟨A4, c4, rfl, hs4⟩ := strs_sl hv; have HS4 := Lib.hid hs4; replace HBB := Lib.hid (HBB.out.trans (hb.mono HBB.out.size)); have h := HSC.out _ HBB.out; clear hv hb hs4; go_simp
    refine hK.out _ _ h (fun hHeld => ?_)
    clear hK K
    try simp only [Act.put, List.setIfInBounds_toArray, List.set_cons_zero, List.set_cons_succ]
    refine wpAnyD_one (i := 9) (o := { dst := some 49, op := Op.call { callee := Callee.value (Operand.func 32), args := #[Operand.tmp 47, Operand.tmp 48], argTypes := #[25, 25] }, type := 4, pos := "law.go:59", after := #[{ on := 7, ground := Ground.data }, { on := 8, ground := Ground.data }, { on := 7, ground := Ground.chain }, { on := 5, ground := Ground.guard }], guard := some (5, true) }) (by kernel_rfl) rfl (by rfl) (fun K hK => ?_)
    go_simp; refine (texts_same l A4 A c4 c _ HS4.out (HLW.out _ HBB.out) (by omega)).mono ?_; rintro e V4 ⟨rfl, hb⟩; replace HBB := Lib.hid (HBB.out.trans (hb.mono HBB.out.size)); have h := HSC.out _ HBB.out; clear hb; go_simp
    refine hK.out _ _ h (fun hHeld => ?_)
    clear hK K
    try simp only [Act.put, List.setIfInBounds_toArray, List.set_cons_zero, List.set_cons_succ]
    refine wpAnyD_takeP (i := 10) (oi := { dst := some 50, op := Op.pick (Operand.tmp 45) (Operand.tmp 49) (Operand.const (Value.bool false)), type := 4, pos := "law.go:59", after := #[{ on := 5, ground := Ground.data }, { on := 9, ground := Ground.data }], guard := none }) (d := 50) (v := ?_) rfl rfl (by kernel_rfl) (by kernel_rfl) (by kernel_rfl) (fun _ _ _ h => h) (Or.inl ⟨by rfl, ?_⟩) ?_
    rotate_left
    · (intro w' _; go_simp; (try with_reducible rfl))
    simp only [List.setIfInBounds_toArray, List.set_cons_zero, List.set_cons_succ]
    refine wpAnyD_takeP (i := 11) (oi := { dst := some 51, op := Op.move (Operand.tmp 50), type := 4, pos := "law.go:59", after := #[{ on := 10, ground := Ground.data }, { on := 9, ground := Ground.chain }], guard := none }) (d := 51) (v := ?_) rfl rfl (by kernel_rfl) (by kernel_rfl) (by kernel_rfl) (fun _ _ _ h => h) (Or.inl ⟨by rfl, ?_⟩) ?_
    rotate_left
    · (intro w' _; go_simp; (try with_reducible rfl))
    simp only [List.setIfInBounds_toArray, List.set_cons_zero, List.set_cons_succ]
    refine wpAnyD_one (i := 12) (o := { dst := some 52, op := Op.call { callee := Callee.value (Operand.func 25), args := #[], argTypes := #[] }, type := 4, pos := "law.go:59", after := #[{ on := 11, ground := Ground.chain }, { on := 11, ground := Ground.guard }], guard := some (11, true) }) (by kernel_rfl) rfl (by rfl) (fun K hK => ?_)
    go_simp; refine (awake7_any _).mono ?_; rintro e V5 ⟨rfl, hb⟩; replace HBB := Lib.hid (HBB.out.trans (hb.mono HBB.out.size)); have h := HSC.out _ HBB.out; clear hb; go_simp
    refine hK.out _ _ h (fun hHeld => ?_)
    clear hK K
    try simp only [Act.put, List.setIfInBounds_toArray, List.set_cons_zero, List.set_cons_succ]
    refine wpAnyD_takeP (i := 13) (oi := { dst := some 53, op := Op.pick (Operand.tmp 51) (Operand.tmp 52) (Operand.const (Value.bool false)), type := 4, pos := "law.go:59", after := #[{ on := 11, ground := Ground.data }, { on := 12, ground := Ground.data }], guard := none }) (d := 53) (v := ?_) rfl rfl (by kernel_rfl) (by kernel_rfl) (by kernel_rfl) (fun _ _ _ h => h) (Or.inl ⟨by rfl, ?_⟩) ?_
    rotate_left
    · (intro w' _; go_simp; (try with_reducible rfl))
    simp only [List.setIfInBounds_toArray, List.set_cons_zero, List.set_cons_succ]
    refine wpAnyD_takeP (i := 14) (oi := { dst := some 2, op := Op.assign (Operand.tmp 53), type := 4, pos := "law.go:59", after := #[{ on := 13, ground := Ground.data }, { on := 12, ground := Ground.chain }, { on := 0, ground := Ground.phase }, { on := 1, ground := Ground.phase }, { on := 2, ground := Ground.phase }, { on := 3, ground := Ground.phase }, { on := 4, ground := Ground.phase }, { on := 5, ground := Ground.phase }, { on := 6, ground := Ground.phase }, { on := 7, ground := Ground.phase }, { on := 8, ground := Ground.phase }, { on := 9, ground := Ground.phase }, { on := 10, ground := Ground.phase }, { on := 11, ground := Ground.phase }, { on := 12, ground := Ground.phase }, { on := 13, ground := Ground.phase }], guard := none }) (d := 2) (v := ?_) rfl rfl (by kernel_rfl) (by kernel_rfl) (by kernel_rfl) (fun _ _ _ h => h) (Or.inl ⟨by rfl, ?_⟩) ?_
    rotate_left
    · (intro w' _; go_simp; (try with_reducible rfl))
    simp only [List.setIfInBounds_toArray, List.set_cons_zero, List.set_cons_succ]
    refine wpAnyD_done (by kernel_rfl) ?_ _
    go_wp2_with fail
    go_ret
    exact ⟨rfl, HB2.out.trans (HBB.out.mono HB2.out.size)⟩
  · have HA := Lib.hid ha
    have HE := Lib.hid he
    obtain ⟨E, hE⟩ : ∃ E, errT T' l[k] = E := ⟨_, rfl⟩
    rw [hE] at he ⊢
    have HEE := Lib.hid hE
    clear hE ha hok
    go_wp2_with fail
    refine HRI.out.mono ?_
    rintro e w2 ⟨hb, k2, T2, A1, n1, c1, A2, n2, c2, no, rfl, href, hok2, himp, hno⟩
    have hk2 : k2 = k ∧ no = E := by
      rcases hno with ⟨rfl, rfl⟩ | ⟨hk2, rfl, hne⟩
      · rw [List.take_length, impsT_bad hk HA.out HE.out] at himp
        cases himp
      · have e1 := imps_same hk hk2 HA.out HE.out himp hne
        subst e1
        rw [HA.out] at himp
        have e2 := Option.some.inj himp
        subst e2
        exact ⟨rfl, HEE.out⟩
    obtain ⟨rfl, rfl⟩ := hk2
    have hba := (Below.refl w2.heap.size w2).alloc (Nat.le_refl _) (.cells #[.slice A1 n1 c1, .slice A2 n2 c2] 28)
    have hb12 := HB1.out.trans (hb.mono HB1.out.size)
    have HB2 := Lib.hid (hb12.trans (hba.mono hb12.size))
    have hne : (no != 0) = true := by simpa using he
    clear hno himp hok2 href hb hba hb12 HRI he HEE HE
    go_wp2_with fail
    refine (awake7_any _).mono ?_
    rintro e w4 ⟨rfl, hb⟩
    have HB4 := Lib.hid (HB2.out.trans (hb.mono HB2.out.size))
    clear hb
    go_wp2_with fail
    go_ret
    exact ⟨rfl, HB4.out⟩
theorem gimp_law (l : List (List UInt8)) (A : Option Addr) (c : Nat) (w : World) (_ : l.length ≤ c) (hc : c ≤ maxLen) (hw : ∀ y ∈ l, y.length ≤ maxLen) (hs : Sl1 w A strV l) :
    Calls Try.prog 8 #[.slice A l.length c] w (RetTrue w) := by
  cases hf : fewT l with
  | true => exact gimp_small l A c w hs hf
  | false =>
    have HF := Lib.hid (few_any l A c w hs (by omega))
    rw [hf] at HF
    clear hf hs
    go_enter Try.func8, Try.ntmps8
    go_wp2_with fail
    refine HF.out.mono ?_
    rintro e w ⟨rfl, rfl⟩
    go_wp2_with fail
    refine (awake7_any _).mono ?_
    rintro e w1 ⟨rfl, hb1⟩
    go_wp2_with fail
    go_ret
    exact ⟨rfl, hb1⟩
end Go.Proofs.Ytpkmcokkapfnmaa
/- Layer 7 (grow): GrowPlain. -/
namespace Go.Proofs.Ytpkmcokkapfnmaa
open Go.RowKit Go.Maps Go.WideMaps
set_option maxRecDepth 100000
set_option linter.unusedVariables false
set_option linter.unusedSimpArgs false

/-- of a list of texts what is behind the first 256 -/
theorem slice256 (g n c : Nat) (w : World) (h1 : 256 ≤ n) (h2 : n ≤ c) : (Instr.sliceAt 25 (.slice (some ⟨g, 0, none⟩) n c) (some (.int .i64 256)) none none).run Try.prog w = .ok (.slice (some ⟨g, if c = 256 then 0 else 256, none⟩) (n - 256) (c - 256)) w := by
  have q1 : (256 : Int) ≤ (n : Int) := by omega
  have q2 : (n : Int) ≤ (c : Int) := by omega
  have q3 : ((n : Int) - 256).toNat = n - 256 := by omega
  have q4 : ((c : Int) - 256).toNat = c - 256 := by omega
  by_cases h : c = 256
  · subst h
    simp [go_sem, q1, q2, q3, q4]
  · simp [go_sem, q1, q2, q3, q4, h]
theorem ref_open {w : World} {base : Nat} {T : List Ent} {vb vm : Value} (h : RefIs w base T vb vm) (h256 : 256 ≤ T.length) : ∃ g c, vb = .slice (some ⟨g, 0, none⟩) T.length c ∧ T.length ≤ c ∧ Sl1 w (some ⟨g, 0, none⟩) strV (bytsT T) ∧ Sl1 w (some ⟨g, if c = 256 then 0 else 256, none⟩) strV (expT T) := by
  obtain ⟨g, c, rfl, _, _, hc⟩ := own_open h.row (by omega)
  have hcap : T.length ≤ c := hw.own_cap h.row
  have hs : Sl1 w (some ⟨g, 0, none⟩) strV (bytsT T) := by
    intro i x hx
    refine ⟨g, 0, rfl, ?_⟩
    rw [Nat.zero_add]
    exact (hc i (strV x) (by rw [List.getElem?_map, hx]; rfl)).1
  refine ⟨g, c, rfl, hcap, hs, ?_⟩
  by_cases h0 : c = 256
  · have : expT T = [] := List.eq_nil_of_length_eq_zero (by rw [expT_len]; omega)
    rw [this]
    exact Sl1.nil _ _ _
  · rw [if_neg h0]
    intro i x hx
    refine ⟨g, 256, rfl, ?_⟩
    refine (hc (256 + i) (strV x) ?_).1
    unfold expT at hx
    unfold bytsT
    rw [List.getElem?_map, Option.map_eq_some_iff] at hx
    obtain ⟨e, he, rfl⟩ := hx
    rw [List.getElem?_drop] at he
    rw [List.getElem?_map, List.getElem?_map, he]
    rfl
theorem plain_each {T : List Ent} (h : AddsT T) (hp : plainT T = true) : ∀ q, 256 ≤ q → q < T.length → (bytsT T)[q]? = some ((expT T).getD (q - 256) []) ∧ encT T T.length ((expT T).getD (q - 256) []) = [(q : Int)] := by
  intro q h1 h2
  have hl : q - 256 < (expT T).length := by rw [expT_len]; omega
  have e1 : (expT T).getD (q - 256) [] = (expT T)[q - 256] := by rw [List.getD_eq_getElem?_getD, List.getElem?_eq_getElem hl]; rfl
  rw [e1]
  constructor
  · simp only [expT, bytsT, List.getElem_map, List.getElem_drop]
    rw [List.getElem?_map, List.getElem?_eq_getElem (by omega)]
    simp only [Option.map_some, Option.some.injEq]
    have : 256 + (q - 256) = q := by omega
    simp only [this]
  · unfold plainT at hp
    cases hi : impsT baseT (expT T) with
    | none => rw [hi] at hp; cases hp
    | some T' =>
      rw [hi] at hp
      have he : mrgsT T' = mrgsT T := by simpa using hp
      have hT := adds_eq h (impsT_adds _ _ _ addsT_base hi) he
      subst hT
      have := plain_alone (expT T') baseT T' okT_base hi (q - 256) hl
      rw [this, base_len]
      congr 1
      omega
theorem byts_short {T : List Ent} (hT : OkT T) : ∀ x ∈ bytsT T, x.length ≤ 64 := by
  intro x hx
  unfold bytsT at hx
  obtain ⟨e, he, rfl⟩ := List.mem_map.1 hx
  exact (hT.len e he).2
structure PlIs (w W : World) (b : Nat) (T : List Ent) (tb : Nat) (sv : Value) (mb mp : Nat) (g c1 o : Nat) (A2 : Option Addr) (c2 : Nat) (g3 : Nat) : Prop where
  tab : TabIs W b tb T sv mb mp
  byt : Sl1 W (some ⟨g, 0, none⟩) strV (bytsT T)
  ex : Sl1 W (some ⟨g, o, none⟩) strV (expT T)
  mrg : Sl W A2 encM 2 (mrgsT T)
  blk : W.heap[g3]? = some (.cells #[.slice (some ⟨g, 0, none⟩) T.length c1, .slice A2 (mrgsT T).length c2] 28)
  bl : Below w.heap.size w W
theorem PlIs.step {w W V : World} {b : Nat} {T : List Ent} {tb : Nat} {sv : Value} {mb mp : Nat} {g c1 o : Nat} {A2 : Option Addr} {c2 : Nat} {g3 : Nat} (h : PlIs w W b T tb sv mb mp g c1 o A2 c2 g3) (hb : Below W.heap.size W V) : PlIs w V b T tb sv mb mp g c1 o A2 c2 g3 :=
  ⟨h.tab.below hb (Nat.le_refl _), h.byt.below hb (Nat.le_refl _), h.ex.below hb (Nat.le_refl _), h.mrg.below hb (Nat.le_refl _), blk_below hb (blk_lt h.blk) h.blk, h.bl.trans (hb.mono h.bl.size)⟩
set_option maxHeartbeats 8000000 in
theorem gplain_small (l : List Nat) (A : Option Addr) (c : Nat) (w : World) (hl : Sl1 w A (fun x : Nat => .int .u16 (x : Int)) l) (hsm : ∀ x ∈ l, x < 65536) (hlen : l.length ≤ 40) :
    Calls Try.prog 9 #[.slice A l.length c] w (RetTrue w) := by
  have HL := Lib.hid hl
  have h1 : ¬ (40 : Int) < (l.length : Int) := by omega
  clear hl
  go_enter Try.func9, Try.ntmps9
  go_wp2_with fail
  refine (awake7_any _).mono ?_
  rintro e w1 ⟨rfl, hb1⟩
  have HB1 := Lib.hid hb1
  replace HL := Lib.hid (HL.out.below hb1 (Nat.le_refl _))
  clear hb1
  go_wp2_with fail
  refine (grow_any l A c w1 HL.out hsm (by omega)).mono ?_
  rintro e w2 ⟨hb2, A1, n1, c1, A2, n2, c2, rfl, href⟩
  obtain ⟨T, hT⟩ : ∃ T, growT l (min (l.length / 2) 30) = T := ⟨_, rfl⟩
  have hadds := addsT_grow l (min (l.length / 2) 30)
  rw [hT] at href hadds
  have hn2 : n2 = (mrgsT T).length := by obtain ⟨_, _, e⟩ := own_slice href.mrg; injection e
  subst hn2
  have h256 := okT_256 hadds.1
  obtain ⟨g, cc, e, hcc, hbyt, hexp⟩ := ref_open href h256
  injection e with e1 e2 e3
  subst e1; subst e2; subst e3
  have HADDS := Lib.hid hadds
  have hba := (Below.refl w2.heap.size w2).alloc (Nat.le_refl _) (.cells #[.slice (some ⟨g, 0, none⟩) T.length c1, .slice A2 (mrgsT T).length c2] 28)
  have HN := Lib.hid (blk_new w2 (.cells #[.slice (some ⟨g, 0, none⟩) T.length c1, .slice A2 (mrgsT T).length c2] 28))
  have hsm2 := hadds.1.small
  have hm3 : (mrgsT T).length < 9000000000000000000 := by rw [mrgs_len]; omega
  have HM := Lib.hid ((own_sl (enc := encM) (fun _ => rfl) href.mrg (by decide)).below hba (Nat.le_refl _))
  have HBY := Lib.hid (hbyt.below hba (Nat.le_refl _))
  obtain ⟨o, ho⟩ : ∃ o, (if c1 = 256 then 0 else 256) = o := ⟨_, rfl⟩
  rw [ho] at hexp
  have HEX := Lib.hid (hexp.below hba (Nat.le_refl _))
  have hsl : ∀ V, (Instr.sliceAt 25 (.slice (some ⟨g, 0, none⟩) T.length c1) (some (.int .i64 256)) none none).run Try.prog V = .ok (.slice (some ⟨g, o, none⟩) (expT T).length (c1 - 256)) V := fun V => by rw [slice256 g T.length c1 V h256 hcc, ho, expT_len]
  have HSLI := Lib.hid hsl
  have hb12 := HB1.out.trans (hb2.mono HB1.out.size)
  have HB2 := Lib.hid (hb12.trans (hba.mono hb12.size))
  clear hT href hadds hbyt hexp hba hb12 hb2 ho hsl
  go_upto_region 4 with fail
  generalize w2.alloc (.cells #[.slice (some ⟨g, 0, none⟩) T.length c1, .slice A2 (mrgsT T).length c2] 28) = w3 at *
  generalize w2.heap.size = g3 at *
  have m1 := blk_cell HN.out 1
  simp only [List.getElem?_toArray, List.getElem?_cons_zero, List.getElem?_cons_succ] at m1
  go_wp2_with fail
  refine (new_ok HADDS.out.2 A2 c2 w3 HM.out hm3).mono ?_
  rintro e w4 ⟨tb, sv, mb, mp, rfl, hok, ht, hb⟩
  have HP : Hid (PlIs w w4 w3.heap.size T tb sv mb mp g c1 o A2 c2 g3) := Lib.hid ⟨ht, HBY.out.below hb (Nat.le_refl _), HEX.out.below hb (Nat.le_refl _), HM.out.below hb (Nat.le_refl _), blk_below hb (blk_lt HN.out) HN.out, HB2.out.trans (hb.mono HB2.out.size)⟩
  have HOK := Lib.hid hok
  clear hok ht hb m1 HBY HEX HM HN HB2
  have m0 := blk_cell HP.out.blk 0
  simp only [List.getElem?_toArray, List.getElem?_cons_zero, List.getElem?_cons_succ] at m0
  have hsl := HSLI.out w4
  have HEL := Lib.hid (expT_len T)
  have HRI := Lib.hid (rimport_any (expT T) (some ⟨g, o, none⟩) (c1 - 256) w4 HP.out.ex (by rw [expT_len]; omega) (fun s hs => by have := expT_short HOK.out s hs; omega))
  go_wp2_with fail
  refine HRI.out.mono ?_
  rintro e w5 ⟨hb, k, T', A5, n5, c5, A6, n6, c6, no, rfl, href, hok2, himp, hno⟩
  have hn6 : n6 = (mrgsT T').length := by obtain ⟨_, _, e⟩ := own_slice href.mrg; injection e
  subst hn6
  have hba := (Below.refl w5.heap.size w5).alloc (Nat.le_refl _) (.cells #[.slice A5 n5 c5, .slice A6 (mrgsT T').length c6] 28)
  have HN7 := Lib.hid (blk_new w5 (.cells #[.slice A5 n5 c5, .slice A6 (mrgsT T').length c6] 28))
  have HM6 := Lib.hid ((own_sl (enc := encM) (fun _ => rfl) href.mrg (by decide)).below hba (Nat.le_refl _))
  replace HP := Lib.hid ((HP.out.step hb).step hba)
  have hsm5 := hok2.small
  have HML := Lib.hid (show (mrgsT T').length < 1000000000000 by rw [mrgs_len]; omega)
  have HPL : Hid ((no = 0 → decide (mrgsT T' = mrgsT T) = plainT T) ∧ (no ≠ 0 → plainT T = false)) := Lib.hid (by
    rcases hno with ⟨rfl, rfl⟩ | ⟨hk, rfl, hne⟩
    · rw [List.take_length] at himp
      exact ⟨fun _ => by unfold plainT; rw [himp], fun h => absurd rfl h⟩
    · exact ⟨fun h => absurd h hne, fun _ => by unfold plainT; rw [impsT_bad hk himp hne]⟩)
  clear hno himp hok2 href hb hba HRI hsl m0 hsm5
  go_upto_region 8 with fail
  generalize w5.alloc (.cells #[.slice A5 n5 c5, .slice A6 (mrgsT T').length c6] 28) = w6 at *
  generalize w5.heap.size = g7 at *
  have m1 := blk_cell HP.out.blk 1
  have n1 := blk_cell HN7.out 1
  simp only [List.getElem?_toArray, List.getElem?_cons_zero, List.getElem?_cons_succ] at m1 n1
  obtain ⟨PB, hPB⟩ : ∃ B, plainT T = B := ⟨_, rfl⟩
  have HPB := Lib.hid hPB
  rw [hPB] at HPL
  clear hPB
  have hsl := HSLI.out
  by_cases hz : no = 0
  · subst hz
    have hpl := HPL.out.1 rfl
    go_wp2_with fail
    refine (merges_any (mrgsT T') (mrgsT T) A6 A2 c6 c2 w6 HM6.out HP.out.mrg HML.out).mono ?_
    rintro e w7 ⟨rfl, hb⟩
    rw [hpl]
    replace HP := Lib.hid (HP.out.step hb)
    clear hb m1 n1 HN7 HM6 hpl
    have m0 := blk_cell HP.out.blk 0
    simp only [List.getElem?_toArray, List.getElem?_cons_zero, List.getElem?_cons_succ] at m0
    have HSC : Hid (∀ V, Below w7.heap.size w7 V → V.cell? ⟨g3, 0, none⟩ = some (.slice (some ⟨g, 0, none⟩) T.length c1)) := Lib.hid (fun V hV => below_cell hV (Nat.le_refl _) m0)
    have HBB := Lib.hid (below_drew1 w7)
    clear m0
    go_upto_region 9 with fail
    refine wp_region_D (Ds := []) (S := fun V => V.cell? ⟨g3, 0, none⟩ = some (.slice (some ⟨g, 0, none⟩) T.length c1)) (by kernel_rfl) (by exact HSC.out _ HBB.out) (fun hHeld => ?_)
    refine wpAnyD_takeP (i := 0) (oi := { dst := some 49, op := Op.move (Operand.tmp 4), type := 24, pos := "law.go:87", after := #[], guard := none }) (d := 49) (v := ?_) rfl rfl (by kernel_rfl) (by kernel_rfl) (by kernel_rfl) (fun _ _ _ h => h) (Or.inl ⟨by rfl, ?_⟩) ?_
    rotate_left
    · (intro w' _; go_simp; (try with_reducible rfl))
    simp only [List.setIfInBounds_toArray, List.set_cons_zero, List.set_cons_succ]
    refine wpAnyD_takeP (i := 2) (oi := { dst := some 51, op := Op.move (Operand.tmp 10), type := 4, pos := "law.go:87", after := #[], guard := none }) (d := 51) (v := ?_) rfl rfl (by kernel_rfl) (by kernel_rfl) (by kernel_rfl) (fun _ _ _ h => h) (Or.inl ⟨by rfl, ?_⟩) ?_
    rotate_left
    · (intro w' _; go_simp; (try with_reducible rfl))
    simp only [List.setIfInBounds_toArray, List.set_cons_zero, List.set_cons_succ]
    refine wpAnyD_one (i := 1) (o := { dst := some 50, op := Op.call { callee := Callee.value (Operand.func 35), args := #[Operand.tmp 49], argTypes := #[24] }, type := 4, pos := "law.go:87", after := #[{ on := 0, ground := Ground.data }], guard := none }) (by kernel_rfl) rfl (by rfl) (fun K hK => ?_)
    go_simp; refine (plain_any (HP.out.tab.below HBB.out (Nat.le_refl _)) HOK.out).mono ?_; rintro e V1 ⟨rfl, hb⟩; rw [HPB.out]; replace HBB := Lib.hid (HBB.out.trans (hb.mono HBB.out.size)); have h := HSC.out _ HBB.out; clear hb; go_simp
    refine hK.out _ _ h (fun hHeld => ?_)
    clear hK K
    try simp only [Act.put, List.setIfInBounds_toArray, List.set_cons_zero, List.set_cons_succ]
    refine wpAnyD_takeP (i := 3) (oi := { dst := some 52, op := Op.binOp BinOp.neq 4 (Operand.tmp 50) (Operand.tmp 51) 4, type := 4, pos := "law.go:87", after := #[{ on := 1, ground := Ground.data }, { on := 2, ground := Ground.data }], guard := none }) (d := 52) (v := ?_) rfl rfl (by kernel_rfl) (by kernel_rfl) (by kernel_rfl) (fun _ _ _ h => h) (Or.inl ⟨by rfl, ?_⟩) ?_
    rotate_left
    · (intro w' _; go_simp; (try with_reducible rfl))
    simp only [List.setIfInBounds_toArray, List.set_cons_zero, List.set_cons_succ]
    refine wpAnyD_takeP (i := 4) (oi := { dst := some 53, op := Op.move (Operand.tmp 52), type := 4, pos := "law.go:87", after := #[{ on := 3, ground := Ground.data }, { on := 1, ground := Ground.chain }], guard := none }) (d := 53) (v := ?_) rfl rfl (by kernel_rfl) (by kernel_rfl) (by kernel_rfl) (fun _ _ _ h => h) (Or.inl ⟨by rfl, ?_⟩) ?_
    rotate_left
    · (intro w' _; go_simp; (try with_reducible rfl))
    simp only [List.setIfInBounds_toArray, List.set_cons_zero, List.set_cons_succ]
    refine wpAnyD_takeP (i := 5) (oi := { dst := some 54, op := Op.move (Operand.tmp 4), type := 24, pos := "law.go:87", after := #[{ on := 4, ground := Ground.guard }], guard := some (4, false) }) (d := 54) (v := ?_) rfl rfl (by kernel_rfl) (by kernel_rfl) (by kernel_rfl) (fun _ _ _ h => h) (Or.inl ⟨by rfl, ?_⟩) ?_
    rotate_left
    · (intro w' _; go_simp; (try with_reducible rfl))
    simp only [List.setIfInBounds_toArray, List.set_cons_zero, List.set_cons_succ]
    refine wpAnyD_takeP (i := 7) (oi := { dst := some 56, op := Op.fieldAddr 28 (Operand.tmp 3) 0, type := 0, pos := "law.go:87", after := #[{ on := 4, ground := Ground.guard }], guard := some (4, false) }) (d := 56) (v := ?_) rfl rfl (by kernel_rfl) (by kernel_rfl) (by kernel_rfl) (fun _ _ _ h => h) (Or.inl ⟨by rfl, ?_⟩) ?_
    rotate_left
    · (intro w' _; go_simp; (try with_reducible rfl))
    simp only [List.setIfInBounds_toArray, List.set_cons_zero, List.set_cons_succ]
    refine wpAnyD_takeD (i := 8) (oi := { dst := some 57, op := Op.load 25 (Operand.tmp 56), type := 25, pos := "law.go:87", after := #[{ on := 7, ground := Ground.data }, { on := 4, ground := Ground.guard }], guard := some (4, false) }) (d := 57) (v := ?_) rfl rfl (by kernel_rfl) (by kernel_rfl) (by kernel_rfl) (by kernel_rfl) (fun _ _ _ h => h) (Or.inl ⟨by rfl, ?_⟩) hHeld ?_
    rotate_left
    · (intro w' hSw; (try dsimp only at hSw); go_simp; (try with_reducible rfl))
    simp only [List.setIfInBounds_toArray, List.set_cons_zero, List.set_cons_succ]
    refine wpAnyD_takeD (i := 9) (oi := { dst := some 58, op := Op.slice 25 (Operand.tmp 57) (some (Operand.const (Value.int IntKind.i64 256))) none none, type := 25, pos := "law.go:87", after := #[{ on := 8, ground := Ground.data }, { on := 4, ground := Ground.guard }], guard := some (4, false) }) (d := 58) (v := ?_) rfl rfl (by kernel_rfl) (by kernel_rfl) (by kernel_rfl) (by kernel_rfl) (fun _ _ _ h => h) (Or.inl ⟨by rfl, ?_⟩) hHeld ?_
    rotate_left
    · (intro w' hSw; (try dsimp only at hSw); go_simp; (try with_reducible rfl))
    simp only [List.setIfInBounds_toArray, List.set_cons_zero, List.set_cons_succ]
    refine wpAnyD_one (i := 6) (o := { dst := some 55, op := Op.call { callee := Callee.value (Operand.func 33), args := #[Operand.tmp 54], argTypes := #[24] }, type := 25, pos := "law.go:87", after := #[{ on := 5, ground := Ground.data }, { on := 4, ground := Ground.chain }, { on := 4, ground := Ground.guard }], guard := some (4, false) }) (by kernel_rfl) rfl (by rfl) (fun K hK => ?_)
    go_simp; refine (export_any (HP.out.tab.below HBB.out (Nat.le_refl _)) HOK.out).mono ?_; rintro e V3 ⟨⟨v, rfl, hv⟩, hb⟩; obtain ⟨A4, c4, rfl, hs4⟩ := strs_sl hv; have HS4 := Lib.hid hs4; replace HBB := Lib.hid (HBB.out.trans (hb.mono HBB.out.size)); have h := HSC.out _ HBB.out; clear hv hb hs4; go_simp
    refine hK.out _ _ h (fun hHeld => ?_)
    clear hK K
    try simp only [Act.put, List.setIfInBounds_toArray, List.set_cons_zero, List.set_cons_succ]
    refine wpAnyD_one (i := 10) (o := { dst := some 59, op := Op.call { callee := Callee.value (Operand.func 32), args := #[Operand.tmp 55, Operand.tmp 58], argTypes := #[25, 25] }, type := 4, pos := "law.go:87", after := #[{ on := 6, ground := Ground.data }, { on := 9, ground := Ground.data }, { on := 6, ground := Ground.chain }, { on := 4, ground := Ground.guard }], guard := some (4, false) }) (by kernel_rfl) rfl (by rfl) (fun K hK => ?_)
    go_simp; refine (texts_same (expT T) A4 (some ⟨g, o, none⟩) c4 (c1 - 256) _ HS4.out (HP.out.ex.below HBB.out (Nat.le_refl _)) (by rw [expT_len]; omega)).mono ?_; rintro e V4 ⟨rfl, hb⟩; replace HBB := Lib.hid (HBB.out.trans (hb.mono HBB.out.size)); have h := HSC.out _ HBB.out; clear hb; go_simp
    refine hK.out _ _ h (fun hHeld => ?_)
    clear hK K
    try simp only [Act.put, List.setIfInBounds_toArray, List.set_cons_zero, List.set_cons_succ]
    refine wpAnyD_takeP (i := 11) (oi := { dst := some 60, op := Op.unOp UnOp.not 4 (Operand.tmp 59), type := 4, pos := "law.go:87", after := #[{ on := 10, ground := Ground.data }, { on := 4, ground := Ground.guard }], guard := some (4, false) }) (d := 60) (v := ?_) rfl rfl (by kernel_rfl) (by kernel_rfl) (by kernel_rfl) (fun _ _ _ h => h) (Or.inl ⟨by rfl, ?_⟩) ?_
    rotate_left
    · (intro w' _; go_simp; (try with_reducible rfl))
    simp only [List.setIfInBounds_toArray, List.set_cons_zero, List.set_cons_succ]
    refine wpAnyD_takeP (i := 12) (oi := { dst := some 61, op := Op.pick (Operand.tmp 53) (Operand.const (Value.bool true)) (Operand.tmp 60), type := 4, pos := "law.go:87", after := #[{ on := 4, ground := Ground.data }, { on := 11, ground := Ground.data }], guard := none }) (d := 61) (v := ?_) rfl rfl (by kernel_rfl) (by kernel_rfl) (by kernel_rfl) (fun _ _ _ h => h) (Or.inl ⟨by rfl, ?_⟩) ?_
    rotate_left
    · (intro w' _; go_simp; (try with_reducible rfl))
    simp only [List.setIfInBounds_toArray, List.set_cons_zero, List.set_cons_succ]
    refine wpAnyD_done (by kernel_rfl) ?_ _
    replace HP := Lib.hid (HP.out.step HBB.out)
    clear hHeld h HBB HSC hsl
    have HXS : Hid (∀ x ∈ bytsT T, x.length ≤ 64) := Lib.hid (byts_short HOK.out)
    cases PB with
    | false =>
      have m0 := blk_cell HP.out.blk 0
      simp only [List.getElem?_toArray, List.getElem?_cons_zero, List.getElem?_cons_succ] at m0
      go_wp2_with fail
      go_loopg [11] 0 (fun n i W => i = .int .i64 256 ∧ W = V4)
      case atStart => exact ⟨rfl, rfl⟩
      case round =>
        obtain ⟨rfl, rfl⟩ := hrel
        rename World => W
        by_cases hq : (256 : Int) < (T.length : Int)
        · go_wp2_with fail
          go_ret
          exact ⟨rfl, HP.out.bl⟩
        · go_wp2_with fail
          go_ret
          exact ⟨rfl, HP.out.bl⟩
    | true =>
      have HAL := Lib.hid (plain_each HADDS.out HPB.out)
      go_wp2_with fail
      go_loopg [11] (T.length - 256) (fun n i W => ∃ q, 256 ≤ q ∧ q + n = T.length ∧ i = .int .i64 ((q : Nat) : Int) ∧ PlIs w W w3.heap.size T tb sv mb mp g c1 o A2 c2 g3)
      case atStart => exact ⟨256, Nat.le_refl _, by omega, rfl, HP.out⟩
      case round =>
        obtain ⟨q, hq1, hq, rfl, hW⟩ := hrel
        clear HP
        rename World => W
        have HW := Lib.hid hW
        have HQ := Lib.hid hq
        have m0 := blk_cell hW.blk 0
        simp only [List.getElem?_toArray, List.getElem?_cons_zero, List.getElem?_cons_succ] at m0
        clear hW
        by_cases hlt : q < T.length
        · have p0 : (0 : Int) ≤ (q : Int) := by omega
          have p1 : (q : Int) < (T.length : Int) := by omega
          have wk : IntKind.i64.wrap ((q : Int) + 1) = (q : Int) + 1 := IntWalk.i64_in _ (by omega)
          obtain ⟨hx, hal⟩ := HAL.out q hq1 hlt
          obtain ⟨gb, ob, e, cb⟩ := HW.out.byt q _ hx
          injection e with e
          injection e with e1 e2
          subst e1; subst e2
          rw [Nat.zero_add] at cb
          generalize (expT T).getD (q - 256) [] = x at *
          have hxs : x.length ≤ 64 := HXS.out x (List.mem_of_getElem? hx)
          have HEN := Lib.hid (encode_any HW.out.tab HOK.out (bs x) (by rw [bs_size]; omega))
          have HDX : Hid ((bs x).data.toList = x) := Lib.hid rfl
          rw [HDX.out, hal] at HEN
          unfold strV at cb
          clear HDX hx hal hxs hq
          generalize bs x = Z at *
          go_wp2_with fail
          refine HEN.out.mono ?_
          rintro e W2 ⟨⟨v, rfl, hv⟩, hb⟩
          obtain ⟨A9, c9, rfl, hs9⟩ := ints_sl hv
          obtain ⟨b9, o9, rfl, d0⟩ := hs9 0 (q : Int) rfl
          rw [Nat.add_zero] at d0
          replace HW := Lib.hid (HW.out.step hb)
          have hl1 : ([(q : Int)] : List Int).length = 1 := rfl
          rw [hl1]
          clear hl1 hv hb hs9 HEN m0 cb
          go_wp2_with fail
          go_roundg (gk - 1)
          case measure => have := HQ.out; omega
          case rel => exact ⟨q + 1, by omega, by have := HQ.out; omega, by go_num, HW.out⟩
        · have p1 : ¬ (q : Int) < (T.length : Int) := by omega
          clear hq HQ
          go_wp2_with fail
          go_ret
          exact ⟨rfl, HW.out.bl⟩
  · have hpl := HPL.out.2 hz
    have hnz : (no == 0) = false := by simpa using hz
    subst hpl
    clear hz m1 n1 HN7 HM6
    have m0 := blk_cell HP.out.blk 0
    simp only [List.getElem?_toArray, List.getElem?_cons_zero, List.getElem?_cons_succ] at m0
    have HSC : Hid (∀ V, Below w6.heap.size w6 V → V.cell? ⟨g3, 0, none⟩ = some (.slice (some ⟨g, 0, none⟩) T.length c1)) := Lib.hid (fun V hV => below_cell hV (Nat.le_refl _) m0)
    have HBB := Lib.hid (below_drew1 w6)
    clear m0
    go_upto_region 9 with fail
    refine wp_region_D (Ds := []) (S := fun V => V.cell? ⟨g3, 0, none⟩ = some (.slice (some ⟨g, 0, none⟩) T.length c1)) (by kernel_rfl) (by exact HSC.out _ HBB.out) (fun hHeld => ?_)
    refine wpAnyD_takeP (i := 0) (oi := { dst := some 49, op := Op.move (Operand.tmp 4), type := 24, pos := "law.go:87", after := #[], guard := none }) (d := 49) (v := ?_) rfl rfl (by kernel_rfl) (by kernel_rfl) (by kernel_rfl) (fun _ _ _ h => h) (Or.inl ⟨by rfl, ?_⟩) ?_
    rotate_left
    · (intro w' _; go_simp; (try with_reducible rfl))
    simp only [List.setIfInBounds_toArray, List.set_cons_zero, List.set_cons_succ]
    refine wpAnyD_takeP (i := 2) (oi := { dst := some 51, op := Op.move (Operand.tmp 10), type := 4, pos := "law.go:87", after := #[], guard := none }) (d := 51) (v := ?_) rfl rfl (by kernel_rfl) (by kernel_rfl) (by kernel_rfl) (fun _ _ _ h => h) (Or.inl ⟨by rfl, ?_⟩) ?_
    rotate_left
    · (intro w' _; go_simp; (try with_reducible rfl))
    simp only [List.setIfInBounds_toArray, List.set_cons_zero, List.set_cons_succ]
    refine wpAnyD_one (i := 1) (o := { dst := some 50, op := Op.call { callee := Callee.value (Operand.func 35), args := #[Operand.tmp 49], argTypes := #[24] }, type := 4, pos := "law.go:87", after := #[{ on := 0, ground := Ground.data }], guard := none }) (by kernel_rfl) rfl (by rfl) (fun K hK => ?_)
    go_simp; refine (plain_any (HP.out.tab.below HBB.out (Nat.le_refl _)) HOK.out).mono ?_; rintro e V1 ⟨rfl, hb⟩; rw [HPB.out]; replace HBB := Lib.hid (HBB.out.trans (hb.mono HBB.out.size)); have h := HSC.out _ HBB.out; clear hb; go_simp
    refine hK.out _ _ h (fun hHeld => ?_)
    clear hK K
    try simp only [Act.put, List.setIfInBounds_toArray, List.set_cons_zero, List.set_cons_succ]
    refine wpAnyD_takeP (i := 3) (oi := { dst := some 52, op := Op.binOp BinOp.neq 4 (Operand.tmp 50) (Operand.tmp 51) 4, type := 4, pos := "law.go:87", after := #[{ on := 1, ground := Ground.data }, { on := 2, ground := Ground.data }], guard := none }) (d := 52) (v := ?_) rfl rfl (by kernel_rfl) (by kernel_rfl) (by kernel_rfl) (fun _ _ _ h => h) (Or.inl ⟨by rfl, ?_⟩) ?_
    rotate_left
    · (intro w' _; go_simp; (try with_reducible rfl))
    simp only [List.setIfInBounds_toArray, List.set_cons_zero, List.set_cons_succ]
    refine wpAnyD_takeP (i := 4) (oi := { dst := some 53, op := Op.move (Operand.tmp 52), type := 4, pos := "law.go:87", after := #[{ on := 3, ground := Ground.data }, { on := 1, ground := Ground.chain }], guard := none }) (d := 53) (v := ?_) rfl rfl (by kernel_rfl) (by kernel_rfl) (by kernel_rfl) (fun _ _ _ h => h) (Or.inl ⟨by rfl, ?_⟩) ?_
    rotate_left
    · (intro w' _; go_simp; (try with_reducible rfl))
    simp only [List.setIfInBounds_toArray, List.set_cons_zero, List.set_cons_succ]
    refine wpAnyD_takeP (i := 5) (oi := { dst := some 54, op := Op.move (Operand.tmp 4), type := 24, pos := "law.go:87", after := #[{ on := 4, ground := Ground.guard }], guard := some (4, false) }) (d := 54) (v := ?_) rfl rfl (by kernel_rfl) (by kernel_rfl) (by kernel_rfl) (fun _ _ _ h => h) (Or.inl ⟨by rfl, ?_⟩) ?_
    rotate_left
    · (intro w' _; go_simp; (try with_reducible rfl))
    simp only [List.setIfInBounds_toArray, List.set_cons_zero, List.set_cons_succ]
    refine wpAnyD_takeP (i := 7) (oi := { dst := some 56, op := Op.fieldAddr 28 (Operand.tmp 3) 0, type := 0, pos := "law.go:87", after := #[{ on := 4, ground := Ground.guard }], guard := some (4, false) }) (d := 56) (v := ?_) rfl rfl (by kernel_rfl) (by kernel_rfl) (by kernel_rfl) (fun _ _ _ h => h) (Or.inl ⟨by rfl, ?_⟩) ?_
    rotate_left
    · (intro w' _; go_simp; (try with_reducible rfl))
    simp only [List.setIfInBounds_toArray, List.set_cons_zero, List.set_cons_succ]
    refine wpAnyD_takeD (i := 8) (oi := { dst := some 57, op := Op.load 25 (Operand.tmp 56), type := 25, pos := "law.go:87", after := #[{ on := 7, ground := Ground.data }, { on := 4, ground := Ground.guard }], guard := some (4, false) }) (d := 57) (v := ?_) rfl rfl (by kernel_rfl) (by kernel_rfl) (by kernel_rfl) (by kernel_rfl) (fun _ _ _ h => h) (Or.inl ⟨by rfl, ?_⟩) hHeld ?_
    rotate_left
    · (intro w' hSw; (try dsimp only at hSw); go_simp; (try with_reducible rfl))
    simp only [List.setIfInBounds_toArray, List.set_cons_zero, List.set_cons_succ]
    refine wpAnyD_takeD (i := 9) (oi := { dst := some 58, op := Op.slice 25 (Operand.tmp 57) (some (Operand.const (Value.int IntKind.i64 256))) none none, type := 25, pos := "law.go:87", after := #[{ on := 8, ground := Ground.data }, { on := 4, ground := Ground.guard }], guard := some (4, false) }) (d := 58) (v := ?_) rfl rfl (by kernel_rfl) (by kernel_rfl) (by kernel_rfl) (by kernel_rfl) (fun _ _ _ h => h) (Or.inl ⟨by rfl, ?_⟩) hHeld ?_
    rotate_left
    · (intro w' hSw; (try dsimp only at hSw); go_simp; (try with_reducible rfl))
    simp only [List.setIfInBounds_toArray, List.set_cons_zero, List.set_cons_succ]
    refine wpAnyD_one (i := 6) (o := { dst := some 55, op := Op.call { callee := Callee.value (Operand.func 33), args := #[Operand.tmp 54], argTypes := #[24] }, type := 25, pos := "law.go:87", after := #[{ on := 5, ground := Ground.data }, { on := 4, ground := Ground.chain }, { on := 4, ground := Ground.guard }], guard := some (4, false) }) (by kernel_rfl) rfl (by rfl) (fun K hK => ?_)
    go_simp; refine (export_any (HP.out.tab.below HBB.out (Nat.le_refl _)) HOK.out).mono ?_; rintro e V3 ⟨⟨v, rfl, hv⟩, hb⟩; obtain ⟨A4, c4, rfl, hs4⟩ := strs_sl hv; have HS4 := Lib.hid hs4; replace HBB := Lib.hid (HBB.out.trans (hb.mono HBB.out.size)); have h := HSC.out _ HBB.out; clear hv hb hs4; go_simp
    refine hK.out _ _ h (fun hHeld => ?_)
    clear hK K
    try simp only [Act.put, List.setIfInBounds_toArray, List.set_cons_zero, List.set_cons_succ]
    refine wpAnyD_one (i := 10) (o := { dst := some 59, op := Op.call { callee := Callee.value (Operand.func 32), args := #[Operand.tmp 55, Operand.tmp 58], argTypes := #[25, 25] }, type := 4, pos := "law.go:87", after := #[{ on := 6, ground := Ground.data }, { on := 9, ground := Ground.data }, { on := 6, ground := Ground.chain }, { on := 4, ground := Ground.guard }], guard := some (4, false) }) (by kernel_rfl) rfl (by rfl) (fun K hK => ?_)
    go_simp; refine (texts_same (expT T) A4 (some ⟨g, o, none⟩) c4 (c1 - 256) _ HS4.out (HP.out.ex.below HBB.out (Nat.le_refl _)) (by rw [expT_len]; omega)).mono ?_; rintro e V4 ⟨rfl, hb⟩; replace HBB := Lib.hid (HBB.out.trans (hb.mono HBB.out.size)); have h := HSC.out _ HBB.out; clear hb; go_simp
    refine hK.out _ _ h (fun hHeld => ?_)
    clear hK K
    try simp only [Act.put, List.setIfInBounds_toArray, List.set_cons_zero, List.set_cons_succ]
    refine wpAnyD_takeP (i := 11) (oi := { dst := some 60, op := Op.unOp UnOp.not 4 (Operand.tmp 59), type := 4, pos := "law.go:87", after := #[{ on := 10, ground := Ground.data }, { on := 4, ground := Ground.guard }], guard := some (4, false) }) (d := 60) (v := ?_) rfl rfl (by kernel_rfl) (by kernel_rfl) (by kernel_rfl) (fun _ _ _ h => h) (Or.inl ⟨by rfl, ?_⟩) ?_
    rotate_left
    · (intro w' _; go_simp; (try with_reducible rfl))
    simp only [List.setIfInBounds_toArray, List.set_cons_zero, List.set_cons_succ]
    refine wpAnyD_takeP (i := 12) (oi := { dst := some 61, op := Op.pick (Operand.tmp 53) (Operand.const (Value.bool true)) (Operand.tmp 60), type := 4, pos := "law.go:87", after := #[{ on := 4, ground := Ground.data }, { on := 11, ground := Ground.data }], guard := none }) (d := 61) (v := ?_) rfl rfl (by kernel_rfl) (by kernel_rfl) (by kernel_rfl) (fun _ _ _ h => h) (Or.inl ⟨by rfl, ?_⟩) ?_
    rotate_left
    · (intro w' _; go_simp; (try with_reducible rfl))
    simp only [List.setIfInBounds_toArray, List.set_cons_zero, List.set_cons_succ]
    refine wpAnyD_done (by kernel_rfl) ?_ _
    replace HP := Lib.hid (HP.out.step HBB.out)
    clear hHeld h HBB HSC hsl
    have m0 := blk_cell HP.out.blk 0
    simp only [List.getElem?_toArray, List.getElem?_cons_zero, List.getElem?_cons_succ] at m0
    go_wp2_with fail
    go_loopg [11] 0 (fun n i W => i = .int .i64 256 ∧ W = V4)
    case atStart => exact ⟨rfl, rfl⟩
    case round =>
      obtain ⟨rfl, rfl⟩ := hrel
      rename World => W
      by_cases hq : (256 : Int) < (T.length : Int)
      · go_wp2_with fail
        go_ret
        exact ⟨rfl, HP.out.bl⟩
      · go_wp2_with fail
        go_ret
        exact ⟨rfl, HP.out.bl⟩
theorem gplain_law (xs : List Int) (A : Option Addr) (c : Nat) (w : World) (_ : xs.length ≤ c) (_ : c ≤ maxLen) (hw : ∀ y ∈ xs, (Lit.int .u16 y).wf = true) (hs : Sl1 w A (Value.int .u16) xs) :
    Calls Try.prog 9 #[.slice A xs.length c] w (RetTrue w) := by
  by_cases h : xs.length ≤ 40
  · obtain ⟨l, e, h1, h2⟩ := nats_of hw hs
    rw [← e]
    exact gplain_small l A c w h2 h1 (by omega)
  · have h1 : (40 : Int) < (xs.length : Int) := by omega
    go_enter Try.func9, Try.ntmps9
    go_wp2_with fail
    refine (awake7_any _).mono ?_
    rintro e w1 ⟨rfl, hb1⟩
    go_wp2_with fail
    go_ret
    exact ⟨rfl, hb1⟩
end Go.Proofs.Ytpkmcokkapfnmaa
/- GrowPlain returns true for every list of numbers, and its argument read afterwards is as before. -/
namespace Go.Proofs.Ytpkmcokkapfnmaa.growPlain
open Go.ChangeShapes Go.WideShapes Go.ChangeAt Go.RowKit Go.Joins
open Go.ChangeMaps (open_string shut_string)
set_option linter.unusedVariables false

theorem own : ownKnob Try.prog.godebug = none := by kernel_rfl
theorem laidOut : laidOutB Try.prog = true := by kernel_rfl

set_option maxRecDepth 100000 in
theorem lifted (os : Os) (started : os.Started) (H : Type) (enc : TypeId × Value → H) :
    ReturnsInHanded {} Try.checked os 9 .any (Rows.growPlainSpec.pre6 enc Try.prog Try.f9 Rows.growPlainRow.domain false) (Rows.growPlainSpec.post enc Try.prog Try.f9 false true false false) := by
  refine returnsInHanded_of_change (C := Try.checked) own started (by kernel_rfl) Try.func9
    (ChangeSpec.witness6 (enc := enc) (C := Try.checked) false ⟨#[], #[.slice none 0 0], []⟩ 8 (by kernel_rfl) (by kernel_rfl) (by kernel_rfl) (by kernel_rfl)) ?_
  intro W base args ds gs before hval0 hW hcnd _
  have hval : ∀ (j : Nat) t v, Try.f9.params[j]? = some t → args[j]? = some v → Value.okWide Try.prog W .any base t v := hval0
  have hW' := hW
  obtain ⟨p, q, hA0, hV, rfl, hfz, hnd⟩ := hW
  have hA : DataW.TrodAll enc Try.prog W 0 (fun _ => true) true Try.f9.params.toList args.toList ds p := hA0
  rw [Try.params9] at hA hval
  obtain ⟨v0, vs0, d0, ds0, p0, q0, hargs, rfl, rfl, h0, r0⟩ := trodAll_cons hA
  obtain ⟨rfl, rfl, rfl⟩ := trodAll_nil r0
  obtain rfl : args = #[v0] := by cases args; simp_all
  obtain ⟨rfl, rfl⟩ := trodVars_none hV
  obtain ⟨a0, n0, c0, rfl⟩ := okWide_slice Try.underlying22 (hval 0 22 v0 rfl rfl)
  have k0 := h0
  have lt0 : ∀ x ∈ p0, x.block < W.heap.size := by obtain ⟨m, hm⟩ := k0; exact DataW.trod_lt m _ _ _ hm
  obtain ⟨fuel0, hf0⟩ := h0
  obtain ⟨x0, rfl, l0, m0, w0, s0⟩ := arg_ints Try.underlying22 Try.underlying102 (by kernel_rfl) hf0
  clear hA0 hval0
  refine (gplain_law x0 a0 c0 W l0 m0 w0 s0).mono fun e W' ⟨he, bel⟩ => ?_
  subst he
  exact ⟨_, rfl, _, _, _, [], _, [], hW', trodAll_mk1 (shut_bool Try.underlying4 _), (trodAll_cons_mk (Below.trod laidOut (by kernel_rfl) (of_decide_eq_true (by kernel_rfl)) k0 bel lt0) trodAll_mk0), rfl, bel.frame _, fun h => by cases h⟩

theorem over : Rows.growPlainRow.holds Try.pinned (OpenSpec.ofChange Rows.growPlainSpec) :=
  OpenClaim.holds_of_wide 9 Try.f9 rfl rfl rfl rfl rfl rfl rfl ⟨rfl, rfl, rfl, rfl, rfl⟩ rfl rfl rfl rfl rfl (by kernel_rfl) Try.func9 (by kernel_rfl)
    (of_decide_eq_true (by kernel_rfl)) (by unfold Func.isWrapper; first | (rw [if_pos (by decide +kernel)]; kernel_rfl) | (rw [if_neg (by decide +kernel)]; exact ⟨rfl, rfl⟩))
    (fun os started H enc _ => lifted os started H enc)
end Go.Proofs.Ytpkmcokkapfnmaa.growPlain
namespace Go.Proofs.Ytpkmcokkapfnmaa
theorem growPlain_holds : Rows.GrowPlainSaid := growPlain.over
#print axioms growPlain_holds
end Go.Proofs.Ytpkmcokkapfnmaa
