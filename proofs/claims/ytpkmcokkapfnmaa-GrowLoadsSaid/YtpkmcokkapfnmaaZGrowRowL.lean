/- GrowLoads returns true for every spec, and its argument read afterwards is as before. -/
import Derived.Test.YtpkmcokkapfnmaaZ4
import Derived.Test.YtpkmcokkapfnmaaRows
import Derived.WalkKit
import Derived.ProofKit
import Derived.OpenShut
import Derived.ShutString
import Derived.ChangeOld
import Derived.Below
import Derived.Lib.SmallJoins
/- Layer 7 (grow): GrowImports. -/
namespace Go.Proofs.Ytpkmcokkapfnmaa
open Go.RowKit Go.Maps Go.WideMaps
set_option maxRecDepth 100000
set_option linter.unusedVariables false
set_option linter.unusedSimpArgs false

theorem imps_lt {l : List (List UInt8)} {k k' : Nat} {T T' : List Ent} (hk : k < l.length) (hk' : k' ≤ l.length) (h1 : impsT baseT (l.take k) = some T) (h2 : errT T l[k] ≠ 0) (h3 : impsT baseT (l.take k') = some T') : ¬ k < k' := by
  intro hlt
  have h4 : k < (l.take k').length := by rw [List.length_take]; omega
  have h5 : (l.take k').take k = l.take k := by rw [List.take_take]; congr 1; omega
  have := impsT_take (l.take k') baseT T' k h4 T h3 (by rw [h5]; exact h1)
  rw [List.getElem_take] at this
  exact h2 this
theorem imps_same {l : List (List UInt8)} {k k' : Nat} {T T' : List Ent} (hk : k < l.length) (hk' : k' < l.length) (h1 : impsT baseT (l.take k) = some T) (h2 : errT T l[k] ≠ 0) (h3 : impsT baseT (l.take k') = some T') (h4 : errT T' l[k'] ≠ 0) : k = k' := by
  have := imps_lt hk (Nat.le_of_lt hk') h1 h2 h3
  have := imps_lt hk' (Nat.le_of_lt hk) h3 h4 h1
  omega
theorem below_drew1 (w : World) : Below w.heap.size w w.drew := ⟨rfl, rfl, rfl, Nat.le_refl _, fun _ _ => rfl⟩
theorem merges_same (l : List (Int × Int)) (A B : Option Addr) (c d : Nat) (w : World) (hl : Sl w A encM 2 l) (hm : Sl w B encM 2 l) (hz : l.length < 1000000000000) :
    Calls Try.prog 28 #[.slice A l.length c, .slice B l.length d] w fun e w' => e = .returned (.bool true) ∧ Below w.heap.size w w' :=
  (merges_any l l A B c d w hl hm hz).mono fun e w' ⟨h, hb⟩ => ⟨by rw [h]; exact ret_bool (decide_eq_true rfl), hb⟩
theorem texts_same (l : List (List UInt8)) (A B : Option Addr) (c d : Nat) (w : World) (hl : Sl1 w A strV l) (hm : Sl1 w B strV l) (hz : l.length < 1000000000000) :
    Calls Try.prog 32 #[.slice A l.length c, .slice B l.length d] w fun e w' => e = .returned (.bool true) ∧ Below w.heap.size w w' :=
  (texts_any l l A B c d w hl hm hz).mono fun e w' ⟨h, hb⟩ => ⟨by rw [h]; exact ret_bool (decide_eq_true rfl), hb⟩
set_option maxHeartbeats 8000000 in
theorem gimp_small (l : List (List UInt8)) (A : Option Addr) (c : Nat) (w : World) (hl : Sl1 w A strV l) (hf : fewT l = true) :
    Calls Try.prog 8 #[.slice A l.length c] w (RetTrue w) := by
  obtain ⟨hs, hlen⟩ := (fewT_iff l).1 hf
  have HL := Lib.hid hl
  have HF := Lib.hid (few_any l A c w hl (by unfold maxLen; omega))
  rw [hf] at HF
  have HS := Lib.hid (fun s (h : s ∈ l) => Nat.le_trans (hs s h) (by decide : 100 ≤ 100000000))
  clear hl hf hs
  go_enter Try.func8, Try.ntmps8
  go_wp2_with fail
  refine HF.out.mono ?_
  rintro e w ⟨rfl, rfl⟩
  clear HF
  go_wp2_with fail
  refine (import_any l A c w HL.out (by omega) HS.out).mono ?_
  rintro e w1 ⟨hb, h1⟩
  have HB1 := Lib.hid hb
  have HRI := Lib.hid (rimport_any l A c w1 (HL.out.below hb (Nat.le_refl _)) (by omega) HS.out)
  clear hb
  rcases h1 with ⟨T, tb, sv, mb, mp, rfl, ha, hok, ht⟩ | ⟨k, hk, T', ha, hok, he, rfl⟩
  · have HA := Lib.hid ha
    have HOK := Lib.hid hok
    have HT := Lib.hid ht
    clear ha hok ht
    go_wp2_with fail
    refine HRI.out.mono ?_
    rintro e w2 ⟨hb, k, T', A1, n1, c1, A2, n2, c2, no, rfl, href, hok2, himp, hno⟩
    have hk : k = l.length ∧ no = 0 := by
      rcases hno with h | ⟨hk, rfl, hne⟩
      · exact h
      · have := impsT_bad hk himp hne
        rw [HA.out] at this
        cases this
    obtain ⟨rfl, rfl⟩ := hk
    have hTT : T' = T := by
      rw [List.take_length, HA.out] at himp
      exact (Option.some.inj himp).symm
    subst hTT
    have hn2 : n2 = (mrgsT T').length := by obtain ⟨_, _, e⟩ := own_slice href.mrg; injection e
    subst hn2
    have hba := (Below.refl w2.heap.size w2).alloc (Nat.le_refl _) (.cells #[.slice A1 n1 c1, .slice A2 (mrgsT T').length c2] 28)
    have HN := Lib.hid (blk_new w2 (.cells #[.slice A1 n1 c1, .slice A2 (mrgsT T').length c2] 28))
    have hb12 := HB1.out.trans (hb.mono HB1.out.size)
    have HB2 := Lib.hid (hb12.trans (hba.mono hb12.size))
    have HT2 := Lib.hid ((HT.out.below hb (Nat.le_refl _)).below hba (Nat.le_refl _))
    have HM := Lib.hid ((own_sl (enc := encM) (fun _ => rfl) href.mrg (by decide)).below hba (Nat.le_refl _))
    have hsm := hok2.small
    have HML := Lib.hid (show (mrgsT T').length < 1000000000000 by rw [mrgs_len]; omega)
    have HEX : Hid (expT T' = l) := Lib.hid (by have := impsT_exp l baseT T' okT_base HA.out; rwa [expT_base, List.nil_append] at this)
    clear hno himp hok2 href hb hba hb12 hsm HRI HT
    go_upto_region 5 with fail
    generalize w2.alloc (.cells #[.slice A1 n1 c1, .slice A2 (mrgsT T').length c2] 28) = w3 at *
    generalize w2.heap.size = g6 at *
    have m1 := blk_cell HN.out 1
    simp only [List.getElem?_toArray, List.getElem?_cons_zero, List.getElem?_cons_succ] at m1
    have HSC : Hid (∀ V, Below w3.heap.size w3 V → V.cell? ⟨g6, 1, none⟩ = some (.slice A2 (mrgsT T').length c2)) := Lib.hid (fun V hV => below_cell hV (Nat.le_refl _) m1)
    have HBB := Lib.hid (below_drew1 w3)
    have HLW : Hid (∀ V, Below w3.heap.size w3 V → Sl1 V A strV l) := Lib.hid (fun V hV => HL.out.below (HB2.out.trans (hV.mono HB2.out.size)) (Nat.le_refl _))
    clear m1
    go_upto_region 9 with fail
    refine wp_region_D (Ds := []) (S := fun V => V.cell? ⟨g6, 1, none⟩ = some (.slice A2 (mrgsT T').length c2)) (by kernel_rfl) (by exact HSC.out _ HBB.out) (fun hHeld => ?_)
    refine wpAnyD_takeP (i := 0) (oi := { dst := some 40, op := Op.move (Operand.tmp 3), type := 24, pos := "law.go:59", after := #[], guard := none }) (d := 40) (v := ?_) rfl rfl (by kernel_rfl) (by kernel_rfl) (by kernel_rfl) (fun _ _ _ h => h) (Or.inl ⟨by rfl, ?_⟩) ?_
    rotate_left
    · (intro w' _; go_simp; (try with_reducible rfl))
    simp only [List.setIfInBounds_toArray, List.set_cons_zero, List.set_cons_succ]
    refine wpAnyD_takeP (i := 2) (oi := { dst := some 42, op := Op.fieldAddr 28 (Operand.tmp 6) 1, type := 0, pos := "law.go:59", after := #[], guard := none }) (d := 42) (v := ?_) rfl rfl (by kernel_rfl) (by kernel_rfl) (by kernel_rfl) (fun _ _ _ h => h) (Or.inl ⟨by rfl, ?_⟩) ?_
    rotate_left
    · (intro w' _; go_simp; (try with_reducible rfl))
    simp only [List.setIfInBounds_toArray, List.set_cons_zero, List.set_cons_succ]
    refine wpAnyD_takeD (i := 3) (oi := { dst := some 43, op := Op.load 26 (Operand.tmp 42), type := 26, pos := "law.go:59", after := #[{ on := 2, ground := Ground.data }], guard := none }) (d := 43) (v := ?_) rfl rfl (by kernel_rfl) (by kernel_rfl) (by kernel_rfl) (by kernel_rfl) (fun _ _ _ h => h) (Or.inl ⟨by rfl, ?_⟩) hHeld ?_
    rotate_left
    · (intro w' hSw; (try dsimp only at hSw); go_simp; (try with_reducible rfl))
    simp only [List.setIfInBounds_toArray, List.set_cons_zero, List.set_cons_succ]
    refine wpAnyD_one (i := 1) (o := { dst := some 41, op := Op.call { callee := Callee.value (Operand.func 29), args := #[Operand.tmp 40], argTypes := #[24] }, type := 26, pos := "law.go:59", after := #[{ on := 0, ground := Ground.data }], guard := none }) (by kernel_rfl) rfl (by rfl) (fun K hK => ?_)
    go_simp; refine (merges_tab (HT2.out.below HBB.out (Nat.le_refl _)) HOK.out).mono ?_; rintro e V1 ⟨A3, c3, rfl, hr3, hb⟩; have HR3 := Lib.hid (own_sl (enc := encM) (fun _ => rfl) hr3 (by decide)); replace HBB := Lib.hid (HBB.out.trans (hb.mono HBB.out.size)); have h := HSC.out _ HBB.out; clear hr3 hb; go_simp
    refine hK.out _ _ h (fun hHeld => ?_)
    clear hK K
    try simp only [Act.put, List.setIfInBounds_toArray, List.set_cons_zero, List.set_cons_succ]
    refine wpAnyD_one (i := 4) (o := { dst := some 44, op := Op.call { callee := Callee.value (Operand.func 28), args := #[Operand.tmp 41, Operand.tmp 43], argTypes := #[26, 26] }, type := 4, pos := "law.go:59", after := #[{ on := 1, ground := Ground.data }, { on := 3, ground := Ground.data }, { on := 1, ground := Ground.chain }], guard := none }) (by kernel_rfl) rfl (by rfl) (fun K hK => ?_)
    go_simp; refine (merges_same (mrgsT T') A3 A2 c3 c2 _ HR3.out (HM.out.below HBB.out (Nat.le_refl _)) HML.out).mono ?_; rintro e V2 ⟨rfl, hb⟩; replace HBB := Lib.hid (HBB.out.trans (hb.mono HBB.out.size)); have h := HSC.out _ HBB.out; clear hb; go_simp
    refine hK.out _ _ h (fun hHeld => ?_)
    clear hK K
    try simp only [Act.put, List.setIfInBounds_toArray, List.set_cons_zero, List.set_cons_succ]
    refine wpAnyD_takeP (i := 5) (oi := { dst := some 45, op := Op.move (Operand.tmp 44), type := 4, pos := "law.go:59", after := #[{ on := 4, ground := Ground.data }, { on := 4, ground := Ground.chain }], guard := none }) (d := 45) (v := ?_) rfl rfl (by kernel_rfl) (by kernel_rfl) (by kernel_rfl) (fun _ _ _ h => h) (Or.inl ⟨by rfl, ?_⟩) ?_
    rotate_left
    · (intro w' _; go_simp; (try with_reducible rfl))
    simp only [List.setIfInBounds_toArray, List.set_cons_zero, List.set_cons_succ]
    refine wpAnyD_takeP (i := 6) (oi := { dst := some 46, op := Op.move (Operand.tmp 3), type := 24, pos := "law.go:59", after := #[{ on := 5, ground := Ground.guard }], guard := some (5, true) }) (d := 46) (v := ?_) rfl rfl (by kernel_rfl) (by kernel_rfl) (by kernel_rfl) (fun _ _ _ h => h) (Or.inl ⟨by rfl, ?_⟩) ?_
    rotate_left
    · (intro w' _; go_simp; (try with_reducible rfl))
    simp only [List.setIfInBounds_toArray, List.set_cons_zero, List.set_cons_succ]
    refine wpAnyD_takeP (i := 8) (oi := { dst := some 48, op := Op.move (Operand.tmp 0), type := 25, pos := "law.go:59", after := #[{ on := 5, ground := Ground.guard }], guard := some (5, true) }) (d := 48) (v := ?_) rfl rfl (by kernel_rfl) (by kernel_rfl) (by kernel_rfl) (fun _ _ _ h => h) (Or.inl ⟨by rfl, ?_⟩) ?_
    rotate_left
    · (intro w' _; go_simp; (try with_reducible rfl))
    simp only [List.setIfInBounds_toArray, List.set_cons_zero, List.set_cons_succ]
    refine wpAnyD_one (i := 7) (o := { dst := some 47, op := Op.call { callee := Callee.value (Operand.func 33), args := #[Operand.tmp 46], argTypes := #[24] }, type := 25, pos := "law.go:59", after := #[{ on := 6, ground := Ground.data }, { on := 5, ground := Ground.chain }, { on := 5, ground := Ground.guard }], guard := some (5, true) }) (by kernel_rfl) rfl (by rfl) (fun K hK => ?_)
    go_simp; refine (export_any (HT2.out.below HBB.out (Nat.le_refl _)) HOK.out).mono ?_; rintro e V3 ⟨⟨v, rfl, hv⟩, hb⟩; rw [HEX.out] at hv; obtain ⟨A4, c4, rfl, hs4⟩ := strs_sl hv; have HS4 := Lib.hid hs4; replace HBB := Lib.hid (HBB.out.trans (hb.mono HBB.out.size)); have h := HSC.out _ HBB.out; clear hv hb hs4; go_simp
    refine hK.out _ _ h (fun hHeld => ?_)
    clear hK K
    try simp only [Act.put, List.setIfInBounds_toArray, List.set_cons_zero, List.set_cons_succ]
    refine wpAnyD_one (i := 9) (o := { dst := some 49, op := Op.call { callee := Callee.value (Operand.func 32), args := #[Operand.tmp 47, Operand.tmp 48], argTypes := #[25, 25] }, type := 4, pos := "law.go:59", after := #[{ on := 7, ground := Ground.data }, { on := 8, ground := Ground.data }, { on := 7, ground := Ground.chain }, { on := 5, ground := Ground.guard }], guard := some (5, true) }) (by kernel_rfl) rfl (by rfl) (fun K hK => ?_)
    go_simp; refine (texts_same l A4 A c4 c _ HS4.out (HLW.out _ HBB.out) (by omega)).mono ?_; rintro e V4 ⟨rfl, hb⟩; replace HBB := Lib.hid (HBB.out.trans (hb.mono HBB.out.size)); have h := HSC.out _ HBB.out; clear hb; go_simp
    refine hK.out _ _ h (fun hHeld => ?_)
    clear hK K
    try simp only [Act.put, List.setIfInBounds_toArray, List.set_cons_zero, List.set_cons_succ]
    refine wpAnyD_takeP (i := 10) (oi := { dst := some 50, op := Op.pick (Operand.tmp 45) (Operand.tmp 49) (Operand.const (Value.bool false)), type := 4, pos := "law.go:59", after := #[{ on := 5, ground := Ground.data }, { on := 9, ground := Ground.data }], guard := none }) (d := 50) (v := ?_) rfl rfl (by kernel_rfl) (by kernel_rfl) (by kernel_rfl) (fun _ _ _ h => h) (Or.inl ⟨by rfl, ?_⟩) ?_
    rotate_left
    · (intro w' _; go_simp; (try with_reducible rfl))
    simp only [List.setIfInBounds_toArray, List.set_cons_zero, List.set_cons_succ]
    refine wpAnyD_takeP (i := 11) (oi := { dst := some 51, op := Op.move (Operand.tmp 50), type := 4, pos := "law.go:59", after := #[{ on := 10, ground := Ground.data }, { on := 9, ground := Ground.chain }], guard := none }) (d := 51) (v := ?_) rfl rfl (by kernel_rfl) (by kernel_rfl) (by kernel_rfl) (fun _ _ _ h => h) (Or.inl ⟨by rfl, ?_⟩) ?_
    rotate_left
    · (intro w' _; go_simp; (try with_reducible rfl))
    simp only [List.setIfInBounds_toArray, List.set_cons_zero, List.set_cons_succ]
    refine wpAnyD_one (i := 12) (o := { dst := some 52, op := Op.call { callee := Callee.value (Operand.func 25), args := #[], argTypes := #[] }, type := 4, pos := "law.go:59", after := #[{ on := 11, ground := Ground.chain }, { on := 11, ground := Ground.guard }], guard := some (11, true) }) (by kernel_rfl) rfl (by rfl) (fun K hK => ?_)
    go_simp; refine (awake7_any _).mono ?_; rintro e V5 ⟨rfl, hb⟩; replace HBB := Lib.hid (HBB.out.trans (hb.mono HBB.out.size)); have h := HSC.out _ HBB.out; clear hb; go_simp
    refine hK.out _ _ h (fun hHeld => ?_)
    clear hK K
    try simp only [Act.put, List.setIfInBounds_toArray, List.set_cons_zero, List.set_cons_succ]
    refine wpAnyD_takeP (i := 13) (oi := { dst := some 53, op := Op.pick (Operand.tmp 51) (Operand.tmp 52) (Operand.const (Value.bool false)), type := 4, pos := "law.go:59", after := #[{ on := 11, ground := Ground.data }, { on := 12, ground := Ground.data }], guard := none }) (d := 53) (v := ?_) rfl rfl (by kernel_rfl) (by kernel_rfl) (by kernel_rfl) (fun _ _ _ h => h) (Or.inl ⟨by rfl, ?_⟩) ?_
    rotate_left
    · (intro w' _; go_simp; (try with_reducible rfl))
    simp only [List.setIfInBounds_toArray, List.set_cons_zero, List.set_cons_succ]
    refine wpAnyD_takeP (i := 14) (oi := { dst := some 2, op := Op.assign (Operand.tmp 53), type := 4, pos := "law.go:59", after := #[{ on := 13, ground := Ground.data }, { on := 12, ground := Ground.chain }, { on := 0, ground := Ground.phase }, { on := 1, ground := Ground.phase }, { on := 2, ground := Ground.phase }, { on := 3, ground := Ground.phase }, { on := 4, ground := Ground.phase }, { on := 5, ground := Ground.phase }, { on := 6, ground := Ground.phase }, { on := 7, ground := Ground.phase }, { on := 8, ground := Ground.phase }, { on := 9, ground := Ground.phase }, { on := 10, ground := Ground.phase }, { on := 11, ground := Ground.phase }, { on := 12, ground := Ground.phase }, { on := 13, ground := Ground.phase }], guard := none }) (d := 2) (v := ?_) rfl rfl (by kernel_rfl) (by kernel_rfl) (by kernel_rfl) (fun _ _ _ h => h) (Or.inl ⟨by rfl, ?_⟩) ?_
    rotate_left
    · (intro w' _; go_simp; (try with_reducible rfl))
    simp only [List.setIfInBounds_toArray, List.set_cons_zero, List.set_cons_succ]
    refine wpAnyD_done (by kernel_rfl) ?_ _
    go_wp2_with fail
    go_ret
    exact ⟨rfl, HB2.out.trans (HBB.out.mono HB2.out.size)⟩
  · have HA := Lib.hid ha
    have HE := Lib.hid he
    obtain ⟨E, hE⟩ : ∃ E, errT T' l[k] = E := ⟨_, rfl⟩
    rw [hE] at he ⊢
    have HEE := Lib.hid hE
    clear hE ha hok
    go_wp2_with fail
    refine HRI.out.mono ?_
    rintro e w2 ⟨hb, k2, T2, A1, n1, c1, A2, n2, c2, no, rfl, href, hok2, himp, hno⟩
    have hk2 : k2 = k ∧ no = E := by
      rcases hno with ⟨rfl, rfl⟩ | ⟨hk2, rfl, hne⟩
      · rw [List.take_length, impsT_bad hk HA.out HE.out] at himp
        cases himp
      · have e1 := imps_same hk hk2 HA.out HE.out himp hne
        subst e1
        rw [HA.out] at himp
        have e2 := Option.some.inj himp
        subst e2
        exact ⟨rfl, HEE.out⟩
    obtain ⟨rfl, rfl⟩ := hk2
    have hba := (Below.refl w2.heap.size w2).alloc (Nat.le_refl _) (.cells #[.slice A1 n1 c1, .slice A2 n2 c2] 28)
    have hb12 := HB1.out.trans (hb.mono HB1.out.size)
    have HB2 := Lib.hid (hb12.trans (hba.mono hb12.size))
    have hne : (no != 0) = true := by simpa using he
    clear hno himp hok2 href hb hba hb12 HRI he HEE HE
    go_wp2_with fail
    refine (awake7_any _).mono ?_
    rintro e w4 ⟨rfl, hb⟩
    have HB4 := Lib.hid (HB2.out.trans (hb.mono HB2.out.size))
    clear hb
    go_wp2_with fail
    go_ret
    exact ⟨rfl, HB4.out⟩
theorem gimp_law (l : List (List UInt8)) (A : Option Addr) (c : Nat) (w : World) (_ : l.length ≤ c) (hc : c ≤ maxLen) (hw : ∀ y ∈ l, y.length ≤ maxLen) (hs : Sl1 w A strV l) :
    Calls Try.prog 8 #[.slice A l.length c] w (RetTrue w) := by
  cases hf : fewT l with
  | true => exact gimp_small l A c w hs hf
  | false =>
    have HF := Lib.hid (few_any l A c w hs (by omega))
    rw [hf] at HF
    clear hf hs
    go_enter Try.func8, Try.ntmps8
    go_wp2_with fail
    refine HF.out.mono ?_
    rintro e w ⟨rfl, rfl⟩
    go_wp2_with fail
    refine (awake7_any _).mono ?_
    rintro e w1 ⟨rfl, hb1⟩
    go_wp2_with fail
    go_ret
    exact ⟨rfl, hb1⟩
end Go.Proofs.Ytpkmcokkapfnmaa
/- Layer 7 (grow): a spec: Great, Load, the document's Load. -/
namespace Go.Proofs.Ytpkmcokkapfnmaa
open Go.RowKit Go.Maps Go.WideMaps
set_option maxRecDepth 100000
set_option linter.unusedVariables false
set_option linter.unusedSimpArgs false

/-- a spec as a value -/
def specV (rk : Bool) (AM : Option Addr) (nM cM : Nat) (AT : Option Addr) (nT cT : Nat) (AX : Option Addr) (nX cX : Nat) (AC : Option Addr) (nC cC : Nat) (AJ : Option Addr) (nJ cJ : Nat) : Value :=
  .agg #[.bool rk, .slice AM nM cM, .slice AT nT cT, .slice AX nX cX, .slice AC nC cC, .slice AJ nJ cJ]
def specO (rk : Bool) (AM : Option Addr) (nM cM : Nat) (AT : Option Addr) (nT cT : Nat) (AX : Option Addr) (nX cX : Nat) (AC : Option Addr) (nC cC : Nat) (AJ : Option Addr) (nJ cJ : Nat) : Obj :=
  .cells #[.bool rk, .slice AM nM cM, .slice AT nT cT, .slice AX nX cX, .slice AC nC cC, .slice AJ nJ cJ] 53
def BoolBelow (w : World) (e : Ending) (w' : World) : Prop := ∃ B : Bool, e = .returned (.bool B) ∧ Below w.heap.size w w'
section
variable {w : World} {rk : Bool} {AM : Option Addr} {nM cM : Nat} {AT : Option Addr} {nT cT : Nat} {AX : Option Addr} {nX cX : Nat} {AC : Option Addr} {nC cC : Nat} {AJ : Option Addr} {nJ cJ : Nat}
theorem load_true {R : Value → Value → Value → World → Prop} (hR : rk = true) (h : ∀ W, Below w.heap.size w W → Calls Try.prog 30 #[.slice AT nT cT] W fun e w' => ∃ x y z, e = .returned (.tuple #[x, y, z]) ∧ R x y z w') :
    Calls Try.prog 26 #[specV rk AM nM cM AT nT cT AX nX cX AC nC cC AJ nJ cJ] w fun e w' => ∃ x y z, e = .returned (.tuple #[x, y, z]) ∧ R x y z w' := by
  subst hR
  have HI := Lib.hid (h _ ((Below.refl w.heap.size w).alloc (Nat.le_refl _) (.cells #[.bool true, .slice AM nM cM, .slice AT nT cT, .slice AX nX cX, .slice AC nC cC, .slice AJ nJ cJ] 53)))
  clear h
  unfold specV
  go_enter Try.func26, Try.ntmps26
  go_wp2_with fail
  refine HI.out.mono ?_
  rintro e w1 ⟨x, y, z, rfl, hr⟩
  have HRR := Lib.hid hr
  clear hr
  go_wp2_with fail
  exact bodyPost_ret (results_tmp3 rfl _ _ _) rfl ⟨x, y, z, rfl, HRR.out⟩
theorem load_false {R : Value → Value → Value → World → Prop} (hR : rk = false) (h : ∀ W, Below w.heap.size w W → Calls Try.prog 22 #[.slice AM nM cM] W fun e w' => ∃ x y z, e = .returned (.tuple #[x, y, z]) ∧ R x y z w') :
    Calls Try.prog 26 #[specV rk AM nM cM AT nT cT AX nX cX AC nC cC AJ nJ cJ] w fun e w' => ∃ x y z, e = .returned (.tuple #[x, y, z]) ∧ R x y z w' := by
  subst hR
  have HI := Lib.hid (h _ ((Below.refl w.heap.size w).alloc (Nat.le_refl _) (.cells #[.bool false, .slice AM nM cM, .slice AT nT cT, .slice AX nX cX, .slice AC nC cC, .slice AJ nJ cJ] 53)))
  clear h
  unfold specV
  go_enter Try.func26, Try.ntmps26
  go_wp2_with fail
  refine HI.out.mono ?_
  rintro e w1 ⟨x, y, z, rfl, hr⟩
  have HRR := Lib.hid hr
  clear hr
  go_wp2_with fail
  exact bodyPost_ret (results_tmp3 rfl _ _ _) rfl ⟨x, y, z, rfl, HRR.out⟩
/-- what the document's answer gives -/
def RTab (F : Nat → List Ent → Int → Prop) (w : World) (e : Ending) (w' : World) : Prop :=
  Below w.heap.size w w' ∧ ∃ (k : Nat) (T : List Ent) (A1 : Option Addr) (n1 c1 : Nat) (A2 : Option Addr) (n2 c2 : Nat) (no : Int), e = .returned (.tuple #[.agg #[.slice A1 n1 c1, .slice A2 n2 c2], .int .i64 (k : Nat), .int .i64 no]) ∧
    RefIs w' w.heap.size T (.slice A1 n1 c1) (.slice A2 n2 c2) ∧ F k T no
set_option maxHeartbeats 1000000 in
theorem rload_true {F : Nat → List Ent → Int → Prop} (hR : rk = true) (h : ∀ W, Below w.heap.size w W → Calls Try.prog 31 #[.slice AT nT cT] W (RTab F W)) :
    Calls Try.prog 27 #[specV rk AM nM cM AT nT cT AX nX cX AC nC cC AJ nJ cJ] w (RTab F w) := by
  subst hR
  have hb1 := (Below.refl w.heap.size w).alloc (Nat.le_refl _) (.cells #[.bool true, .slice AM nM cM, .slice AT nT cT, .slice AX nX cX, .slice AC nC cC, .slice AJ nJ cJ] 53)
  have hb2 := hb1.alloc (by simp) (.cells #[.slice none 0 0, .slice none 0 0] 28)
  have HN := Lib.hid (blk_new (w.alloc (.cells #[.bool true, .slice AM nM cM, .slice AT nT cT, .slice AX nX cX, .slice AC nC cC, .slice AJ nJ cJ] 53)) (.cells #[.slice none 0 0, .slice none 0 0] 28))
  have bn := blk_alloc (blk_new w (.cells #[.bool true, .slice AM nM cM, .slice AT nT cT, .slice AX nX cX, .slice AC nC cC, .slice AJ nJ cJ] 53)) (.cells #[.slice none 0 0, .slice none 0 0] 28)
  have n0 := blk_cell bn 0
  have n1 := blk_cell bn 1
  have n2 := blk_cell bn 2
  simp only [List.getElem?_toArray, List.getElem?_cons_zero, List.getElem?_cons_succ] at n0 n1 n2
  have HI := Lib.hid (h _ hb2)
  have HB := Lib.hid hb2
  have HSZ : Hid (((w.alloc (.cells #[.bool true, .slice AM nM cM, .slice AT nT cT, .slice AX nX cX, .slice AC nC cC, .slice AJ nJ cJ] 53)).alloc (.cells #[.slice none 0 0, .slice none 0 0] 28)).heap.size = w.heap.size + 2) := Lib.hid (by simp)
  rw [size_alloc] at HN
  clear h hb1 hb2 bn
  unfold specV
  go_enter Try.func27, Try.ntmps27
  go_upto_region 1 with fail
  generalize (w.alloc (.cells #[.bool true, .slice AM nM cM, .slice AT nT cT, .slice AX nX cX, .slice AC nC cC, .slice AJ nJ cJ] 53)).alloc (.cells #[.slice none 0 0, .slice none 0 0] 28) = W1 at *
  go_wp2_with fail
  refine HI.out.mono ?_
  rintro e w2 ⟨hb, k, T, A1, n1', c1, A2, n2', c2, no, rfl, href, hF⟩
  have hn := blk_below hb (by rw [HSZ.out]; omega) HN.out
  have d0 := blk_cell hn 0
  have d1 := blk_cell hn 1
  have z0 := blk_froz hn 0
  have z1 := blk_froz hn 1
  simp only [List.getElem?_toArray, List.getElem?_cons_zero, List.getElem?_cons_succ] at d0 d1
  have KF : Keep (fun x => x = w.heap.size + 1) w2 ((w2.setCell ⟨w.heap.size + 1, 0, none⟩ (.slice A1 n1' c1)).setCell ⟨w.heap.size + 1, 1, none⟩ (.slice A2 n2' c2)) := ((Keep.refl (fun x => x = w.heap.size + 1) w2).setCell (p := ⟨w.heap.size + 1, 0, none⟩) (.inl rfl) _).setCell (p := ⟨w.heap.size + 1, 1, none⟩) (.inl rfl) _
  have hb3 := HB.out.trans (hb.mono HB.out.size)
  have hn5 := blk_set (blk_set hn 0 (.slice A1 n1' c1)) 1 (.slice A2 n2' c2)
  simp only [List.setIfInBounds_toArray, List.set_cons_zero, List.set_cons_succ] at hn5
  have HN5 := Lib.hid hn5
  have HR5 := Lib.hid ((href.keep KF (fun g hg => by rw [HSZ.out]; omega)).less (Nat.le_trans (Nat.le_add_right _ 2) (Nat.le_of_eq HSZ.out.symm)))
  have HB5 := Lib.hid (hb3.trans (KF.below (B := w.heap.size) hb3.size (fun x hx => by omega)))
  have HF := Lib.hid hF
  clear hb hn KF hb3 hn5 href hF n0 n1 n2
  go_wp2_with fail
  refine ret_ref2 (r := w.heap.size + 1) rfl rfl rfl rfl HN5.out ⟨HB5.out, k, T, A1, n1', c1, A2, n2', c2, no, rfl, HR5.out, HF.out⟩
set_option maxHeartbeats 1000000 in
theorem rload_false {F : Nat → List Ent → Int → Prop} (hR : rk = false) (h : ∀ W, Below w.heap.size w W → Calls Try.prog 45 #[.slice AM nM cM] W (RTab F W)) :
    Calls Try.prog 27 #[specV rk AM nM cM AT nT cT AX nX cX AC nC cC AJ nJ cJ] w (RTab F w) := by
  subst hR
  have hb1 := (Below.refl w.heap.size w).alloc (Nat.le_refl _) (.cells #[.bool false, .slice AM nM cM, .slice AT nT cT, .slice AX nX cX, .slice AC nC cC, .slice AJ nJ cJ] 53)
  have hb2 := hb1.alloc (by simp) (.cells #[.slice none 0 0, .slice none 0 0] 28)
  have HN := Lib.hid (blk_new (w.alloc (.cells #[.bool false, .slice AM nM cM, .slice AT nT cT, .slice AX nX cX, .slice AC nC cC, .slice AJ nJ cJ] 53)) (.cells #[.slice none 0 0, .slice none 0 0] 28))
  have bn := blk_alloc (blk_new w (.cells #[.bool false, .slice AM nM cM, .slice AT nT cT, .slice AX nX cX, .slice AC nC cC, .slice AJ nJ cJ] 53)) (.cells #[.slice none 0 0, .slice none 0 0] 28)
  have n0 := blk_cell bn 0
  have n1 := blk_cell bn 1
  have n2 := blk_cell bn 2
  simp only [List.getElem?_toArray, List.getElem?_cons_zero, List.getElem?_cons_succ] at n0 n1 n2
  have HI := Lib.hid (h _ hb2)
  have HB := Lib.hid hb2
  have HSZ : Hid (((w.alloc (.cells #[.bool false, .slice AM nM cM, .slice AT nT cT, .slice AX nX cX, .slice AC nC cC, .slice AJ nJ cJ] 53)).alloc (.cells #[.slice none 0 0, .slice none 0 0] 28)).heap.size = w.heap.size + 2) := Lib.hid (by simp)
  rw [size_alloc] at HN
  clear h hb1 hb2 bn
  unfold specV
  go_enter Try.func27, Try.ntmps27
  go_upto_region 1 with fail
  generalize (w.alloc (.cells #[.bool false, .slice AM nM cM, .slice AT nT cT, .slice AX nX cX, .slice AC nC cC, .slice AJ nJ cJ] 53)).alloc (.cells #[.slice none 0 0, .slice none 0 0] 28) = W1 at *
  go_wp2_with fail
  refine HI.out.mono ?_
  rintro e w2 ⟨hb, k, T, A1, n1', c1, A2, n2', c2, no, rfl, href, hF⟩
  have hn := blk_below hb (by rw [HSZ.out]; omega) HN.out
  have d0 := blk_cell hn 0
  have d1 := blk_cell hn 1
  have z0 := blk_froz hn 0
  have z1 := blk_froz hn 1
  simp only [List.getElem?_toArray, List.getElem?_cons_zero, List.getElem?_cons_succ] at d0 d1
  have KF : Keep (fun x => x = w.heap.size + 1) w2 ((w2.setCell ⟨w.heap.size + 1, 0, none⟩ (.slice A1 n1' c1)).setCell ⟨w.heap.size + 1, 1, none⟩ (.slice A2 n2' c2)) := ((Keep.refl (fun x => x = w.heap.size + 1) w2).setCell (p := ⟨w.heap.size + 1, 0, none⟩) (.inl rfl) _).setCell (p := ⟨w.heap.size + 1, 1, none⟩) (.inl rfl) _
  have hb3 := HB.out.trans (hb.mono HB.out.size)
  have hn5 := blk_set (blk_set hn 0 (.slice A1 n1' c1)) 1 (.slice A2 n2' c2)
  simp only [List.setIfInBounds_toArray, List.set_cons_zero, List.set_cons_succ] at hn5
  have HN5 := Lib.hid hn5
  have HR5 := Lib.hid ((href.keep KF (fun g hg => by rw [HSZ.out]; omega)).less (Nat.le_trans (Nat.le_add_right _ 2) (Nat.le_of_eq HSZ.out.symm)))
  have HB5 := Lib.hid (hb3.trans (KF.below (B := w.heap.size) hb3.size (fun x hx => by omega)))
  have HF := Lib.hid hF
  clear hb hn KF hb3 hn5 href hF n0 n1 n2
  go_wp2_with fail
  refine ret_ref2 (r := w.heap.size + 1) rfl rfl rfl rfl HN5.out ⟨HB5.out, k, T, A1, n1', c1, A2, n2', c2, no, rfl, HR5.out, HF.out⟩
end
end Go.Proofs.Ytpkmcokkapfnmaa
/- Layer 7 (grow): Great. -/
namespace Go.Proofs.Ytpkmcokkapfnmaa
open Go.RowKit Go.Maps Go.WideMaps
set_option maxRecDepth 100000
set_option linter.unusedVariables false
set_option linter.unusedSimpArgs false

def encX (x : Int × List UInt8) : List Value := [.int .i64 x.1, strV x.2]
section
variable {w : World} {rk : Bool} {AM : Option Addr} {nM cM : Nat} {AT : Option Addr} {nT cT : Nat} {AX : Option Addr} {nX cX : Nat} {AC : Option Addr} {nC cC : Nat} {AJ : Option Addr} {nJ cJ : Nat}
set_option maxHeartbeats 8000000 in
theorem great_any (toks : List (List UInt8)) (sp : List (Int × List UInt8)) (hT : Sl1 w AT strV toks) (hTl : toks.length = nT) (hX : Sl w AX encX 2 sp) (hXl : sp.length = nX) :
    Calls Try.prog 23 #[specV rk AM nM cM AT nT cT AX nX cX AC nC cC AJ nJ cJ] w (BoolBelow w) := by
  have hb1 := (Below.refl w.heap.size w).alloc (Nat.le_refl _) (.cells #[.bool rk, .slice AM nM cM, .slice AT nT cT, .slice AX nX cX, .slice AC nC cC, .slice AJ nJ cJ] 53)
  have bn := blk_new w (.cells #[.bool rk, .slice AM nM cM, .slice AT nT cT, .slice AX nX cX, .slice AC nC cC, .slice AJ nJ cJ] 53)
  have n1 := blk_cell bn 1
  have n2 := blk_cell bn 2
  have n3 := blk_cell bn 3
  have n4 := blk_cell bn 4
  have n5 := blk_cell bn 5
  simp only [List.getElem?_toArray, List.getElem?_cons_zero, List.getElem?_cons_succ] at n1 n2 n3 n4 n5
  have HB := Lib.hid hb1
  have HTK := Lib.hid (hT.below hb1 (Nat.le_refl _))
  have HXS := Lib.hid (hX.below hb1 (Nat.le_refl _))
  have HTL := Lib.hid hTl
  have HXL := Lib.hid hXl
  clear hT hX hTl hXl hb1 bn
  unfold specV
  go_enter Try.func23, Try.ntmps23
  go_upto_region 1 with fail
  generalize w.alloc (.cells #[.bool rk, .slice AM nM cM, .slice AT nT cT, .slice AX nX cX, .slice AC nC cC, .slice AJ nJ cJ] 53) = W0 at *
  by_cases ha : (60 : Int) < (nM : Int)
  · by_cases hb : nM = 745
    · have hn : ((nM : Int) != 745) = false := by simp; omega
      clear hb
      by_cases ht : (60 : Int) < (nT : Int)
      · go_wp2_with fail
        go_ret
        exact ⟨true, rfl, HB.out⟩
      · by_cases hx : (40 : Int) < (nX : Int)
        · go_wp2_with fail
          go_ret
          exact ⟨true, rfl, HB.out⟩
        · by_cases hc : (70 : Int) < (nC : Int)
          · go_wp2_with fail
            go_ret
            exact ⟨true, rfl, HB.out⟩
          · by_cases hj : (70 : Int) < (nJ : Int)
            · go_wp2_with fail
              go_ret
              exact ⟨true, rfl, HB.out⟩
            · have bT : nT ≤ 60 := by omega
              have bX : nX ≤ 40 := by omega
              go_wp2_with fail
              go_loopg [3] nT (fun n i W => ∃ k, k + n = nT ∧ i = .int .i64 ((k : Nat) : Int) ∧ W = W0)
              case atStart => exact ⟨0, by omega, rfl, rfl⟩
              case round =>
                obtain ⟨k, hk, rfl, rfl⟩ := hrel
                rename World => W0
                have HK := Lib.hid hk
                by_cases hlt : k < nT
                · have p0 : (0 : Int) ≤ (k : Int) := by omega
                  have p1 : (k : Int) < (nT : Int) := by omega
                  have wk : IntKind.i64.wrap ((k : Int) + 1) = (k : Int) + 1 := IntWalk.i64_in _ (by omega)
                  obtain ⟨b1, o1, hA, c1⟩ := HTK.out.at k (by rw [HTL.out]; exact hlt)
                  subst hA
                  unfold strV at c1
                  generalize bs (toks[k]'(by rw [HTL.out]; exact hlt)) = Z at *
                  clear hk
                  by_cases hx : (100 : Int) < (Z.size : Int)
                  · go_wp2_with fail
                    go_ret
                    exact ⟨true, rfl, HB.out⟩
                  · go_wp2_with fail
                    go_roundg (gk - 1)
                    case measure => have := HK.out; omega
                    case rel => exact ⟨k + 1, by have := HK.out; omega, by go_num, rfl⟩
                · have p1 : ¬ (k : Int) < (nT : Int) := by omega
                  clear hk HK
                  go_wp2_with fail
                  go_loopg [4] nX (fun n i W => ∃ k, k + n = nX ∧ i = .int .i64 ((k : Nat) : Int) ∧ W = W0)
                  case atStart => exact ⟨0, by omega, rfl, rfl⟩
                  case round =>
                    obtain ⟨k, hk, rfl, rfl⟩ := hrel
                    rename World => W0
                    have HK := Lib.hid hk
                    by_cases hlt : k < nX
                    · have p0 : (0 : Int) ≤ (k : Int) := by omega
                      have p1 : (k : Int) < (nX : Int) := by omega
                      have wk : IntKind.i64.wrap ((k : Int) + 1) = (k : Int) + 1 := IntWalk.i64_in _ (by omega)
                      obtain ⟨b1, o1, hA, c1⟩ := HXS.out.at k (by rw [HXL.out]; exact hlt)
                      subst hA
                      have c11 := c1 1 _ rfl
                      unfold strV at c11
                      generalize bs (sp[k]'(by rw [HXL.out]; exact hlt)).2 = Z at *
                      clear hk c1
                      by_cases hx : (100 : Int) < (Z.size : Int)
                      · go_wp2_with fail
                        go_ret
                        exact ⟨true, rfl, HB.out⟩
                      · go_wp2_with fail
                        go_roundg (gk - 1)
                        case measure => have := HK.out; omega
                        case rel => exact ⟨k + 1, by have := HK.out; omega, by go_num, rfl⟩
                    · have p1 : ¬ (k : Int) < (nX : Int) := by omega
                      clear hk HK
                      go_wp2_with fail
                      go_ret
                      exact ⟨false, rfl, HB.out⟩
    · have hn : ((nM : Int) != 745) = true := by simp; omega
      clear hb
      go_wp2_with fail
      go_ret
      exact ⟨true, rfl, HB.out⟩
  · by_cases ht : (60 : Int) < (nT : Int)
    · go_wp2_with fail
      go_ret
      exact ⟨true, rfl, HB.out⟩
    · by_cases hx : (40 : Int) < (nX : Int)
      · go_wp2_with fail
        go_ret
        exact ⟨true, rfl, HB.out⟩
      · by_cases hc : (70 : Int) < (nC : Int)
        · go_wp2_with fail
          go_ret
          exact ⟨true, rfl, HB.out⟩
        · by_cases hj : (70 : Int) < (nJ : Int)
          · go_wp2_with fail
            go_ret
            exact ⟨true, rfl, HB.out⟩
          · have bT : nT ≤ 60 := by omega
            have bX : nX ≤ 40 := by omega
            go_wp2_with fail
            go_loopg [3] nT (fun n i W => ∃ k, k + n = nT ∧ i = .int .i64 ((k : Nat) : Int) ∧ W = W0)
            case atStart => exact ⟨0, by omega, rfl, rfl⟩
            case round =>
              obtain ⟨k, hk, rfl, rfl⟩ := hrel
              rename World => W0
              have HK := Lib.hid hk
              by_cases hlt : k < nT
              · have p0 : (0 : Int) ≤ (k : Int) := by omega
                have p1 : (k : Int) < (nT : Int) := by omega
                have wk : IntKind.i64.wrap ((k : Int) + 1) = (k : Int) + 1 := IntWalk.i64_in _ (by omega)
                obtain ⟨b1, o1, hA, c1⟩ := HTK.out.at k (by rw [HTL.out]; exact hlt)
                subst hA
                unfold strV at c1
                generalize bs (toks[k]'(by rw [HTL.out]; exact hlt)) = Z at *
                clear hk
                by_cases hx : (100 : Int) < (Z.size : Int)
                · go_wp2_with fail
                  go_ret
                  exact ⟨true, rfl, HB.out⟩
                · go_wp2_with fail
                  go_roundg (gk - 1)
                  case measure => have := HK.out; omega
                  case rel => exact ⟨k + 1, by have := HK.out; omega, by go_num, rfl⟩
              · have p1 : ¬ (k : Int) < (nT : Int) := by omega
                clear hk HK
                go_wp2_with fail
                go_loopg [4] nX (fun n i W => ∃ k, k + n = nX ∧ i = .int .i64 ((k : Nat) : Int) ∧ W = W0)
                case atStart => exact ⟨0, by omega, rfl, rfl⟩
                case round =>
                  obtain ⟨k, hk, rfl, rfl⟩ := hrel
                  rename World => W0
                  have HK := Lib.hid hk
                  by_cases hlt : k < nX
                  · have p0 : (0 : Int) ≤ (k : Int) := by omega
                    have p1 : (k : Int) < (nX : Int) := by omega
                    have wk : IntKind.i64.wrap ((k : Int) + 1) = (k : Int) + 1 := IntWalk.i64_in _ (by omega)
                    obtain ⟨b1, o1, hA, c1⟩ := HXS.out.at k (by rw [HXL.out]; exact hlt)
                    subst hA
                    have c11 := c1 1 _ rfl
                    unfold strV at c11
                    generalize bs (sp[k]'(by rw [HXL.out]; exact hlt)).2 = Z at *
                    clear hk c1
                    by_cases hx : (100 : Int) < (Z.size : Int)
                    · go_wp2_with fail
                      go_ret
                      exact ⟨true, rfl, HB.out⟩
                    · go_wp2_with fail
                      go_roundg (gk - 1)
                      case measure => have := HK.out; omega
                      case rel => exact ⟨k + 1, by have := HK.out; omega, by go_num, rfl⟩
                  · have p1 : ¬ (k : Int) < (nX : Int) := by omega
                    clear hk HK
                    go_wp2_with fail
                    go_ret
                    exact ⟨false, rfl, HB.out⟩
end
end Go.Proofs.Ytpkmcokkapfnmaa
/- Arguments of a law, opened: structs by value of any fields of one cell; slices of such structs. -/
namespace Go.Proofs.Ytpkmcokkapfnmaa
open Go.ChangeShapes Go.WideShapes Go.Deep
set_option linter.unusedVariables false

section
variable {H : Type} {enc : TypeId × Value → H} {P : Program} {w : World} {base : Nat} {spare : Nat → Bool} {held : Bool}

/-- A struct by value: its fields, each read. -/
theorem open_fields {r : Reach} {b0 : Nat} {t : TypeId} {fs : Array Field} {v : Value} {d : DataW H} {p : List MemPlace} (hs : P.underlying t = some (.struct fs)) (hone : oneCellFields P fs = true) (hC : P.cellsOf t = fs.size)
    (hv : Value.okWide P w r b0 t v) (h : DataW.Trod enc P w base spare held t v d p) :
    ∃ (vs : List Value) (n : Nat), v = .agg vs.toArray ∧ vs.length = fs.size ∧ ∀ (j : Nat) (f : Field), fs[j]? = some f → ∃ x y, vs[j]? = some x ∧ DataW.trod enc P w base spare held n f.type [x] = some y := by
  obtain ⟨cs, rfl, hsz⟩ := okWide_struct hs hv
  obtain ⟨fuel, hf⟩ := h
  obtain ⟨ys, n, hn, hx, hlen, hyl, hfy⟩ := DataW.trod_struct hs hf
  have hcs : cs.size = fs.size := hsz.trans hC
  refine ⟨cs.toList, n, by simp, by simpa using hcs, ?_⟩
  intro j f hj
  obtain ⟨ho, hk⟩ := hone_of hone j f hj
  have hjl : j < fs.size := (Array.getElem?_eq_some_iff.1 hj).1
  have h1 := hfy j f hj
  rw [ho, hk] at h1
  have hjc : j < cs.toList.length := by rw [Array.length_toList, hcs]; exact hjl
  have hv1 : (Value.agg cs).cells.toList = cs.toList := rfl
  have hone' : (cs.toList.drop j).take 1 = [cs.toList[j]'hjc] := by
    rw [List.drop_eq_getElem_cons hjc]
    rfl
  have hys : ys[j]? = some (ys[j]'(by omega)) := List.getElem?_eq_getElem (by omega)
  rw [hv1, hone', hys] at h1
  exact ⟨_, _, List.getElem?_eq_getElem hjc, h1⟩
theorem list6 {α : Type} {l : List α} (h : l.length = 6) : ∃ a b c d e f, l = [a, b, c, d, e, f] := by
  match l, h with
  | [a, b, c, d, e, f], _ => exact ⟨a, b, c, d, e, f, rfl⟩
theorem list4 {α : Type} {l : List α} (h : l.length = 4) : ∃ a b c d, l = [a, b, c, d] := by
  match l, h with
  | [a, b, c, d], _ => exact ⟨a, b, c, d, rfl⟩

/-- A slice of structs of any fields of one cell: their cells, each read. -/
theorem arg_cells {t e : TypeId} {fs : Array Field} {fuel : Nat} {A : Option Addr} {n c : Nat} {x : DataW H × List MemPlace} (ht : P.underlying t = some (.slice e)) (he : P.underlying e = some (.struct fs))
    (hone : oneCellFields P fs = true) (hC : P.cellsOf e = fs.size) (h0s : 0 < fs.size)
    (h : DataW.trod enc P w base spare held fuel t [.slice A n c] = some x) :
    ∃ xs : List (List Value), xs.length = n ∧ n ≤ c ∧ c ≤ maxLen ∧ (∀ y ∈ xs, y.length = fs.size ∧ ∀ (j : Nat) (f : Field) (v : Value), fs[j]? = some f → y[j]? = some v → ∃ m d, DataW.trod enc P w base spare held m f.type [v] = some d) ∧ Sl w A (fun y => y) fs.size xs := by
  rcases open_slice ht h with ⟨h0, _⟩ | ⟨a, len, cap, m, f, D, Pl, hcs, hb, hl, hm, hmm, hx, hi⟩
  · cases h0
    exact ⟨[], rfl, Nat.le_refl _, Nat.zero_le _, by simp, Sl.nil _ _ _ _⟩
  · cases hcs
    have hlm : n ≤ m := by rw [hmm]; split <;> omega
    obtain ⟨g, hg⟩ := choose_lt (α := List Value) (p := fun i y => y.length = fs.size ∧ (∀ (j : Nat) (f : Field) (v : Value), fs[j]? = some f → y[j]? = some v → ∃ m d, DataW.trod enc P w base spare held m f.type [v] = some d) ∧ ∀ j z, y[j]? = some z → w.cell? (a.add (i * fs.size + j)) = some z) (n := m) (fun i him => by
      obtain ⟨cs', hc, ht'⟩ := hi i him
      rw [hC] at hc
      obtain ⟨ys, n', hn', hy, hlen, hyl, hf⟩ := DataW.trod_struct he ht'
      obtain ⟨_, hcl, hat⟩ := World.cells?_some hc
      have hcl2 : cs'.length = fs.size := by rw [hlen]; exact hC
      refine ⟨cs', hcl2, ?_, ?_⟩
      · intro j fj v hj hv
        obtain ⟨ho, hk⟩ := hone_of hone j fj hj
        have hjl : j < fs.size := (Array.getElem?_eq_some_iff.1 hj).1
        have h1 := hf j fj hj
        rw [ho, hk] at h1
        have hjc : j < cs'.length := by omega
        have hone' : (cs'.drop j).take 1 = [cs'[j]'hjc] := by
          rw [List.drop_eq_getElem_cons hjc]
          rfl
        rw [List.getElem?_eq_getElem hjc] at hv
        have hv := Option.some.inj hv
        rw [hone', hv] at h1
        have hys : ys[j]? = some (ys[j]'(by omega)) := List.getElem?_eq_getElem (by omega)
        rw [hys] at h1
        exact ⟨_, _, h1⟩
      · intro j z hz
        obtain ⟨hjc, hz⟩ := List.getElem?_eq_some_iff.1 hz
        rw [← Go.Deep.add_add, hat j (by omega), List.getElem?_eq_getElem hjc, hz])
    refine ⟨(List.range n).map g, by simp, hl, hm, ?_, ?_⟩
    · intro y hy
      obtain ⟨i, hir, rfl⟩ := List.mem_map.1 hy
      rw [List.mem_range] at hir
      exact ⟨(hg i (by omega)).1, (hg i (by omega)).2.1⟩
    · intro i y hy
      rw [List.getElem?_map, Option.map_eq_some_iff] at hy
      obtain ⟨i', hi', rfl⟩ := hy
      obtain ⟨hlt, hi''⟩ := List.getElem?_eq_some_iff.1 hi'
      rw [List.getElem_range] at hi''
      subst hi''
      rw [List.length_range] at hlt
      obtain ⟨z0, hz0⟩ : ∃ z, (g 0)[0]? = some z := ⟨(g 0)[0]'(by rw [(hg 0 (by omega)).1]; exact h0s), by simp⟩
      have h0 := addr_plain ((hg 0 (by omega)).2.2 0 z0 hz0)
      have ha : a = ⟨a.block, a.off, none⟩ := by
        have : a.add (0 * fs.size + 0) = a := by unfold Addr.add; simp
        rwa [this] at h0
      refine ⟨a.block, a.off, by rw [← ha], fun j v hv => ?_⟩
      have hc := (hg i (by omega)).2.2 j v hv
      rw [ha] at hc
      have hadd := add_plain a.block a.off
      rw [hadd, ← Nat.add_assoc] at hc
      exact hc
/-- a number and a text -/
def encIS (x : Int × List UInt8) : List Value := [.int .i64 x.1, strV x.2]
theorem choose_list {α β : Type} {p : α → β → Prop} : ∀ (xs : List α), (∀ x ∈ xs, ∃ y, p x y) → ∃ ys : List β, ys.length = xs.length ∧ ∀ (i : Nat) (y : β), ys[i]? = some y → ∃ x, xs[i]? = some x ∧ p x y
  | [], _ => ⟨[], rfl, fun i y h => by simp at h⟩
  | x :: xs, h => by
    obtain ⟨y, hy⟩ := h x (by simp)
    obtain ⟨ys, hl, hys⟩ := choose_list xs (fun z hz => h z (by simp [hz]))
    refine ⟨y :: ys, by simp [hl], ?_⟩
    intro i z hz
    cases i with
    | zero => simp at hz; subst hz; exact ⟨x, rfl, hy⟩
    | succ i => simp at hz; obtain ⟨u, h1, h2⟩ := hys i z hz; exact ⟨u, by simpa using h1, h2⟩
theorem arg_pairs {t e : TypeId} {f0 f1 : Field} {fuel : Nat} {A : Option Addr} {n c : Nat} {x : DataW H × List MemPlace} (ht : P.underlying t = some (.slice e)) (he : P.underlying e = some (.struct #[f0, f1]))
    (hone : oneCellFields P #[f0, f1] = true) (hC : P.cellsOf e = 2) (h0 : P.underlying f0.type = some (.int .i64)) (h1 : P.underlying f1.type = some .string)
    (h : DataW.trod enc P w base spare held fuel t [.slice A n c] = some x) :
    ∃ xs : List (Int × List UInt8), xs.length = n ∧ n ≤ c ∧ c ≤ maxLen ∧ (∀ y ∈ xs, (Lit.int .i64 y.1).wf = true ∧ y.2.length ≤ maxLen) ∧ Sl w A encIS 2 xs := by
  obtain ⟨xs, hl, hn, hc, hw, hs⟩ := arg_cells ht he hone hC (by show 0 < 2; decide) h
  obtain ⟨ys, hyl, hys⟩ := choose_list (p := fun y (z : Int × List UInt8) => y = [.int .i64 z.1, strV z.2] ∧ (Lit.int .i64 z.1).wf = true ∧ z.2.length ≤ maxLen) xs (by
    intro y hy
    obtain ⟨h2, h3⟩ := hw y hy
    match y, h2 with
    | [a, b], _ =>
      obtain ⟨m0, d0, t0⟩ := h3 0 f0 a rfl rfl
      obtain ⟨m1, d1, t1⟩ := h3 1 f1 b rfl rfl
      obtain ⟨z, e0, _, w0⟩ := DataW.trod_int h0 t0
      obtain ⟨s, e1, _, w1⟩ := DataW.trod_string h1 t1
      simp at e0 e1
      subst e0; subst e1
      exact ⟨(z, s.data.toList), by simp [strV, bs_data], w0, by simpa using w1⟩)
  refine ⟨ys, by rw [hyl, hl], hn, hc, ?_, ?_⟩
  · intro y hy
    obtain ⟨i, hi, rfl⟩ := List.getElem_of_mem hy
    obtain ⟨x, _, _, h2⟩ := hys i _ (List.getElem?_eq_getElem hi)
    exact h2
  · intro i y hy
    obtain ⟨x, hx, h2, _⟩ := hys i y hy
    obtain ⟨b, o, e, hcc⟩ := hs i x hx
    exact ⟨b, o, e, fun j v hv => hcc j v (by rw [h2]; exact hv)⟩
/-- structs of two integers, as pairs -/
def toPr (l : List Int) : Int × Int := (l.getD 0 0, l.getD 1 0)
def encPr (m : Int × Int) : List Value := [.int .i64 m.1, .int .i64 m.2]
theorem sl_pairs {A : Option Addr} {xs : List (List Int)} (hl : ∀ y ∈ xs, y.length = 2 ∧ ∀ z ∈ y, (Lit.int .i64 z).wf = true) (hs : Sl w A (encInts .i64) 2 xs) : Sl w A encPr 2 (xs.map toPr) := by
  intro i x hx
  rw [List.getElem?_map, Option.map_eq_some_iff] at hx
  obtain ⟨y, hy, rfl⟩ := hx
  obtain ⟨b, o, e, hc⟩ := hs i y hy
  refine ⟨b, o, e, fun j v hv => hc j v ?_⟩
  have := (hl y (List.mem_of_getElem? hy)).1
  match y, this with
  | [p, q], _ => exact hv
end
end Go.Proofs.Ytpkmcokkapfnmaa
/- Layer 7 (grow): GrowLoads. -/
namespace Go.Proofs.Ytpkmcokkapfnmaa
open Go.RowKit Go.Maps Go.WideMaps
set_option maxRecDepth 100000
set_option linter.unusedVariables false
set_option linter.unusedSimpArgs false

structure LdSpec (good : List Ent → Prop) (bad : Nat → Int → Prop) : Prop where
  one : ∀ T T', good T → good T' → T = T'
  nor : ∀ T k E, good T → bad k E → False
  bad1 : ∀ k E k' E', bad k E → bad k' E' → k = k' ∧ E = E'
def PLd (good : List Ent → Prop) (bad : Nat → Int → Prop) (N : Nat) (w : World) (x y z : Value) (w' : World) : Prop :=
  Below w.heap.size w w' ∧ ((∃ T tb sv mb mp, x = .pointer (some ⟨tb, 0, none⟩) ∧ y = .int .i64 (N : Int) ∧ z = .int .i64 0 ∧ good T ∧ OkT T ∧ TabIs w' w.heap.size tb T sv mb mp) ∨
    (∃ (k : Nat) (E : Int), x = .pointer none ∧ y = .int .i64 (k : Int) ∧ z = .int .i64 E ∧ E ≠ 0 ∧ bad k E))
def FLd (good : List Ent → Prop) (bad : Nat → Int → Prop) (N : Nat) (k : Nat) (T : List Ent) (no : Int) : Prop := (no = 0 ∧ k = N ∧ good T ∧ OkT T) ∨ (no ≠ 0 ∧ bad k no)

theorem bad_imps (l : List (List UInt8)) : LdSpec (fun T => impsT baseT l = some T) (fun k E => ∃ hk : k < l.length, ∃ T, impsT baseT (l.take k) = some T ∧ errT T l[k] = E ∧ E ≠ 0) := by
  refine ⟨?_, ?_, ?_⟩
  · intro T T' h h'
    rw [h] at h'
    exact Option.some.inj h'
  · rintro T k E h ⟨hk, T', h1, h2, h3⟩
    rw [impsT_bad hk h1 (by rw [h2]; exact h3)] at h
    cases h
  · rintro k E k' E' ⟨hk, T, h1, h2, h3⟩ ⟨hk', T', h1', h2', h3'⟩
    have e := imps_same hk hk' h1 (by rw [h2]; exact h3) h1' (by rw [h2']; exact h3')
    subst e
    rw [h1] at h1'
    have e2 := Option.some.inj h1'
    subst e2
    exact ⟨rfl, h2.symm.trans h2'⟩
theorem addsT_bad {l : List (Int × Int)} {T' : List Ent} {k : Nat} (hk : k < l.length) (h1 : addsT baseT (l.take k) = some T') (h2 : (addT T' l[k].1 l[k].2).2.1 ≠ 0) : addsT baseT l = none := by
  cases h : addsT baseT l with
  | none => rfl
  | some T2 => exact absurd (adds_take l baseT T2 k hk T' h h1) h2
theorem adds_lt {l : List (Int × Int)} {k k' : Nat} {T T' : List Ent} (hk : k < l.length) (hk' : k' ≤ l.length) (h1 : addsT baseT (l.take k) = some T) (h2 : (addT T l[k].1 l[k].2).2.1 ≠ 0) (h3 : addsT baseT (l.take k') = some T') : ¬ k < k' := by
  intro hlt
  have h4 : k < (l.take k').length := by rw [List.length_take]; omega
  have h5 : (l.take k').take k = l.take k := by rw [List.take_take]; congr 1; omega
  have := adds_take (l.take k') baseT T' k h4 T h3 (by rw [h5]; exact h1)
  rw [List.getElem_take] at this
  exact h2 this
theorem bad_adds (l : List (Int × Int)) : LdSpec (fun T => addsT baseT l = some T) (fun k E => ∃ hk : k < l.length, ∃ T, addsT baseT (l.take k) = some T ∧ (addT T l[k].1 l[k].2).2.1 = E ∧ E ≠ 0) := by
  refine ⟨?_, ?_, ?_⟩
  · intro T T' h h'
    rw [h] at h'
    exact Option.some.inj h'
  · rintro T k E h ⟨hk, T', h1, h2, h3⟩
    rw [addsT_bad hk h1 (by rw [h2]; exact h3)] at h
    cases h
  · rintro k E k' E' ⟨hk, T, h1, h2, h3⟩ ⟨hk', T', h1', h2', h3'⟩
    have a1 := adds_lt hk (Nat.le_of_lt hk') h1 (by rw [h2]; exact h3) h1'
    have a2 := adds_lt hk' (Nat.le_of_lt hk) h1' (by rw [h2']; exact h3') h1
    have e : k = k' := by omega
    subst e
    rw [h1] at h1'
    have e2 := Option.some.inj h1'
    subst e2
    exact ⟨rfl, h2.symm.trans h2'⟩
section
variable {w : World} {rk : Bool} {AM : Option Addr} {nM cM : Nat} {AT : Option Addr} {nT cT : Nat} {AX : Option Addr} {nX cX : Nat} {AC : Option Addr} {nC cC : Nat} {AJ : Option Addr} {nJ cJ : Nat}
theorem blk_spec {W : World} {g : Nat} (h : W.heap[g]? = some (.cells #[.bool rk, .slice AM nM cM, .slice AT nT cT, .slice AX nX cX, .slice AC nC cC, .slice AJ nJ cJ] 53)) :
    W.cell? ⟨g, 0, none⟩ = some (.bool rk) ∧ W.cell? ⟨g, 1, none⟩ = some (.slice AM nM cM) ∧ W.cell? ⟨g, 2, none⟩ = some (.slice AT nT cT) ∧ W.cell? ⟨g, 3, none⟩ = some (.slice AX nX cX) ∧ W.cell? ⟨g, 4, none⟩ = some (.slice AC nC cC) ∧ W.cell? ⟨g, 5, none⟩ = some (.slice AJ nJ cJ) :=
  ⟨blk_cell h 0, blk_cell h 1, blk_cell h 2, blk_cell h 3, blk_cell h 4, blk_cell h 5⟩
set_option maxHeartbeats 8000000 in
theorem gload_main {good : List Ent → Prop} {bad : Nat → Int → Prop} {N : Nat} (toks : List (List UInt8)) (sp : List (Int × List UInt8)) (hT : Sl1 w AT strV toks) (hTl : toks.length = nT) (hTm : toks.length ≤ maxLen) (hX : Sl w AX encX 2 sp) (hXl : sp.length = nX)
    (hg : LdSpec good bad)
    (hP : fewT toks = true → nM ≤ 60 → ∀ W, Below w.heap.size w W → Calls Try.prog 26 #[specV rk AM nM cM AT nT cT AX nX cX AC nC cC AJ nJ cJ] W fun e w' => ∃ x y z, e = .returned (.tuple #[x, y, z]) ∧ PLd good bad N W x y z w')
    (hR : fewT toks = true → nM ≤ 60 → ∀ W, Below w.heap.size w W → Calls Try.prog 27 #[specV rk AM nM cM AT nT cT AX nX cX AC nC cC AJ nJ cJ] W (RTab (FLd good bad N) W)) :
    Calls Try.prog 7 #[specV rk AM nM cM AT nT cT AX nX cX AC nC cC AJ nJ cJ] w (RetTrue w) := by
  have hb0 := (Below.refl w.heap.size w).alloc (Nat.le_refl _) (.cells #[.bool rk, .slice AM nM cM, .slice AT nT cT, .slice AX nX cX, .slice AC nC cC, .slice AJ nJ cJ] 53)
  have HN := Lib.hid (blk_new w (.cells #[.bool rk, .slice AM nM cM, .slice AT nT cT, .slice AX nX cX, .slice AC nC cC, .slice AJ nJ cJ] 53))
  have HG := Lib.hid (by simpa only [specV] using great_any (rk := rk) (AM := AM) (nM := nM) (cM := cM) (cT := cT) (cX := cX) (AC := AC) (nC := nC) (cC := cC) (AJ := AJ) (nJ := nJ) (cJ := cJ) toks sp (hT.below hb0 (Nat.le_refl _)) hTl (hX.below hb0 (Nat.le_refl _)) hXl)
  have HP := Lib.hid (by simpa only [specV] using hP)
  have HR := Lib.hid (by simpa only [specV] using hR)
  have HB := Lib.hid hb0
  have HTK := Lib.hid hT
  have HTL := Lib.hid hTl
  have HTM := Lib.hid hTm
  have HGG := Lib.hid hg
  clear hb0 hT hTl hTm hX hXl hg hP hR
  unfold specV
  go_enter Try.func7, Try.ntmps7
  go_upto_region 1 with fail
  generalize w.alloc (.cells #[.bool rk, .slice AM nM cM, .slice AT nT cT, .slice AX nX cX, .slice AC nC cC, .slice AJ nJ cJ] 53) = W0 at *
  obtain ⟨n0, n1, n2, n3, n4, n5⟩ := blk_spec HN.out
  go_wp2_with fail
  refine HG.out.mono ?_
  rintro e W1 ⟨B, rfl, hb⟩
  replace HN := Lib.hid (blk_below hb (blk_lt HN.out) HN.out)
  replace HB := Lib.hid (HB.out.trans (hb.mono HB.out.size))
  clear n0 n1 n2 n3 n4 n5 HG hb
  cases B with
  | true =>
    go_wp2_with fail
    refine (awake7_any _).mono ?_
    rintro e W2 ⟨rfl, hb⟩
    have HB2 := Lib.hid (HB.out.trans (hb.mono HB.out.size))
    clear hb
    go_wp2_with fail
    go_ret
    exact ⟨rfl, HB2.out⟩
  | false =>
    obtain ⟨n0, n1, n2, n3, n4, n5⟩ := blk_spec HN.out
    have HFW := Lib.hid (few_any toks AT cT W1 (HTK.out.below HB.out (Nat.le_refl _)) HTM.out)
    rw [HTL.out] at HFW
    cases hf : fewT toks with
    | false =>
      rw [hf] at HFW
      go_wp2_with fail
      refine HFW.out.mono ?_
      rintro e W2 ⟨rfl, rfl⟩
      go_wp2_with fail
      refine (awake7_any _).mono ?_
      rintro e W3 ⟨rfl, hb⟩
      have HB3 := Lib.hid (HB.out.trans (hb.mono HB.out.size))
      clear hb
      go_wp2_with fail
      go_ret
      exact ⟨rfl, HB3.out⟩
    | true =>
      rw [hf] at HFW
      go_wp2_with fail
      refine HFW.out.mono ?_
      rintro e W2 ⟨rfl, rfl⟩
      clear HFW
      by_cases hm : (60 : Int) < (nM : Int)
      · go_wp2_with fail
        refine (awake7_any _).mono ?_
        rintro e W3 ⟨rfl, hb⟩
        have HB3 := Lib.hid (HB.out.trans (hb.mono HB.out.size))
        clear hb
        go_wp2_with fail
        go_ret
        exact ⟨rfl, HB3.out⟩
      · have HPL := Lib.hid (HP.out hf (by omega) W2 HB.out)
        have HRL := Lib.hid (HR.out hf (by omega))
        clear hf HP HR
        go_wp2_with fail
        refine HPL.out.mono ?_
        rintro e W3 ⟨x, y, z, rfl, hb, hc⟩
        have HC := Lib.hid hc
        replace HN := Lib.hid (blk_below hb (blk_lt HN.out) HN.out)
        replace HB := Lib.hid (HB.out.trans (hb.mono HB.out.size))
        have HRL3 := Lib.hid (HRL.out W3 HB.out)
        clear n0 n1 n2 n3 n4 n5 hb HPL hc HRL
        obtain ⟨n0, n1, n2, n3, n4, n5⟩ := blk_spec HN.out
        go_wp2_with fail
        refine HRL3.out.mono ?_
        rintro e W4 ⟨hb, k, T', A1, n1', c1, A2, n2', c2, no, rfl, href, hF⟩
        have hn2 : n2' = (mrgsT T').length := by obtain ⟨_, _, e⟩ := own_slice href.mrg; injection e
        subst hn2
        have hba := (Below.refl W4.heap.size W4).alloc (Nat.le_refl _) (.cells #[.slice A1 n1' c1, .slice A2 (mrgsT T').length c2] 28)
        have HN6 := Lib.hid (blk_new W4 (.cells #[.slice A1 n1' c1, .slice A2 (mrgsT T').length c2] 28))
        have hb4 := HB.out.trans (hb.mono HB.out.size)
        have HB4 := Lib.hid (hb4.trans (hba.mono hb4.size))
        have HM := Lib.hid ((own_sl (enc := encM) (fun _ => rfl) href.mrg (by decide)).below hba (Nat.le_refl _))
        have HFF := Lib.hid hF
        have HST := Lib.hid (And.intro hb hba)
        clear hb hba hb4 href hF HRL3 n0 n1 n2 n3 n4 n5
        rcases HC.out with ⟨T, tb, sv, mb, mp, rfl, rfl, rfl, hgood, hok, ht⟩ | ⟨k2, E, rfl, rfl, rfl, hE, hbad⟩
        · have h3 : no = 0 ∧ k = N ∧ T' = T := by
            rcases HFF.out with ⟨h1, h2, h3, _⟩ | ⟨_, h2⟩
            · exact ⟨h1, h2, HGG.out.one _ _ h3 hgood⟩
            · exact absurd (HGG.out.nor _ _ _ hgood h2) id
          obtain ⟨rfl, rfl, rfl⟩ := h3
          have hsm := hok.small
          have HOK := Lib.hid hok
          have HML := Lib.hid (show (mrgsT T').length < 1000000000000 by rw [mrgs_len]; omega)
          have HT5 := Lib.hid ((ht.below HST.out.1 (Nat.le_refl _)).below HST.out.2 (Nat.le_refl _))
          clear hgood hok ht HC HFF HST hsm
          go_upto_region 5 with fail
          generalize W4.alloc (.cells #[.slice A1 n1' c1, .slice A2 (mrgsT T').length c2] 28) = W5 at *
          generalize W4.heap.size = g6 at *
          have m1 := blk_cell HN6.out 1
          simp only [List.getElem?_toArray, List.getElem?_cons_zero, List.getElem?_cons_succ] at m1
          have HSC : Hid (∀ V, Below W5.heap.size W5 V → V.cell? ⟨g6, 1, none⟩ = some (.slice A2 (mrgsT T').length c2)) := Lib.hid (fun V hV => below_cell hV (Nat.le_refl _) m1)
          have HBB := Lib.hid (below_drew1 W5)
          clear m1
          go_upto_region 7 with fail
          refine wp_region_D (Ds := []) (S := fun V => V.cell? ⟨g6, 1, none⟩ = some (.slice A2 (mrgsT T').length c2)) (by kernel_rfl) (by exact HSC.out _ HBB.out) (fun hHeld => ?_)
          refine wpAnyD_takeP (i := 0) (oi := { dst := some 44, op := Op.move (Operand.tmp 8), type := 3, pos := "law.go:72", after := #[], guard := none }) (d := 44) (v := ?_) rfl rfl (by kernel_rfl) (by kernel_rfl) (by kernel_rfl) (fun _ _ _ h => h) (Or.inl ⟨by rfl, ?_⟩) ?_
          rotate_left
          · (intro w' _; go_simp; (try with_reducible rfl))
          simp only [List.setIfInBounds_toArray, List.set_cons_zero, List.set_cons_succ]
          refine wpAnyD_takeP (i := 1) (oi := { dst := some 45, op := Op.binOp BinOp.neq 3 (Operand.tmp 44) (Operand.const (Value.int IntKind.i64 0)) 3, type := 4, pos := "law.go:72", after := #[{ on := 0, ground := Ground.data }], guard := none }) (d := 45) (v := ?_) rfl rfl (by kernel_rfl) (by kernel_rfl) (by kernel_rfl) (fun _ _ _ h => h) (Or.inl ⟨by rfl, ?_⟩) ?_
          rotate_left
          · (intro w' _; go_simp; (try with_reducible rfl))
          simp only [List.setIfInBounds_toArray, List.set_cons_zero, List.set_cons_succ]
          refine wpAnyD_takeP (i := 2) (oi := { dst := some 46, op := Op.move (Operand.tmp 45), type := 4, pos := "law.go:72", after := #[{ on := 1, ground := Ground.data }], guard := none }) (d := 46) (v := ?_) rfl rfl (by kernel_rfl) (by kernel_rfl) (by kernel_rfl) (fun _ _ _ h => h) (Or.inl ⟨by rfl, ?_⟩) ?_
          rotate_left
          · (intro w' _; go_simp; (try with_reducible rfl))
          simp only [List.setIfInBounds_toArray, List.set_cons_zero, List.set_cons_succ]
          refine wpAnyD_takeD (i := 3) (oi := { dst := some 47, op := Op.move (Operand.tmp 3), type := 24, pos := "law.go:72", after := #[{ on := 2, ground := Ground.guard }], guard := some (2, true) }) (d := 47) (v := undef) rfl rfl (by kernel_rfl) (by kernel_rfl) (by kernel_rfl) (by kernel_rfl) (fun _ _ _ h => h) (Or.inr ⟨by rfl, rfl⟩) hHeld ?_
          simp only [List.setIfInBounds_toArray, List.set_cons_zero, List.set_cons_succ]
          refine wpAnyD_takeD (i := 4) (oi := { dst := some 48, op := Op.binOp BinOp.eql 24 (Operand.tmp 47) (Operand.const (Value.pointer none)) 24, type := 4, pos := "law.go:72", after := #[{ on := 3, ground := Ground.data }, { on := 2, ground := Ground.guard }], guard := some (2, true) }) (d := 48) (v := undef) rfl rfl (by kernel_rfl) (by kernel_rfl) (by kernel_rfl) (by kernel_rfl) (fun _ _ _ h => h) (Or.inr ⟨by rfl, rfl⟩) hHeld ?_
          simp only [List.setIfInBounds_toArray, List.set_cons_zero, List.set_cons_succ]
          refine wpAnyD_takeP (i := 5) (oi := { dst := some 49, op := Op.pick (Operand.tmp 46) (Operand.tmp 48) (Operand.const (Value.bool false)), type := 4, pos := "law.go:72", after := #[{ on := 2, ground := Ground.data }, { on := 4, ground := Ground.data }], guard := none }) (d := 49) (v := ?_) rfl rfl (by kernel_rfl) (by kernel_rfl) (by kernel_rfl) (fun _ _ _ h => h) (Or.inl ⟨by rfl, ?_⟩) ?_
          rotate_left
          · (intro w' _; go_simp; (try with_reducible rfl))
          simp only [List.setIfInBounds_toArray, List.set_cons_zero, List.set_cons_succ]
          refine wpAnyD_takeP (i := 6) (oi := { dst := some 50, op := Op.move (Operand.tmp 49), type := 4, pos := "law.go:72", after := #[{ on := 5, ground := Ground.data }, { on := 2, ground := Ground.chain }], guard := none }) (d := 50) (v := ?_) rfl rfl (by kernel_rfl) (by kernel_rfl) (by kernel_rfl) (fun _ _ _ h => h) (Or.inl ⟨by rfl, ?_⟩) ?_
          rotate_left
          · (intro w' _; go_simp; (try with_reducible rfl))
          simp only [List.setIfInBounds_toArray, List.set_cons_zero, List.set_cons_succ]
          refine wpAnyD_takeP (i := 7) (oi := { dst := some 51, op := Op.move (Operand.tmp 8), type := 3, pos := "law.go:72", after := #[{ on := 6, ground := Ground.guard }], guard := some (6, false) }) (d := 51) (v := ?_) rfl rfl (by kernel_rfl) (by kernel_rfl) (by kernel_rfl) (fun _ _ _ h => h) (Or.inl ⟨by rfl, ?_⟩) ?_
          rotate_left
          · (intro w' _; go_simp; (try with_reducible rfl))
          simp only [List.setIfInBounds_toArray, List.set_cons_zero, List.set_cons_succ]
          refine wpAnyD_takeP (i := 8) (oi := { dst := some 52, op := Op.binOp BinOp.eql 3 (Operand.tmp 51) (Operand.const (Value.int IntKind.i64 0)) 3, type := 4, pos := "law.go:72", after := #[{ on := 7, ground := Ground.data }, { on := 6, ground := Ground.guard }], guard := some (6, false) }) (d := 52) (v := ?_) rfl rfl (by kernel_rfl) (by kernel_rfl) (by kernel_rfl) (fun _ _ _ h => h) (Or.inl ⟨by rfl, ?_⟩) ?_
          rotate_left
          · (intro w' _; go_simp; (try with_reducible rfl))
          simp only [List.setIfInBounds_toArray, List.set_cons_zero, List.set_cons_succ]
          refine wpAnyD_takeP (i := 9) (oi := { dst := some 53, op := Op.move (Operand.tmp 52), type := 4, pos := "law.go:72", after := #[{ on := 8, ground := Ground.data }, { on := 6, ground := Ground.chain }, { on := 6, ground := Ground.guard }], guard := some (6, false) }) (d := 53) (v := ?_) rfl rfl (by kernel_rfl) (by kernel_rfl) (by kernel_rfl) (fun _ _ _ h => h) (Or.inl ⟨by rfl, ?_⟩) ?_
          rotate_left
          · (intro w' _; go_simp; (try with_reducible rfl))
          simp only [List.setIfInBounds_toArray, List.set_cons_zero, List.set_cons_succ]
          refine wpAnyD_takeP (i := 10) (oi := { dst := some 54, op := Op.move (Operand.tmp 3), type := 24, pos := "law.go:72", after := #[{ on := 9, ground := Ground.guard }], guard := some (9, true) }) (d := 54) (v := ?_) rfl rfl (by kernel_rfl) (by kernel_rfl) (by kernel_rfl) (fun _ _ _ h => h) (Or.inl ⟨by rfl, ?_⟩) ?_
          rotate_left
          · (intro w' _; go_simp; (try with_reducible rfl))
          simp only [List.setIfInBounds_toArray, List.set_cons_zero, List.set_cons_succ]
          refine wpAnyD_takeP (i := 12) (oi := { dst := some 56, op := Op.fieldAddr 28 (Operand.tmp 6) 1, type := 0, pos := "law.go:72", after := #[{ on := 9, ground := Ground.guard }], guard := some (9, true) }) (d := 56) (v := ?_) rfl rfl (by kernel_rfl) (by kernel_rfl) (by kernel_rfl) (fun _ _ _ h => h) (Or.inl ⟨by rfl, ?_⟩) ?_
          rotate_left
          · (intro w' _; go_simp; (try with_reducible rfl))
          simp only [List.setIfInBounds_toArray, List.set_cons_zero, List.set_cons_succ]
          refine wpAnyD_takeD (i := 13) (oi := { dst := some 57, op := Op.load 26 (Operand.tmp 56), type := 26, pos := "law.go:72", after := #[{ on := 12, ground := Ground.data }, { on := 9, ground := Ground.guard }], guard := some (9, true) }) (d := 57) (v := ?_) rfl rfl (by kernel_rfl) (by kernel_rfl) (by kernel_rfl) (by kernel_rfl) (fun _ _ _ h => h) (Or.inl ⟨by rfl, ?_⟩) hHeld ?_
          rotate_left
          · (intro w' hSw; (try dsimp only at hSw); go_simp; (try with_reducible rfl))
          simp only [List.setIfInBounds_toArray, List.set_cons_zero, List.set_cons_succ]
          refine wpAnyD_one (i := 11) (o := { dst := some 55, op := Op.call { callee := Callee.value (Operand.func 29), args := #[Operand.tmp 54], argTypes := #[24] }, type := 26, pos := "law.go:72", after := #[{ on := 10, ground := Ground.data }, { on := 9, ground := Ground.chain }, { on := 9, ground := Ground.guard }], guard := some (9, true) }) (by kernel_rfl) rfl (by rfl) (fun K hK => ?_)
          go_simp; refine (merges_tab (HT5.out.below HBB.out (Nat.le_refl _)) HOK.out).mono ?_; rintro e V1 ⟨A3, c3, rfl, hr3, hb⟩; have HR3 := Lib.hid (own_sl (enc := encM) (fun _ => rfl) hr3 (by decide)); replace HBB := Lib.hid (HBB.out.trans (hb.mono HBB.out.size)); have h := HSC.out _ HBB.out; clear hr3 hb; go_simp
          refine hK.out _ _ h (fun hHeld => ?_)
          clear hK K
          try simp only [Act.put, List.setIfInBounds_toArray, List.set_cons_zero, List.set_cons_succ]
          refine wpAnyD_one (i := 14) (o := { dst := some 58, op := Op.call { callee := Callee.value (Operand.func 28), args := #[Operand.tmp 55, Operand.tmp 57], argTypes := #[26, 26] }, type := 4, pos := "law.go:72", after := #[{ on := 11, ground := Ground.data }, { on := 13, ground := Ground.data }, { on := 11, ground := Ground.chain }, { on := 9, ground := Ground.guard }], guard := some (9, true) }) (by kernel_rfl) rfl (by rfl) (fun K hK => ?_)
          go_simp; refine (merges_same (mrgsT T') A3 A2 c3 c2 _ HR3.out (HM.out.below HBB.out (Nat.le_refl _)) HML.out).mono ?_; rintro e V2 ⟨rfl, hb⟩; replace HBB := Lib.hid (HBB.out.trans (hb.mono HBB.out.size)); have h := HSC.out _ HBB.out; clear hb; go_simp
          refine hK.out _ _ h (fun hHeld => ?_)
          clear hK K
          try simp only [Act.put, List.setIfInBounds_toArray, List.set_cons_zero, List.set_cons_succ]
          refine wpAnyD_takeP (i := 15) (oi := { dst := some 59, op := Op.pick (Operand.tmp 53) (Operand.tmp 58) (Operand.const (Value.bool false)), type := 4, pos := "law.go:72", after := #[{ on := 9, ground := Ground.data }, { on := 14, ground := Ground.data }, { on := 6, ground := Ground.guard }], guard := some (6, false) }) (d := 59) (v := ?_) rfl rfl (by kernel_rfl) (by kernel_rfl) (by kernel_rfl) (fun _ _ _ h => h) (Or.inl ⟨by rfl, ?_⟩) ?_
          rotate_left
          · (intro w' _; go_simp; (try with_reducible rfl))
          simp only [List.setIfInBounds_toArray, List.set_cons_zero, List.set_cons_succ]
          refine wpAnyD_takeP (i := 16) (oi := { dst := some 60, op := Op.pick (Operand.tmp 50) (Operand.const (Value.bool true)) (Operand.tmp 59), type := 4, pos := "law.go:72", after := #[{ on := 6, ground := Ground.data }, { on := 15, ground := Ground.data }], guard := none }) (d := 60) (v := ?_) rfl rfl (by kernel_rfl) (by kernel_rfl) (by kernel_rfl) (fun _ _ _ h => h) (Or.inl ⟨by rfl, ?_⟩) ?_
          rotate_left
          · (intro w' _; go_simp; (try with_reducible rfl))
          simp only [List.setIfInBounds_toArray, List.set_cons_zero, List.set_cons_succ]
          refine wpAnyD_takeP (i := 17) (oi := { dst := some 61, op := Op.move (Operand.tmp 60), type := 4, pos := "law.go:72", after := #[{ on := 16, ground := Ground.data }, { on := 14, ground := Ground.chain }], guard := none }) (d := 61) (v := ?_) rfl rfl (by kernel_rfl) (by kernel_rfl) (by kernel_rfl) (fun _ _ _ h => h) (Or.inl ⟨by rfl, ?_⟩) ?_
          rotate_left
          · (intro w' _; go_simp; (try with_reducible rfl))
          simp only [List.setIfInBounds_toArray, List.set_cons_zero, List.set_cons_succ]
          refine wpAnyD_one (i := 18) (o := { dst := some 62, op := Op.call { callee := Callee.value (Operand.func 25), args := #[], argTypes := #[] }, type := 4, pos := "law.go:72", after := #[{ on := 17, ground := Ground.chain }, { on := 17, ground := Ground.guard }], guard := some (17, true) }) (by kernel_rfl) rfl (by rfl) (fun K hK => ?_)
          go_simp; refine (awake7_any _).mono ?_; rintro e V5 ⟨rfl, hb⟩; replace HBB := Lib.hid (HBB.out.trans (hb.mono HBB.out.size)); have h := HSC.out _ HBB.out; clear hb; go_simp
          refine hK.out _ _ h (fun hHeld => ?_)
          clear hK K
          try simp only [Act.put, List.setIfInBounds_toArray, List.set_cons_zero, List.set_cons_succ]
          refine wpAnyD_takeP (i := 19) (oi := { dst := some 63, op := Op.pick (Operand.tmp 61) (Operand.tmp 62) (Operand.const (Value.bool false)), type := 4, pos := "law.go:72", after := #[{ on := 17, ground := Ground.data }, { on := 18, ground := Ground.data }], guard := none }) (d := 63) (v := ?_) rfl rfl (by kernel_rfl) (by kernel_rfl) (by kernel_rfl) (fun _ _ _ h => h) (Or.inl ⟨by rfl, ?_⟩) ?_
          rotate_left
          · (intro w' _; go_simp; (try with_reducible rfl))
          simp only [List.setIfInBounds_toArray, List.set_cons_zero, List.set_cons_succ]
          refine wpAnyD_takeP (i := 20) (oi := { dst := some 2, op := Op.assign (Operand.tmp 63), type := 4, pos := "law.go:72", after := #[{ on := 19, ground := Ground.data }, { on := 18, ground := Ground.chain }, { on := 0, ground := Ground.phase }, { on := 1, ground := Ground.phase }, { on := 2, ground := Ground.phase }, { on := 3, ground := Ground.phase }, { on := 4, ground := Ground.phase }, { on := 5, ground := Ground.phase }, { on := 6, ground := Ground.phase }, { on := 7, ground := Ground.phase }, { on := 8, ground := Ground.phase }, { on := 9, ground := Ground.phase }, { on := 10, ground := Ground.phase }, { on := 11, ground := Ground.phase }, { on := 12, ground := Ground.phase }, { on := 13, ground := Ground.phase }, { on := 14, ground := Ground.phase }, { on := 15, ground := Ground.phase }, { on := 16, ground := Ground.phase }, { on := 17, ground := Ground.phase }, { on := 18, ground := Ground.phase }, { on := 19, ground := Ground.phase }], guard := none }) (d := 2) (v := ?_) rfl rfl (by kernel_rfl) (by kernel_rfl) (by kernel_rfl) (fun _ _ _ h => h) (Or.inl ⟨by rfl, ?_⟩) ?_
          rotate_left
          · (intro w' _; go_simp; (try with_reducible rfl))
          simp only [List.setIfInBounds_toArray, List.set_cons_zero, List.set_cons_succ]
          refine wpAnyD_done (by kernel_rfl) ?_ _
          go_wp2_with fail
          go_ret
          exact ⟨rfl, HB4.out.trans (HBB.out.mono HB4.out.size)⟩
        · have h3 : k = k2 ∧ no = E := by
            rcases HFF.out with ⟨h1, h2, h3, _⟩ | ⟨_, h2⟩
            · exact absurd (HGG.out.nor _ _ _ h3 hbad) id
            · exact HGG.out.bad1 _ _ _ _ h2 hbad
          obtain ⟨rfl, rfl⟩ := h3
          have hne : (no != 0) = true := by simpa using hE
          clear hbad HC HFF HST hE
          go_upto_region 5 with fail
          generalize W4.alloc (.cells #[.slice A1 n1' c1, .slice A2 (mrgsT T').length c2] 28) = W5 at *
          have HBB := Lib.hid (below_drew1 W5)
          go_upto_region 7 with fail
          refine wp_region_D (Ds := []) (S := fun V => True) (by kernel_rfl) (by trivial) (fun hHeld => ?_)
          refine wpAnyD_takeP (i := 0) (oi := { dst := some 44, op := Op.move (Operand.tmp 8), type := 3, pos := "law.go:72", after := #[], guard := none }) (d := 44) (v := ?_) rfl rfl (by kernel_rfl) (by kernel_rfl) (by kernel_rfl) (fun _ _ _ h => h) (Or.inl ⟨by rfl, ?_⟩) ?_
          rotate_left
          · (intro w' _; go_simp; (try with_reducible rfl))
          simp only [List.setIfInBounds_toArray, List.set_cons_zero, List.set_cons_succ]
          refine wpAnyD_takeP (i := 1) (oi := { dst := some 45, op := Op.binOp BinOp.neq 3 (Operand.tmp 44) (Operand.const (Value.int IntKind.i64 0)) 3, type := 4, pos := "law.go:72", after := #[{ on := 0, ground := Ground.data }], guard := none }) (d := 45) (v := ?_) rfl rfl (by kernel_rfl) (by kernel_rfl) (by kernel_rfl) (fun _ _ _ h => h) (Or.inl ⟨by rfl, ?_⟩) ?_
          rotate_left
          · (intro w' _; go_simp; (try with_reducible rfl))
          simp only [List.setIfInBounds_toArray, List.set_cons_zero, List.set_cons_succ]
          refine wpAnyD_takeP (i := 2) (oi := { dst := some 46, op := Op.move (Operand.tmp 45), type := 4, pos := "law.go:72", after := #[{ on := 1, ground := Ground.data }], guard := none }) (d := 46) (v := ?_) rfl rfl (by kernel_rfl) (by kernel_rfl) (by kernel_rfl) (fun _ _ _ h => h) (Or.inl ⟨by rfl, ?_⟩) ?_
          rotate_left
          · (intro w' _; go_simp; (try with_reducible rfl))
          simp only [List.setIfInBounds_toArray, List.set_cons_zero, List.set_cons_succ]
          refine wpAnyD_takeP (i := 3) (oi := { dst := some 47, op := Op.move (Operand.tmp 3), type := 24, pos := "law.go:72", after := #[{ on := 2, ground := Ground.guard }], guard := some (2, true) }) (d := 47) (v := ?_) rfl rfl (by kernel_rfl) (by kernel_rfl) (by kernel_rfl) (fun _ _ _ h => h) (Or.inl ⟨by rfl, ?_⟩) ?_
          rotate_left
          · (intro w' _; go_simp; (try with_reducible rfl))
          simp only [List.setIfInBounds_toArray, List.set_cons_zero, List.set_cons_succ]
          refine wpAnyD_takeP (i := 4) (oi := { dst := some 48, op := Op.binOp BinOp.eql 24 (Operand.tmp 47) (Operand.const (Value.pointer none)) 24, type := 4, pos := "law.go:72", after := #[{ on := 3, ground := Ground.data }, { on := 2, ground := Ground.guard }], guard := some (2, true) }) (d := 48) (v := ?_) rfl rfl (by kernel_rfl) (by kernel_rfl) (by kernel_rfl) (fun _ _ _ h => h) (Or.inl ⟨by rfl, ?_⟩) ?_
          rotate_left
          · (intro w' _; go_simp; (try with_reducible rfl))
          simp only [List.setIfInBounds_toArray, List.set_cons_zero, List.set_cons_succ]
          refine wpAnyD_takeP (i := 5) (oi := { dst := some 49, op := Op.pick (Operand.tmp 46) (Operand.tmp 48) (Operand.const (Value.bool false)), type := 4, pos := "law.go:72", after := #[{ on := 2, ground := Ground.data }, { on := 4, ground := Ground.data }], guard := none }) (d := 49) (v := ?_) rfl rfl (by kernel_rfl) (by kernel_rfl) (by kernel_rfl) (fun _ _ _ h => h) (Or.inl ⟨by rfl, ?_⟩) ?_
          rotate_left
          · (intro w' _; go_simp; (try with_reducible rfl))
          simp only [List.setIfInBounds_toArray, List.set_cons_zero, List.set_cons_succ]
          refine wpAnyD_takeP (i := 6) (oi := { dst := some 50, op := Op.move (Operand.tmp 49), type := 4, pos := "law.go:72", after := #[{ on := 5, ground := Ground.data }, { on := 2, ground := Ground.chain }], guard := none }) (d := 50) (v := ?_) rfl rfl (by kernel_rfl) (by kernel_rfl) (by kernel_rfl) (fun _ _ _ h => h) (Or.inl ⟨by rfl, ?_⟩) ?_
          rotate_left
          · (intro w' _; go_simp; (try with_reducible rfl))
          simp only [List.setIfInBounds_toArray, List.set_cons_zero, List.set_cons_succ]
          refine wpAnyD_takeD (i := 7) (oi := { dst := some 51, op := Op.move (Operand.tmp 8), type := 3, pos := "law.go:72", after := #[{ on := 6, ground := Ground.guard }], guard := some (6, false) }) (d := 51) (v := undef) rfl rfl (by kernel_rfl) (by kernel_rfl) (by kernel_rfl) (by kernel_rfl) (fun _ _ _ h => h) (Or.inr ⟨by rfl, rfl⟩) hHeld ?_
          simp only [List.setIfInBounds_toArray, List.set_cons_zero, List.set_cons_succ]
          refine wpAnyD_takeD (i := 8) (oi := { dst := some 52, op := Op.binOp BinOp.eql 3 (Operand.tmp 51) (Operand.const (Value.int IntKind.i64 0)) 3, type := 4, pos := "law.go:72", after := #[{ on := 7, ground := Ground.data }, { on := 6, ground := Ground.guard }], guard := some (6, false) }) (d := 52) (v := undef) rfl rfl (by kernel_rfl) (by kernel_rfl) (by kernel_rfl) (by kernel_rfl) (fun _ _ _ h => h) (Or.inr ⟨by rfl, rfl⟩) hHeld ?_
          simp only [List.setIfInBounds_toArray, List.set_cons_zero, List.set_cons_succ]
          refine wpAnyD_takeD (i := 9) (oi := { dst := some 53, op := Op.move (Operand.tmp 52), type := 4, pos := "law.go:72", after := #[{ on := 8, ground := Ground.data }, { on := 6, ground := Ground.chain }, { on := 6, ground := Ground.guard }], guard := some (6, false) }) (d := 53) (v := undef) rfl rfl (by kernel_rfl) (by kernel_rfl) (by kernel_rfl) (by kernel_rfl) (fun _ _ _ h => h) (Or.inr ⟨by rfl, rfl⟩) hHeld ?_
          simp only [List.setIfInBounds_toArray, List.set_cons_zero, List.set_cons_succ]
          refine wpAnyD_takeD (i := 10) (oi := { dst := some 54, op := Op.move (Operand.tmp 3), type := 24, pos := "law.go:72", after := #[{ on := 9, ground := Ground.guard }], guard := some (9, true) }) (d := 54) (v := undef) rfl rfl (by kernel_rfl) (by kernel_rfl) (by kernel_rfl) (by kernel_rfl) (fun _ _ _ h => h) (Or.inr ⟨by rfl, rfl⟩) hHeld ?_
          simp only [List.setIfInBounds_toArray, List.set_cons_zero, List.set_cons_succ]
          refine wpAnyD_takeD (i := 11) (oi := { dst := some 55, op := Op.call { callee := Callee.value (Operand.func 29), args := #[Operand.tmp 54], argTypes := #[24] }, type := 26, pos := "law.go:72", after := #[{ on := 10, ground := Ground.data }, { on := 9, ground := Ground.chain }, { on := 9, ground := Ground.guard }], guard := some (9, true) }) (d := 55) (v := undef) rfl rfl (by kernel_rfl) (by kernel_rfl) (by kernel_rfl) (by kernel_rfl) (fun _ _ _ h => h) (Or.inr ⟨by rfl, rfl⟩) hHeld ?_
          simp only [List.setIfInBounds_toArray, List.set_cons_zero, List.set_cons_succ]
          refine wpAnyD_takeD (i := 12) (oi := { dst := some 56, op := Op.fieldAddr 28 (Operand.tmp 6) 1, type := 0, pos := "law.go:72", after := #[{ on := 9, ground := Ground.guard }], guard := some (9, true) }) (d := 56) (v := undef) rfl rfl (by kernel_rfl) (by kernel_rfl) (by kernel_rfl) (by kernel_rfl) (fun _ _ _ h => h) (Or.inr ⟨by rfl, rfl⟩) hHeld ?_
          simp only [List.setIfInBounds_toArray, List.set_cons_zero, List.set_cons_succ]
          refine wpAnyD_takeD (i := 13) (oi := { dst := some 57, op := Op.load 26 (Operand.tmp 56), type := 26, pos := "law.go:72", after := #[{ on := 12, ground := Ground.data }, { on := 9, ground := Ground.guard }], guard := some (9, true) }) (d := 57) (v := undef) rfl rfl (by kernel_rfl) (by kernel_rfl) (by kernel_rfl) (by kernel_rfl) (fun _ _ _ h => h) (Or.inr ⟨by rfl, rfl⟩) hHeld ?_
          simp only [List.setIfInBounds_toArray, List.set_cons_zero, List.set_cons_succ]
          refine wpAnyD_takeD (i := 14) (oi := { dst := some 58, op := Op.call { callee := Callee.value (Operand.func 28), args := #[Operand.tmp 55, Operand.tmp 57], argTypes := #[26, 26] }, type := 4, pos := "law.go:72", after := #[{ on := 11, ground := Ground.data }, { on := 13, ground := Ground.data }, { on := 11, ground := Ground.chain }, { on := 9, ground := Ground.guard }], guard := some (9, true) }) (d := 58) (v := undef) rfl rfl (by kernel_rfl) (by kernel_rfl) (by kernel_rfl) (by kernel_rfl) (fun _ _ _ h => h) (Or.inr ⟨by rfl, rfl⟩) hHeld ?_
          simp only [List.setIfInBounds_toArray, List.set_cons_zero, List.set_cons_succ]
          refine wpAnyD_takeD (i := 15) (oi := { dst := some 59, op := Op.pick (Operand.tmp 53) (Operand.tmp 58) (Operand.const (Value.bool false)), type := 4, pos := "law.go:72", after := #[{ on := 9, ground := Ground.data }, { on := 14, ground := Ground.data }, { on := 6, ground := Ground.guard }], guard := some (6, false) }) (d := 59) (v := undef) rfl rfl (by kernel_rfl) (by kernel_rfl) (by kernel_rfl) (by kernel_rfl) (fun _ _ _ h => h) (Or.inr ⟨by rfl, rfl⟩) hHeld ?_
          simp only [List.setIfInBounds_toArray, List.set_cons_zero, List.set_cons_succ]
          refine wpAnyD_takeP (i := 16) (oi := { dst := some 60, op := Op.pick (Operand.tmp 50) (Operand.const (Value.bool true)) (Operand.tmp 59), type := 4, pos := "law.go:72", after := #[{ on := 6, ground := Ground.data }, { on := 15, ground := Ground.data }], guard := none }) (d := 60) (v := ?_) rfl rfl (by kernel_rfl) (by kernel_rfl) (by kernel_rfl) (fun _ _ _ h => h) (Or.inl ⟨by rfl, ?_⟩) ?_
          rotate_left
          · (intro w' _; go_simp; (try with_reducible rfl))
          simp only [List.setIfInBounds_toArray, List.set_cons_zero, List.set_cons_succ]
          refine wpAnyD_takeP (i := 17) (oi := { dst := some 61, op := Op.move (Operand.tmp 60), type := 4, pos := "law.go:72", after := #[{ on := 16, ground := Ground.data }, { on := 14, ground := Ground.chain }], guard := none }) (d := 61) (v := ?_) rfl rfl (by kernel_rfl) (by kernel_rfl) (by kernel_rfl) (fun _ _ _ h => h) (Or.inl ⟨by rfl, ?_⟩) ?_
          rotate_left
          · (intro w' _; go_simp; (try with_reducible rfl))
          simp only [List.setIfInBounds_toArray, List.set_cons_zero, List.set_cons_succ]
          refine wpAnyD_one (i := 18) (o := { dst := some 62, op := Op.call { callee := Callee.value (Operand.func 25), args := #[], argTypes := #[] }, type := 4, pos := "law.go:72", after := #[{ on := 17, ground := Ground.chain }, { on := 17, ground := Ground.guard }], guard := some (17, true) }) (by kernel_rfl) rfl (by rfl) (fun K hK => ?_)
          go_simp; refine (awake7_any _).mono ?_; rintro e V5 ⟨rfl, hb⟩; replace HBB := Lib.hid (HBB.out.trans (hb.mono HBB.out.size)); have h := trivial; clear hb; go_simp
          refine hK.out _ _ h (fun hHeld => ?_)
          clear hK K
          try simp only [Act.put, List.setIfInBounds_toArray, List.set_cons_zero, List.set_cons_succ]
          refine wpAnyD_takeP (i := 19) (oi := { dst := some 63, op := Op.pick (Operand.tmp 61) (Operand.tmp 62) (Operand.const (Value.bool false)), type := 4, pos := "law.go:72", after := #[{ on := 17, ground := Ground.data }, { on := 18, ground := Ground.data }], guard := none }) (d := 63) (v := ?_) rfl rfl (by kernel_rfl) (by kernel_rfl) (by kernel_rfl) (fun _ _ _ h => h) (Or.inl ⟨by rfl, ?_⟩) ?_
          rotate_left
          · (intro w' _; go_simp; (try with_reducible rfl))
          simp only [List.setIfInBounds_toArray, List.set_cons_zero, List.set_cons_succ]
          refine wpAnyD_takeP (i := 20) (oi := { dst := some 2, op := Op.assign (Operand.tmp 63), type := 4, pos := "law.go:72", after := #[{ on := 19, ground := Ground.data }, { on := 18, ground := Ground.chain }, { on := 0, ground := Ground.phase }, { on := 1, ground := Ground.phase }, { on := 2, ground := Ground.phase }, { on := 3, ground := Ground.phase }, { on := 4, ground := Ground.phase }, { on := 5, ground := Ground.phase }, { on := 6, ground := Ground.phase }, { on := 7, ground := Ground.phase }, { on := 8, ground := Ground.phase }, { on := 9, ground := Ground.phase }, { on := 10, ground := Ground.phase }, { on := 11, ground := Ground.phase }, { on := 12, ground := Ground.phase }, { on := 13, ground := Ground.phase }, { on := 14, ground := Ground.phase }, { on := 15, ground := Ground.phase }, { on := 16, ground := Ground.phase }, { on := 17, ground := Ground.phase }, { on := 18, ground := Ground.phase }, { on := 19, ground := Ground.phase }], guard := none }) (d := 2) (v := ?_) rfl rfl (by kernel_rfl) (by kernel_rfl) (by kernel_rfl) (fun _ _ _ h => h) (Or.inl ⟨by rfl, ?_⟩) ?_
          rotate_left
          · (intro w' _; go_simp; (try with_reducible rfl))
          simp only [List.setIfInBounds_toArray, List.set_cons_zero, List.set_cons_succ]
          refine wpAnyD_done (by kernel_rfl) ?_ _
          go_wp2_with fail
          go_ret
          exact ⟨rfl, HB4.out.trans (HBB.out.mono HB4.out.size)⟩
end
theorem gload_law (rk : Bool) (ms : List (List Int)) (AM : Option Addr) (cM : Nat) (toks : List (List UInt8)) (AT : Option Addr) (cT : Nat) (sp : List (Int × List UInt8)) (AX : Option Addr) (cX : Nat) (cl : List (List Int)) (AC : Option Addr) (cC : Nat) (jl : List (List Int)) (AJ : Option Addr) (cJ : Nat) (w : World)
    (_ : ms.length ≤ cM) (_ : cM ≤ maxLen) (hm : ∀ y ∈ ms, y.length = 2 ∧ ∀ z ∈ y, (Lit.int .i64 z).wf = true) (sm : Sl w AM (encInts .i64) 2 ms)
    (lt : toks.length ≤ cT) (mt : cT ≤ maxLen) (_ : ∀ y ∈ toks, y.length ≤ maxLen) (st : Sl1 w AT strV toks)
    (_ : sp.length ≤ cX) (_ : cX ≤ maxLen) (_ : ∀ y ∈ sp, (Lit.int .i64 y.1).wf = true ∧ y.2.length ≤ maxLen) (sx : Sl w AX encIS 2 sp)
    (_ : cl.length ≤ cC) (_ : cC ≤ maxLen) (_ : ∀ y ∈ cl, y.length = 3 ∧ ∀ z ∈ y, (Lit.int .i64 z).wf = true) (_ : Sl w AC (encInts .i64) 3 cl)
    (_ : jl.length ≤ cJ) (_ : cJ ≤ maxLen) (_ : ∀ y ∈ jl, y.length = 2 ∧ ∀ z ∈ y, (Lit.int .i64 z).wf = true) (_ : Sl w AJ (encInts .i64) 2 jl) :
    Calls Try.prog 7 #[specV rk AM ms.length cM AT toks.length cT AX sp.length cX AC cl.length cC AJ jl.length cJ] w (RetTrue w) := by
  rw [show ms.length = (ms.map toPr).length by simp]
  have hM : Sl w AM encM 2 (ms.map toPr) := sl_pairs hm sm
  cases rk with
  | true =>
    refine gload_main (N := toks.length) toks sp st rfl (Nat.le_trans lt mt) sx rfl (bad_imps toks) ?_ ?_
    · intro hf hn W hW
      obtain ⟨hs, hl⟩ := (fewT_iff toks).1 hf
      refine load_true rfl (fun V hV => (import_any toks AT cT V (st.below (hW.trans (hV.mono hW.size)) (Nat.le_refl _)) (by omega) (fun s h => Nat.le_trans (hs s h) (by decide))).mono ?_)
      rintro e w' ⟨hb, (⟨T, tb, sv, mb, mp, rfl, ha, hok, ht⟩ | ⟨k, hk, T', ha, hok, he, rfl⟩)⟩
      · exact ⟨_, _, _, rfl, hV.trans (hb.mono hV.size), .inl ⟨T, tb, sv, mb, mp, rfl, rfl, rfl, ha, hok, ht.less hV.size⟩⟩
      · exact ⟨_, _, _, rfl, hV.trans (hb.mono hV.size), .inr ⟨k, _, rfl, rfl, rfl, he, hk, T', ha, rfl, he⟩⟩
    · intro hf hn W hW
      obtain ⟨hs, hl⟩ := (fewT_iff toks).1 hf
      refine rload_true rfl (fun V hV => (rimport_any toks AT cT V (st.below (hW.trans (hV.mono hW.size)) (Nat.le_refl _)) (by omega) (fun s h => Nat.le_trans (hs s h) (by decide))).mono ?_)
      rintro e w' ⟨hb, k, T, A1, n1, c1, A2, n2, c2, no, rfl, href, hok, himp, hno⟩
      refine ⟨hb, k, T, A1, n1, c1, A2, n2, c2, no, rfl, href, ?_⟩
      rcases hno with ⟨rfl, rfl⟩ | ⟨hk, rfl, hne⟩
      · rw [List.take_length] at himp
        exact .inl ⟨rfl, rfl, himp, hok⟩
      · exact .inr ⟨hne, hk, T, himp, rfl, hne⟩
  | false =>
    refine gload_main (N := (ms.map toPr).length) toks sp st rfl (Nat.le_trans lt mt) sx rfl (bad_adds (ms.map toPr)) ?_ ?_
    · intro hf hn W hW
      refine load_false rfl (fun V hV => ?_)
      have hnew := new_any (ms.map toPr) AM cM V (hM.below (hW.trans (hV.mono hW.size)) (Nat.le_refl _)) (by omega)
      refine hnew.mono ?_
      rintro e w' ⟨hb, (⟨T, tb, sv, mb, mp, rfl, ha, hok, ht⟩ | ⟨k, hk, T', ha, hok, he, rfl⟩)⟩
      · exact ⟨_, _, _, rfl, hV.trans (hb.mono hV.size), .inl ⟨T, tb, sv, mb, mp, rfl, rfl, rfl, ha, hok, ht.less hV.size⟩⟩
      · exact ⟨_, _, _, rfl, hV.trans (hb.mono hV.size), .inr ⟨k, _, rfl, rfl, rfl, he, hk, T', ha, rfl, he⟩⟩
    · intro hf hn W hW
      refine rload_false rfl (fun V hV => ?_)
      have hnew := rnew_any (ms.map toPr) AM cM V (hM.below (hW.trans (hV.mono hW.size)) (Nat.le_refl _)) (by omega)
      refine hnew.mono ?_
      rintro e w' ⟨hb, k, T, A1, n1, c1, A2, n2, c2, no, rfl, href, hok, himp, hno⟩
      refine ⟨hb, k, T, A1, n1, c1, A2, n2, c2, no, rfl, href, ?_⟩
      rcases hno with ⟨rfl, rfl⟩ | ⟨hk, rfl, hne⟩
      · rw [List.take_length] at himp
        exact .inl ⟨rfl, rfl, himp, hok⟩
      · exact .inr ⟨hne, hk, T, himp, rfl, hne⟩
end Go.Proofs.Ytpkmcokkapfnmaa
/- GrowLoads returns true for every spec, and its argument read afterwards is as before. -/
namespace Go.Proofs.Ytpkmcokkapfnmaa.growLoads
open Go.ChangeShapes Go.WideShapes Go.ChangeAt Go.RowKit Go.Joins
open Go.ChangeMaps (open_string shut_string)
set_option linter.unusedVariables false

theorem own : ownKnob Try.prog.godebug = none := by kernel_rfl
theorem laidOut : laidOutB Try.prog = true := by kernel_rfl

set_option maxRecDepth 100000 in
theorem lifted (os : Os) (started : os.Started) (H : Type) (enc : TypeId × Value → H) :
    ReturnsInHanded {} Try.checked os 7 .any (Rows.growLoadsSpec.pre6 enc Try.prog Try.f7 Rows.growLoadsRow.domain false) (Rows.growLoadsSpec.post enc Try.prog Try.f7 false true false false) := by
  refine returnsInHanded_of_change (C := Try.checked) own started (by kernel_rfl) Try.func7
    (ChangeSpec.witness6 (enc := enc) (C := Try.checked) false ⟨#[], #[.agg #[.bool false, .slice none 0 0, .slice none 0 0, .slice none 0 0, .slice none 0 0, .slice none 0 0]], []⟩ 8 (by kernel_rfl) (by kernel_rfl) (by kernel_rfl) (by kernel_rfl)) ?_
  intro W base args ds gs before hval0 hW hcnd _
  have hval : ∀ (j : Nat) t v, Try.f7.params[j]? = some t → args[j]? = some v → Value.okWide Try.prog W .any base t v := hval0
  have hW' := hW
  obtain ⟨p, q, hA0, hV, rfl, hfz, hnd⟩ := hW
  have hA : DataW.TrodAll enc Try.prog W 0 (fun _ => true) true Try.f7.params.toList args.toList ds p := hA0
  rw [Try.params7] at hA hval
  obtain ⟨v0, vs0, d0, ds0, p0, q0, hargs, rfl, rfl, h0, r0⟩ := trodAll_cons hA
  obtain ⟨rfl, rfl, rfl⟩ := trodAll_nil r0
  obtain rfl : args = #[v0] := by cases args; simp_all
  obtain ⟨rfl, rfl⟩ := trodVars_none hV
  have k0 := h0
  have lt0 : ∀ x ∈ p0, x.block < W.heap.size := by obtain ⟨m, hm⟩ := k0; exact DataW.trod_lt m _ _ _ hm
  obtain ⟨vs0, m0, rfl, hl0, hf0⟩ := open_fields Try.underlying53 (by kernel_rfl) (by kernel_rfl) (hval 0 53 v0 rfl rfl) h0
  obtain ⟨z0_0, z0_1, z0_2, z0_3, z0_4, z0_5, rfl⟩ := list6 hl0
  clear hl0
  obtain ⟨zz0_0, y0_0, ez0_0, t0_0⟩ := hf0 0 _ rfl
  simp only [List.getElem?_cons_zero, List.getElem?_cons_succ, Option.some.injEq] at ez0_0
  subst ez0_0
  obtain ⟨b0_0, e0_0, _⟩ := DataW.trod_bool Try.underlying4 t0_0
  simp only [List.cons.injEq, and_true] at e0_0
  subst e0_0
  obtain ⟨zz0_1, y0_1, ez0_1, t0_1⟩ := hf0 1 _ rfl
  simp only [List.getElem?_cons_zero, List.getElem?_cons_succ, Option.some.injEq] at ez0_1
  subst ez0_1
  obtain ⟨a0_1, n0_1, c0_1, e0_1⟩ := slice_form Try.underlying26 t0_1
  simp only [List.cons.injEq, and_true] at e0_1
  subst e0_1
  obtain ⟨x0_1, rfl, l0_1, m0_1, w0_1, s0_1⟩ := arg_structs Try.underlying26 Try.underlying71 (by kernel_rfl) (by kernel_rfl) (by intro j f h; rcases j with _ | _ | j <;> simp at h <;> subst h <;> exact Try.underlying3) (by decide) t0_1
  obtain ⟨zz0_2, y0_2, ez0_2, t0_2⟩ := hf0 2 _ rfl
  simp only [List.getElem?_cons_zero, List.getElem?_cons_succ, Option.some.injEq] at ez0_2
  subst ez0_2
  obtain ⟨a0_2, n0_2, c0_2, e0_2⟩ := slice_form Try.underlying25 t0_2
  simp only [List.cons.injEq, and_true] at e0_2
  subst e0_2
  obtain ⟨x0_2, rfl, l0_2, m0_2, w0_2, s0_2⟩ := arg_strs Try.underlying25 Try.underlying9 (by kernel_rfl) t0_2
  obtain ⟨zz0_3, y0_3, ez0_3, t0_3⟩ := hf0 3 _ rfl
  simp only [List.getElem?_cons_zero, List.getElem?_cons_succ, Option.some.injEq] at ez0_3
  subst ez0_3
  obtain ⟨a0_3, n0_3, c0_3, e0_3⟩ := slice_form Try.underlying49 t0_3
  simp only [List.cons.injEq, and_true] at e0_3
  subst e0_3
  obtain ⟨x0_3, rfl, l0_3, m0_3, w0_3, s0_3⟩ := arg_pairs Try.underlying49 Try.underlying86 (by kernel_rfl) (by kernel_rfl) Try.underlying3 Try.underlying9 t0_3
  obtain ⟨zz0_4, y0_4, ez0_4, t0_4⟩ := hf0 4 _ rfl
  simp only [List.getElem?_cons_zero, List.getElem?_cons_succ, Option.some.injEq] at ez0_4
  subst ez0_4
  obtain ⟨a0_4, n0_4, c0_4, e0_4⟩ := slice_form Try.underlying50 t0_4
  simp only [List.cons.injEq, and_true] at e0_4
  subst e0_4
  obtain ⟨x0_4, rfl, l0_4, m0_4, w0_4, s0_4⟩ := arg_structs Try.underlying50 Try.underlying142 (by kernel_rfl) (by kernel_rfl) (by intro j f h; rcases j with _ | _ | _ | j <;> simp at h <;> subst h <;> exact Try.underlying3) (by decide) t0_4
  obtain ⟨zz0_5, y0_5, ez0_5, t0_5⟩ := hf0 5 _ rfl
  simp only [List.getElem?_cons_zero, List.getElem?_cons_succ, Option.some.injEq] at ez0_5
  subst ez0_5
  obtain ⟨a0_5, n0_5, c0_5, e0_5⟩ := slice_form Try.underlying51 t0_5
  simp only [List.cons.injEq, and_true] at e0_5
  subst e0_5
  obtain ⟨x0_5, rfl, l0_5, m0_5, w0_5, s0_5⟩ := arg_structs Try.underlying51 Try.underlying143 (by kernel_rfl) (by kernel_rfl) (by intro j f h; rcases j with _ | _ | j <;> simp at h <;> subst h <;> exact Try.underlying3) (by decide) t0_5
  clear hA0 hval0
  refine (gload_law b0_0 x0_1 a0_1 c0_1 x0_2 a0_2 c0_2 x0_3 a0_3 c0_3 x0_4 a0_4 c0_4 x0_5 a0_5 c0_5 W l0_1 m0_1 w0_1 s0_1 l0_2 m0_2 w0_2 s0_2 l0_3 m0_3 w0_3 s0_3 l0_4 m0_4 w0_4 s0_4 l0_5 m0_5 w0_5 s0_5).mono fun e W' ⟨he, bel⟩ => ?_
  subst he
  exact ⟨_, rfl, _, _, _, [], _, [], hW', trodAll_mk1 (shut_bool Try.underlying4 _), (trodAll_cons_mk (Below.trod laidOut (by kernel_rfl) (of_decide_eq_true (by kernel_rfl)) k0 bel lt0) trodAll_mk0), rfl, bel.frame _, fun h => by cases h⟩

theorem over : Rows.growLoadsRow.holds Try.pinned (OpenSpec.ofChange Rows.growLoadsSpec) :=
  OpenClaim.holds_of_wide 7 Try.f7 rfl rfl rfl rfl rfl rfl rfl ⟨rfl, rfl, rfl, rfl, rfl⟩ rfl rfl rfl rfl rfl (by kernel_rfl) Try.func7 (by kernel_rfl)
    (of_decide_eq_true (by kernel_rfl)) (by unfold Func.isWrapper; first | (rw [if_pos (by decide +kernel)]; kernel_rfl) | (rw [if_neg (by decide +kernel)]; exact ⟨rfl, rfl⟩))
    (fun os started H enc _ => lifted os started H enc)
end Go.Proofs.Ytpkmcokkapfnmaa.growLoads
namespace Go.Proofs.Ytpkmcokkapfnmaa
theorem growLoads_holds : Rows.GrowLoadsSaid := growLoads.over
#print axioms growLoads_holds
end Go.Proofs.Ytpkmcokkapfnmaa
