/- BoundTables: any byte's class, and whether it is cut between any two; or that the classes and joins aren't right: the walk. -/
import Derived.Test.YtdppdjiigecjoaaBoundLaw0
namespace Go.Proofs.Ytdppdjiigecjoaa
open Go.RowKit
set_option maxRecDepth 100000
set_option linter.unusedVariables false
set_option linter.unusedSimpArgs false

theorem cutB_same (C : Nat → Int) (J : Nat → Nat → Bool) (a : Nat) : cutB C J a a = false := by simp [cutB]
theorem cls_any (bk : Nat) (C : Nat → Int) (J : Nat → Nat → Bool) (a : Int) (w : World) (h0 : 0 ≤ a) (ha : a < 256) (h : BTab w bk C J) :
    Calls Try.prog 23 #[.pointer (some ⟨bk, 0, none⟩), .int .u8 a] w fun e w' => e = .returned (.int .i64 (C a.toNat)) ∧ ∃ m, w' = w.drewN m := by
  obtain ⟨a, rfl⟩ := Int.eq_ofNat_of_zero_le h0
  exact cls_tab bk C J a w (by omega) h

/-- behind New and the document's table m at block g -/
structure LTT (w0 : World) (cs : List Cls) (js : List Jn) (A B : Option Addr) (bk : Nat) (w : World) : Prop where
  tab : RTab w0 cs js A B w
  bt : BTab w bk (Cof cs) (Jof js)
theorem LTT.step {w0 w w' : World} {cs : List Cls} {js : List Jn} {A B : Option Addr} {bk : Nat} (h : LTT w0 cs js A B bk w) (hb : Below w.heap.size w w') : LTT w0 cs js A B bk w' :=
  ⟨h.tab.step hb, h.bt.below hb (blk_lt h.bt.1)⟩

set_option maxHeartbeats 4000000 in
theorem btab_right (cs : List Cls) (js : List Jn) (A B : Option Addr) (cA cB : Nat) (a b : Int) (w : World) (hA : Sl w A encCls 3 cs) (hB : Sl w B encJn 2 js) (hcs : cs.length ≤ 100) (hjs : js.length ≤ 100) (ha0 : 0 ≤ a) (ha : a < 256) (hb0 : 0 ≤ b) (hb : b < 256)
    (hr1 : cs.all spanB = true) (hr2 : js.all jnB = true) :
    Calls Try.prog 5 #[.slice A cs.length cA, .slice B js.length cB, .int .u8 a, .int .u8 b] w (RetTrue w) := by
  have HN := Lib.hid (new_any cs js A B cA cB w hA hB (by omega) (by omega))
  have HR1 := Lib.hid hr1
  have HR2 := Lib.hid hr2
  have H0 := Lib.hid (show RTab w cs js A B w from ⟨Below.refl _ _, hA, hB⟩)
  clear hA hB hr1 hr2
  go_enter Try.func5, Try.ntmps5
  go_wp2_with fail
  refine HN.out.mono ?_
  rintro e w1 ⟨hb1, h⟩
  rw [if_pos (by rw [HR1.out, HR2.out]; rfl)] at h
  obtain ⟨bk, hbk, rfl, ht⟩ := h
  have hs1 := hb1.size
  have HT := Lib.hid (show LTT w cs js A B bk w1 from ⟨H0.out.step hb1, ht⟩)
  clear HN hb1 ht
  go_wp2_with fail
  have HT2 := Lib.hid (HT.out.step ((Below.refl w1.heap.size w1).alloc (Nat.le_refl _) (.cells #[.slice A cs.length cA, .slice B js.length cB] 30)))
  refine (right_any cs js A B cA cB _ HT2.out.tab.cl HT2.out.tab.jn (by omega) (by omega)).mono ?_
  rw [HR1.out, HR2.out]
  rintro e w2 ⟨rfl, hb2⟩
  have hs2 := hb2.size
  rw [size_alloc] at hs2
  have HT3 := Lib.hid (HT2.out.step hb2)
  have hg := blk_below hb2 (by simp) (blk_new w1 (.cells #[.slice A cs.length cA, .slice B js.length cB] 30))
  have c0 := blk_cell hg 0
  have c1 := blk_cell hg 1
  simp only [List.getElem?_toArray, List.getElem?_cons_zero, List.getElem?_cons_succ] at c0 c1
  clear hb2 HT2 HT hg
  generalize w1.heap.size = g at *
  have HC1 : ∀ (x : Int) (W : World), 0 ≤ x → x < 256 → W.cell? ⟨g, 0, none⟩ = some (.slice A cs.length cA) ∧ W.cell? ⟨g, 1, none⟩ = some (.slice B js.length cB) ∧ LTT w cs js A B bk W →
      Calls Try.prog 23 #[.pointer (some ⟨bk, 0, none⟩), .int .u8 x] W fun e W' => e = .returned (.int .i64 (Cof cs x.toNat)) ∧ W'.cell? ⟨g, 0, none⟩ = some (.slice A cs.length cA) ∧ W'.cell? ⟨g, 1, none⟩ = some (.slice B js.length cB) ∧ LTT w cs js A B bk W' := by
    rintro x W h1 h2 ⟨h3, h4, h5⟩
    refine (cls_any bk _ _ x W h1 h2 h5.bt).mono ?_
    rintro e W' ⟨rfl, m, rfl⟩
    exact ⟨rfl, h3, h4, h5.step (below_drewN (Below.refl _ _) m)⟩
  have HC2 : ∀ (x : Int) (W : World), 0 ≤ x → x < 256 → W.cell? ⟨g, 0, none⟩ = some (.slice A cs.length cA) ∧ W.cell? ⟨g, 1, none⟩ = some (.slice B js.length cB) ∧ LTT w cs js A B bk W →
      Calls Try.prog 24 #[.agg #[.slice A cs.length cA, .slice B js.length cB], .int .u8 x] W fun e W' => e = .returned (.int .i64 (Cof cs x.toNat)) ∧ W'.cell? ⟨g, 0, none⟩ = some (.slice A cs.length cA) ∧ W'.cell? ⟨g, 1, none⟩ = some (.slice B js.length cB) ∧ LTT w cs js A B bk W' := by
    rintro x W h1 h2 ⟨h3, h4, h5⟩
    obtain ⟨x, rfl⟩ := Int.eq_ofNat_of_zero_le h1
    refine (rcls_any cs A _ cA x W h5.tab.cl (by omega) (by omega) rfl).mono ?_
    rintro e W' ⟨rfl, hbW⟩
    exact ⟨rfl, below_cell hbW (Nat.le_refl _) h3, below_cell hbW (Nat.le_refl _) h4, h5.step hbW⟩
  have HC3 : ∀ (x y : Int) (W : World), 0 ≤ x → x < 256 → 0 ≤ y → y < 256 → W.cell? ⟨g, 0, none⟩ = some (.slice A cs.length cA) ∧ W.cell? ⟨g, 1, none⟩ = some (.slice B js.length cB) ∧ LTT w cs js A B bk W →
      Calls Try.prog 25 #[.pointer (some ⟨bk, 0, none⟩), .int .u8 x, .int .u8 y] W fun e W' => e = .returned (.bool (cutB (Cof cs) (Jof js) x.toNat y.toNat)) ∧ W'.cell? ⟨g, 0, none⟩ = some (.slice A cs.length cA) ∧ W'.cell? ⟨g, 1, none⟩ = some (.slice B js.length cB) ∧ LTT w cs js A B bk W' := by
    rintro x y W h1 h2 k1 k2 ⟨h3, h4, h5⟩
    refine (cuts_any _ _ x y W h1 h2 k1 k2 (.inr ⟨bk, _, _, rfl, h5.bt, rfl⟩)).mono ?_
    rintro e W' ⟨rfl, m, rfl⟩
    exact ⟨rfl, h3, h4, h5.step (below_drewN (Below.refl _ _) m)⟩
  have HC4 : ∀ (x y : Int) (W : World), 0 ≤ x → x < 256 → 0 ≤ y → y < 256 → W.cell? ⟨g, 0, none⟩ = some (.slice A cs.length cA) ∧ W.cell? ⟨g, 1, none⟩ = some (.slice B js.length cB) ∧ LTT w cs js A B bk W →
      Calls Try.prog 18 #[.agg #[.slice A cs.length cA, .slice B js.length cB], .int .u8 x, .int .u8 y] W fun e W' => e = .returned (.bool (cutB (Cof cs) (Jof js) x.toNat y.toNat)) ∧ W'.cell? ⟨g, 0, none⟩ = some (.slice A cs.length cA) ∧ W'.cell? ⟨g, 1, none⟩ = some (.slice B js.length cB) ∧ LTT w cs js A B bk W' := by
    rintro x y W h1 h2 k1 k2 ⟨h3, h4, h5⟩
    refine (rcuts_any cs js A B cA cB x y W h5.tab.cl h5.tab.jn (by omega) (by omega) h1 h2 k1 k2 HR1.out).mono ?_
    rintro e W' ⟨rfl, hbW⟩
    exact ⟨rfl, below_cell hbW (Nat.le_refl _) h3, below_cell hbW (Nat.le_refl _) h4, h5.step hbW⟩
  have HC5 : ∀ (W : World), W.cell? ⟨g, 0, none⟩ = some (.slice A cs.length cA) ∧ W.cell? ⟨g, 1, none⟩ = some (.slice B js.length cB) ∧ LTT w cs js A B bk W →
      Calls Try.prog 14 #[] W fun e W' => e = .returned (.bool true) ∧ W'.cell? ⟨g, 0, none⟩ = some (.slice A cs.length cA) ∧ W'.cell? ⟨g, 1, none⟩ = some (.slice B js.length cB) ∧ LTT w cs js A B bk W' := by
    rintro W ⟨h3, h4, h5⟩
    refine (bawake W).mono ?_
    rintro e W' ⟨rfl, hbW⟩
    exact ⟨rfl, below_cell hbW (Nat.le_refl _) h3, below_cell hbW (Nat.le_refl _) h4, h5.step hbW⟩
  have K1 := Lib.hid HC1
  have K2 := Lib.hid HC2
  have K3 := Lib.hid HC3
  have K4 := Lib.hid HC4
  have K5 := Lib.hid HC5
  have hne : (cutB (Cof cs) (Jof js) a.toNat a.toNat) = false := cutB_same _ _ _
  clear HC1 HC2 HC3 HC4 HC5
  go_wp2_with fail
  go_region_held3 (fun w' => w'.cell? ⟨g, 0, none⟩ = some (.slice A cs.length cA) ∧ w'.cell? ⟨g, 1, none⟩ = some (.slice B js.length cB) ∧ LTT w cs js A B bk w') (first | exact ⟨c0, c1, HT3.out.step (Below.refl _ _).drew⟩ | assumption)
    (first
      | (go_at_call 23; refine (K1.out _ _ (by omega) (by omega) (by assumption)).mono ?_; rintro e w' ⟨rfl, h⟩)
      | (go_at_call 24; refine (K2.out _ _ (by omega) (by omega) (by assumption)).mono ?_; rintro e w' ⟨rfl, h⟩)
      | (go_at_call 25; refine (K3.out _ _ _ (by omega) (by omega) (by omega) (by omega) (by assumption)).mono ?_; rintro e w' ⟨rfl, h⟩)
      | (go_at_call 18; refine (K4.out _ _ _ (by omega) (by omega) (by omega) (by omega) (by assumption)).mono ?_; rintro e w' ⟨rfl, h⟩)
      | (go_at_call 14; refine (K5.out _ (by assumption)).mono ?_; rintro e w' ⟨rfl, h⟩))
  all_goals
    go_wp2_with fail
    go_ret
    exact ⟨by simp [hne], h.2.2.tab.below⟩

set_option maxHeartbeats 1000000 in
theorem btab_wrong (cs : List Cls) (js : List Jn) (A B : Option Addr) (cA cB : Nat) (a b : Int) (w : World) (hA : Sl w A encCls 3 cs) (hB : Sl w B encJn 2 js) (hcs : cs.length ≤ 100) (hjs : js.length ≤ 100)
    (hr : (cs.all spanB && js.all jnB) = false) :
    Calls Try.prog 5 #[.slice A cs.length cA, .slice B js.length cB, .int .u8 a, .int .u8 b] w (RetTrue w) := by
  have HN := Lib.hid (new_any cs js A B cA cB w hA hB (by omega) (by omega))
  have HR := Lib.hid hr
  have H0 := Lib.hid (show RTab w cs js A B w from ⟨Below.refl _ _, hA, hB⟩)
  clear hA hB hr
  go_enter Try.func5, Try.ntmps5
  go_wp2_with fail
  refine HN.out.mono ?_
  rintro e w1 ⟨hb1, h⟩
  rw [if_neg (by rw [HR.out]; simp)] at h
  obtain rfl := h
  have HT := Lib.hid (H0.out.step hb1)
  clear HN hb1
  go_wp2_with fail
  have HT2 := Lib.hid (HT.out.step ((Below.refl w1.heap.size w1).alloc (Nat.le_refl _) (.cells #[.slice A cs.length cA, .slice B js.length cB] 30)))
  refine (right_any cs js A B cA cB _ HT2.out.cl HT2.out.jn (by omega) (by omega)).mono ?_
  rw [HR.out]
  rintro e w2 ⟨rfl, hb2⟩
  have HT3 := Lib.hid (HT2.out.step hb2)
  clear hb2 HT2 HT
  go_wp2_with fail
  refine (bawake _).mono ?_
  rintro e w3 ⟨rfl, hb3⟩
  have HT4 := Lib.hid (HT3.out.step hb3)
  clear hb3 HT3
  go_wp2_with fail
  go_ret
  exact ⟨by simp, HT4.out.below⟩

theorem btab_large (A B : Option Addr) (nA nB cA cB : Nat) (a b : Int) (w : World) (h : 100 < nA ∨ 100 < nB) :
    Calls Try.prog 5 #[.slice A nA cA, .slice B nB cB, .int .u8 a, .int .u8 b] w (RetTrue w) := by
  by_cases h1 : 100 < nA
  · have h2 : (100 : Int) < (nA : Int) := by omega
    clear h
    go_enter Try.func5, Try.ntmps5
    go_wp2_with fail
    refine (bawake _).mono ?_
    rintro e w3 ⟨rfl, hb3⟩
    go_wp2_with fail
    go_ret
    exact ⟨by simp, hb3⟩
  · have h2 : (nA : Int) ≤ 100 := by omega
    have h3 : (100 : Int) < (nB : Int) := by omega
    clear h h1
    go_enter Try.func5, Try.ntmps5
    go_wp2_with fail
    refine (bawake _).mono ?_
    rintro e w3 ⟨rfl, hb3⟩
    go_wp2_with fail
    go_ret
    exact ⟨by simp, hb3⟩

theorem btab_law (x0 : List (List Int)) (A : Option Addr) (cA : Nat) (x1 : List (List Int)) (B : Option Addr) (cB : Nat) (a b : Int) (w : World)
    (_ : x0.length ≤ cA) (_ : cA ≤ maxLen) (h0 : ∀ y ∈ x0, y.length = 3 ∧ ∀ z ∈ y, (Lit.int .i64 z).wf = true) (hA : Sl w A (encInts .i64) 3 x0)
    (_ : x1.length ≤ cB) (_ : cB ≤ maxLen) (h1 : ∀ y ∈ x1, y.length = 2 ∧ ∀ z ∈ y, (Lit.int .i64 z).wf = true) (hB : Sl w B (encInts .i64) 2 x1)
    (wa : (Lit.int .u8 a).wf = true) (wb : (Lit.int .u8 b).wf = true) :
    Calls Try.prog 5 #[.slice A x0.length cA, .slice B x1.length cB, .int .u8 a, .int .u8 b] w (RetTrue w) := by
  have ba := bounds_u8 wa
  have bb := bounds_u8 wb
  by_cases h : 100 < x0.length ∨ 100 < x1.length
  · exact btab_large A B _ _ cA cB a b w h
  · have hA' := sl_map toCls hA (fun x hx => enc_toCls x (h0 x hx).1)
    have hB' := sl_map toJn hB (fun x hx => enc_toJn x (h1 x hx).1)
    have e0 : x0.length = (x0.map toCls).length := by simp
    have e1 : x1.length = (x1.map toJn).length := by simp
    rw [e0, e1]
    rw [e0, e1] at h
    cases hr : ((x0.map toCls).all spanB && (x1.map toJn).all jnB) with
    | true =>
      rw [Bool.and_eq_true] at hr
      exact btab_right _ _ A B cA cB a b w hA' hB' (by omega) (by omega) (by omega) (by omega) (by omega) (by omega) hr.1 hr.2
    | false => exact btab_wrong _ _ A B cA cB a b w hA' hB' (by omega) (by omega) hr
end Go.Proofs.Ytdppdjiigecjoaa
