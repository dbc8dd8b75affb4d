/- BoundPieces: the pieces of any bytes, whether they are one, whether it is cut between any two texts: the walk. -/
import Derived.Test.YtdppdjiigecjoaaBoundLaw0
namespace Go.Proofs.Ytdppdjiigecjoaa
open Go.RowKit
set_option maxRecDepth 100000
set_option linter.unusedVariables false
set_option linter.unusedSimpArgs false

structure LPF (w0 : World) (cs : List Cls) (js : List Jn) (A B : Option Addr) (p : Option Addr) (A12 : Option Addr) (ps : List (List UInt8)) (w : World) : Prop where
  lt : LT w0 cs js A B p w
  sl : Sl1 w A12 strV ps
theorem LPF.step {w0 w w' : World} {cs : List Cls} {js : List Jn} {A B p A12 : Option Addr} {ps : List (List UInt8)} (h : LPF w0 cs js A B p A12 ps w) (hb : Below w.heap.size w w') : LPF w0 cs js A B p A12 ps w' :=
  ⟨h.lt.step hb, h.sl.below hb (Nat.le_refl _)⟩

theorem whole_eq (n : Nat) : decide (n ≤ 1) = decide ((n : Int) < 2) := by
  rw [decide_eq_decide]; omega

theorem betB_nil {cut : Nat → Nat → Bool} {s u : ByteArray} (h : s.size = 0 ∨ u.size = 0) : betB cut s.data.toList u.data.toList = false := by
  rcases h with h | h
  · have : s.data.toList = [] := List.eq_nil_of_length_eq_zero (by rw [data_len]; exact h)
    simp [betB, this]
  · have : u.data.toList = [] := List.eq_nil_of_length_eq_zero (by rw [data_len]; exact h)
    simp only [betB, this, List.head?_nil]; split <;> first | rfl | contradiction
theorem betB_some {cut : Nat → Nat → Bool} {s u : ByteArray} (k : Nat) (h1 : s.size = k + 1) (h2 : 0 < u.size) (hk : k < s.size) : betB cut s.data.toList u.data.toList = cut (s[k]'hk).toNat u[0].toNat := by
  unfold betB
  rw [List.getLast?_eq_getElem?, List.head?_eq_getElem?, data_len, h1, Nat.add_sub_cancel, List.getElem?_eq_getElem (by rw [data_len]; omega), List.getElem?_eq_getElem (by rw [data_len]; omega)]
  rfl

set_option maxHeartbeats 4000000 in
theorem bpcs_right (cs : List Cls) (js : List Jn) (A B : Option Addr) (cA cB : Nat) (s u : ByteArray) (w : World) (hA : Sl w A encCls 3 cs) (hB : Sl w B encJn 2 js) (hcs : cs.length ≤ 100) (hjs : js.length ≤ 100) (hs : s.size ≤ 300) (hu : u.size ≤ 300)
    (hr1 : cs.all spanB = true) (hr2 : js.all jnB = true) :
    Calls Try.prog 3 #[.slice A cs.length cA, .slice B js.length cB, .string s, .string u] w (RetTrue w) := by
  have HR1 := Lib.hid hr1
  have HR2 := Lib.hid hr2
  have H0 := Lib.hid (show RTab w cs js A B w from ⟨Below.refl _ _, hA, hB⟩)
  clear hA hB hr1 hr2
  go_enter Try.func3, Try.ntmps3
  go_wp2_with fail
  refine (bawake _).mono ?_
  rintro e w0 ⟨rfl, hb0⟩
  have H00 := Lib.hid (H0.out.step hb0)
  clear H0 hb0
  go_wp2_with fail
  refine (new_ok cs js A B cA cB w0 H00.out.cl H00.out.jn (by omega) (by omega) HR1.out HR2.out).mono ?_
  rintro e w1 ⟨hb1, bk, hbk, rfl, ht⟩
  have HT := Lib.hid (show LT w cs js A B (some ⟨bk, 0, none⟩) w1 from ⟨H00.out.step hb1, ht⟩)
  clear hb1 ht H00 hbk
  go_wp2_with fail
  have HT2 := Lib.hid (HT.out.step ((Below.refl w1.heap.size w1).alloc (Nat.le_refl _) (.cells #[.slice A cs.length cA, .slice B js.length cB] 30)))
  refine (rpieces_any cs js A B cA cB s _ HT2.out.tab.cl HT2.out.tab.jn (by omega) (by omega) HR1.out (by omega)).mono ?_
  rintro e w2 ⟨v, rfl, hb2, ho2⟩
  obtain ⟨A12, c12, rfl⟩ := own_slice ho2
  have hg := blk_below hb2 (by simp) (blk_new w1 (.cells #[.slice A cs.length cA, .slice B js.length cB] 30))
  have c0 := blk_cell hg 0
  have c1 := blk_cell hg 1
  simp only [List.getElem?_toArray, List.getElem?_cons_zero, List.getElem?_cons_succ] at c0 c1
  have HT3 := Lib.hid (show LPF w cs js A B (some ⟨bk, 0, none⟩) A12 (pcs (cutB (Cof cs) (Jof js)) s.data.toList) w2 from ⟨HT2.out.step hb2, own_sl1 ho2⟩)
  clear hb2 HT2 HT hg ho2
  generalize w1.heap.size = g at *
  have hpl := length_pcs_le (cutB (Cof cs) (Jof js)) s.data.toList
  rw [data_len] at hpl
  go_upto_region 8 with fail
  go_cut [13] (fun v W => v = .bool (betB (cutB (Cof cs) (Jof js)) s.data.toList u.data.toList) ∧ LPF w cs js A B (some ⟨bk, 0, none⟩) A12 (pcs (cutB (Cof cs) (Jof js)) s.data.toList) W)
  case first =>
    by_cases h1 : s.size = 0
    · have HE := Lib.hid (betB_nil (cut := cutB (Cof cs) (Jof js)) (u := u) (.inl h1))
      have t1 : decide (0 < (s.size : Int)) = false := by rw [decide_eq_false_iff_not]; omega
      have t2 : decide (0 < s.size) = false := by rw [decide_eq_false_iff_not]; omega
      clear h1
      go_quiet (fail)
      go_wp2_with fail
      go_meet
      case rel => exact ⟨by rw [HE.out], HT3.out.step (below_drewN (Below.refl _ _) _)⟩
    · by_cases h2 : u.size = 0
      · have HE := Lib.hid (betB_nil (cut := cutB (Cof cs) (Jof js)) (s := s) (.inr h2))
        have t0 : decide (0 < (s.size : Int)) = true := by rw [decide_eq_true_eq]; omega
        have t0' : decide (0 < s.size) = true := by rw [decide_eq_true_eq]; omega
        have t1 : decide (0 < (u.size : Int)) = false := by rw [decide_eq_false_iff_not]; omega
        have t2 : decide (0 < u.size) = false := by rw [decide_eq_false_iff_not]; omega
        clear h1 h2
        go_quiet (fail)
        go_wp2_with fail
        go_meet
        case rel => exact ⟨by rw [HE.out], HT3.out.step (below_drewN (Below.refl _ _) _)⟩
      · obtain ⟨k, hk⟩ : ∃ k, s.size = k + 1 := ⟨s.size - 1, by omega⟩
        have hks : k < s.size := by omega
        have hu0 : 0 < u.size := by omega
        have HE := Lib.hid (betB_some (cut := cutB (Cof cs) (Jof js)) (s := s) (u := u) k hk hu0 hks)
        have t0 : decide (0 < (s.size : Int)) = true := by rw [decide_eq_true_eq]; omega
        have t0' : decide (0 < s.size) = true := by rw [decide_eq_true_eq]; omega
        have t1 : decide (0 < (u.size : Int)) = true := by rw [decide_eq_true_eq]; omega
        have t2 : decide (0 < u.size) = true := by rw [decide_eq_true_eq]; omega
        have f0 : (0 : Int) < (u.size : Int) := by omega
        have f2 : (k : Int) < (s.size : Int) := by omega
        have f3 : 0 ≤ (k : Int) := by omega
        have q1 : IntKind.i64.wrap ((s.size : Int) - 1) = k := by rw [IntWalk.i64_in _ (by omega)]; omega
        obtain ⟨x, hx⟩ : ∃ x, s[k]'hks = x := ⟨_, rfl⟩
        obtain ⟨y, hy⟩ : ∃ y, u[0]'hu0 = y := ⟨_, rfl⟩
        have HX := Lib.hid hx
        have HY := Lib.hid hy
        clear hx hy hk h1 h2
        have HC4 : ∀ (W : World), W.cell? ⟨g, 0, none⟩ = some (.slice A cs.length cA) ∧ W.cell? ⟨g, 1, none⟩ = some (.slice B js.length cB) ∧ LPF w cs js A B (some ⟨bk, 0, none⟩) A12 (pcs (cutB (Cof cs) (Jof js)) s.data.toList) W →
            Calls Try.prog 18 #[.agg #[.slice A cs.length cA, .slice B js.length cB], .int .u8 (x.toNat : Int), .int .u8 (y.toNat : Int)] W fun e W' => e = .returned (.bool (cutB (Cof cs) (Jof js) x.toNat y.toNat)) ∧ W'.cell? ⟨g, 0, none⟩ = some (.slice A cs.length cA) ∧ W'.cell? ⟨g, 1, none⟩ = some (.slice B js.length cB) ∧ LPF w cs js A B (some ⟨bk, 0, none⟩) A12 (pcs (cutB (Cof cs) (Jof js)) s.data.toList) W' := by
          rintro W ⟨h3, h4, h5⟩
          refine (rcuts_any cs js A B cA cB (x.toNat : Int) (y.toNat : Int) W h5.lt.tab.cl h5.lt.tab.jn (by omega) (by omega) (by omega) (by have := x.toNat_lt; omega) (by omega) (by have := y.toNat_lt; omega) HR1.out).mono ?_
          rintro e W' ⟨rfl, hbW⟩
          exact ⟨rfl, below_cell hbW (Nat.le_refl _) h3, below_cell hbW (Nat.le_refl _) h4, h5.step hbW⟩
        have K4 := Lib.hid HC4
        clear HC4
        go_region_held3 (fun w' => w'.cell? ⟨g, 0, none⟩ = some (.slice A cs.length cA) ∧ w'.cell? ⟨g, 1, none⟩ = some (.slice B js.length cB) ∧ LPF w cs js A B (some ⟨bk, 0, none⟩) A12 (pcs (cutB (Cof cs) (Jof js)) s.data.toList) w') (first | exact ⟨c0, c1, HT3.out.step (Below.refl _ _).drew⟩ | assumption)
          (first | (go_at_call 18; simp only [HX.out, HY.out]; refine (K4.out _ (by assumption)).mono ?_; rintro e w' ⟨rfl, h⟩))
        all_goals
          go_wp2_with fail
          go_meet
          case rel => exact ⟨by rw [HE.out, HX.out, HY.out], h.2.2⟩
  case rest =>
    obtain ⟨rfl, hW⟩ := hcut
    have HT4 := Lib.hid hW
    clear hW HT3 c0 c1
    go_wp2_with fail
    refine (pieces_any _ _ s _ HT4.out.lt.tp (by omega)).mono ?_
    rintro e w3 ⟨v3, rfl, hb3, ho3⟩
    obtain ⟨A3, c3, rfl⟩ := own_slice ho3
    have HO3 := Lib.hid (own_sl1 ho3)
    have HT5 := Lib.hid (HT4.out.step hb3)
    clear hb3 ho3 HT4
    go_wp2_with fail
    refine (texts_any _ _ A3 A12 c3 c12 _ HO3.out HT5.out.sl (by omega) (by omega)).mono ?_
    rw [decide_eq_true rfl]
    rintro e w4 ⟨rfl, m4, rfl⟩
    have HT6 := Lib.hid (HT5.out.step (below_drewN (Below.refl _ _) m4))
    clear HT5 HO3
    go_wp2_with fail
    refine (whole_any _ _ s _ HT6.out.lt.tp (by omega)).mono ?_
    rintro e w5 ⟨rfl, hb5⟩
    have HT7 := Lib.hid (HT6.out.step hb5)
    clear hb5 HT6
    have t1 : (decide ((pcs (cutB (Cof cs) (Jof js)) s.data.toList).length ≤ 1) == decide (((pcs (cutB (Cof cs) (Jof js)) s.data.toList).length : Int) < 2)) = true := by rw [whole_eq]; simp
    go_wp2_with fail
    refine (between_any _ _ s u _ HT7.out.lt.tp (by omega)).mono ?_
    rintro e w6 ⟨rfl, m6, rfl⟩
    have HT8 := Lib.hid (HT7.out.step (below_drewN (Below.refl _ _) m6))
    clear HT7
    go_wp2_with fail
    go_ret
    exact ⟨by simp, HT8.out.lt.tab.below⟩

set_option maxHeartbeats 2000000 in
theorem bpcs_wrong (cs : List Cls) (js : List Jn) (A B : Option Addr) (cA cB : Nat) (s u : ByteArray) (w : World) (hA : Sl w A encCls 3 cs) (hB : Sl w B encJn 2 js) (hcs : cs.length ≤ 100) (hjs : js.length ≤ 100) (hs : s.size ≤ 300) (hu : u.size ≤ 300)
    (hr : (cs.all spanB && js.all jnB) = false) :
    Calls Try.prog 3 #[.slice A cs.length cA, .slice B js.length cB, .string s, .string u] w (RetTrue w) := by
  have HR := Lib.hid hr
  have H0 := Lib.hid (show RTab w cs js A B w from ⟨Below.refl _ _, hA, hB⟩)
  clear hA hB hr
  go_enter Try.func3, Try.ntmps3
  go_wp2_with fail
  refine (bawake _).mono ?_
  rintro e w0 ⟨rfl, hb0⟩
  have H00 := Lib.hid (H0.out.step hb0)
  clear H0 hb0
  go_wp2_with fail
  refine (new_any cs js A B cA cB w0 H00.out.cl H00.out.jn (by omega) (by omega)).mono ?_
  rintro e w1 ⟨hb1, h⟩
  rw [if_neg (by rw [HR.out]; simp)] at h
  obtain rfl := h
  have HT := Lib.hid (H00.out.step hb1)
  clear H00 hb1
  go_wp2_with fail
  have HT2 := Lib.hid (HT.out.step ((Below.refl w1.heap.size w1).alloc (Nat.le_refl _) (.cells #[.slice A cs.length cA, .slice B js.length cB] 30)))
  refine (right_any cs js A B cA cB _ HT2.out.cl HT2.out.jn (by omega) (by omega)).mono ?_
  rw [HR.out]
  rintro e w2 ⟨rfl, hb2⟩
  have HT3 := Lib.hid (HT2.out.step hb2)
  clear hb2 HT2 HT
  go_wp2_with fail
  go_ret
  exact ⟨by simp, HT3.out.below⟩

set_option maxHeartbeats 2000000 in
theorem bpcs_large (A B : Option Addr) (nA nB cA cB : Nat) (s u : ByteArray) (w : World) (h : ¬ (nA ≤ 100 ∧ nB ≤ 100 ∧ s.size ≤ 300 ∧ u.size ≤ 300)) :
    Calls Try.prog 3 #[.slice A nA cA, .slice B nB cB, .string s, .string u] w (RetTrue w) := by
  have H : ∀ W : World, Calls Try.prog 14 #[] W (fun e W' => e = .returned (.bool true) ∧ Below W.heap.size W W') := bawake
  by_cases h1 : (nA : Int) ≤ 100
  · by_cases h2 : (nB : Int) ≤ 100
    · by_cases h3 : (s.size : Int) ≤ 300
      · have h4 : (300 : Int) < (u.size : Int) := by omega
        clear h
        go_enter Try.func3, Try.ntmps3
        go_wp2_with fail
        refine (bawake _).mono ?_
        rintro e w3 ⟨rfl, hb3⟩
        go_wp2_with fail
        go_ret
        exact ⟨by simp, hb3⟩
      · have h4 : (300 : Int) < (s.size : Int) := by omega
        clear h h3
        go_enter Try.func3, Try.ntmps3
        go_wp2_with fail
        refine (bawake _).mono ?_
        rintro e w3 ⟨rfl, hb3⟩
        go_wp2_with fail
        go_ret
        exact ⟨by simp, hb3⟩
    · have h4 : (100 : Int) < (nB : Int) := by omega
      clear h h2
      go_enter Try.func3, Try.ntmps3
      go_wp2_with fail
      refine (bawake _).mono ?_
      rintro e w3 ⟨rfl, hb3⟩
      go_wp2_with fail
      go_ret
      exact ⟨by simp, hb3⟩
  · have h4 : (100 : Int) < (nA : Int) := by omega
    clear h h1
    go_enter Try.func3, Try.ntmps3
    go_wp2_with fail
    refine (bawake _).mono ?_
    rintro e w3 ⟨rfl, hb3⟩
    go_wp2_with fail
    go_ret
    exact ⟨by simp, hb3⟩

theorem bpcs_law (x0 : List (List Int)) (A : Option Addr) (cA : Nat) (x1 : List (List Int)) (B : Option Addr) (cB : Nat) (s u : ByteArray) (w : World)
    (_ : x0.length ≤ cA) (_ : cA ≤ maxLen) (h0 : ∀ y ∈ x0, y.length = 3 ∧ ∀ z ∈ y, (Lit.int .i64 z).wf = true) (hA : Sl w A (encInts .i64) 3 x0)
    (_ : x1.length ≤ cB) (_ : cB ≤ maxLen) (h1 : ∀ y ∈ x1, y.length = 2 ∧ ∀ z ∈ y, (Lit.int .i64 z).wf = true) (hB : Sl w B (encInts .i64) 2 x1)
    (_ : s.size ≤ maxLen) (_ : u.size ≤ maxLen) :
    Calls Try.prog 3 #[.slice A x0.length cA, .slice B x1.length cB, .string s, .string u] w (RetTrue w) := by
  by_cases h : x0.length ≤ 100 ∧ x1.length ≤ 100 ∧ s.size ≤ 300 ∧ u.size ≤ 300
  · have hA' := sl_map toCls hA (fun x hx => enc_toCls x (h0 x hx).1)
    have hB' := sl_map toJn hB (fun x hx => enc_toJn x (h1 x hx).1)
    have e0 : x0.length = (x0.map toCls).length := by simp
    have e1 : x1.length = (x1.map toJn).length := by simp
    rw [e0, e1]
    rw [e0, e1] at h
    obtain ⟨g1, g2, g3, g4⟩ := h
    cases hr : ((x0.map toCls).all spanB && (x1.map toJn).all jnB) with
    | true =>
      rw [Bool.and_eq_true] at hr
      exact bpcs_right _ _ A B cA cB s u w hA' hB' g1 g2 g3 g4 hr.1 hr.2
    | false => exact bpcs_wrong _ _ A B cA cB s u w hA' hB' g1 g2 g3 g4 hr
  · exact bpcs_large A B _ _ cA cB s u w h
end Go.Proofs.Ytdppdjiigecjoaa
