/- Layer 1 (nat): NatParses. -/
import Derived.Test.YtnfehhblmoliaaaNatM
namespace Go.Proofs.Ytnfehhblmoliaaa
open Go.RowKit Go.Maps Go.WideMaps
set_option maxRecDepth 100000
set_option linter.unusedVariables false
set_option linter.unusedSimpArgs false

theorem dg32_of_dg10 (m k : Nat) (h : (dg 10 m).length ≤ k) : (dg B32 m).length ≤ k := by
  have h1 := lt_pow_dg (b := 10) (by decide) m
  have h2 : 10 ^ (dg 10 m).length ≤ 10 ^ k := Nat.pow_le_pow_right (by decide) h
  have h3 : 10 ^ k ≤ B32 ^ k := Nat.pow_le_pow_left (by decide) _
  exact dg_len_le (by decide) (Nat.lt_of_lt_of_le h1 (Nat.le_trans h2 h3))
theorem parses_mid (l : List UInt8) (w : World) (h1 : 300 < l.length) (h2 : l.length ≤ 10000) : Calls Try.prog 7 #[.string (bs l)] w (RetTrue w) := by
  have hsz := bs_size l
  have g1 : (300 : Int) < ((bs l).size : Int) := by omega
  have g2 : ((bs l).size : Int) ≤ 10000 := by omega
  clear hsz
  generalize bs l = s at *
  go_enter Try.func7, Try.ntmps7
  go_wp2_with fail
  refine (awake_any _).mono ?_
  rintro e W2 ⟨rfl, hb⟩
  go_wp2_with fail
  go_ret
  exact ⟨rfl, hb⟩
/-- of all texts: whether it is a number, and which -/
def goodP (l : List UInt8) : Bool := decide (l ≠ [] ∧ l.length ≤ 10000 ∧ ¬ (1 < l.length ∧ l.head? = some 48)) && l.all isDig
theorem parse_all (l : List UInt8) (w : World) (b : Bool) (m : Nat) (hb : goodP l = b) (hm : m = if b = true then valP l else 0) (hlen : l.length < 140737488355328) :
    Calls Try.prog 29 #[.string (bs l)] w fun e w' => ∃ v, e = .returned (.tuple #[v, .bool b]) ∧ NatIs w' v m ∧ Below w.heap.size w w' := by
  by_cases h : l ≠ [] ∧ l.length ≤ 10000 ∧ ¬ (1 < l.length ∧ l.head? = some 48)
  · refine parse_rest l w b m ?_ hm h.1 h.2.1 h.2.2
    rw [← hb]; unfold goodP; rw [decide_eq_true h]; simp
  · have hbf : b = false := by rw [← hb]; unfold goodP; rw [decide_eq_false h]; rfl
    subst hbf
    rw [if_neg (by decide)] at hm
    subst hm
    by_cases h0 : l = []
    · subst h0; exact parse_nil w
    · by_cases h1 : 10000 < l.length
      · exact parse_long l w h1 (by omega)
      · by_cases h2 : 1 < l.length ∧ l.head? = some 48
        · exact parse_nought l w (by omega) h2.1 h2.2
        · exact absurd ⟨h0, by omega, h2⟩ h
theorem map_dig (l : List UInt8) (h : ∀ x ∈ l, isDig x = true) : (l.map fun x => UInt8.ofNat ((x.toNat - 48) + 48)) = l := by
  conv => rhs; rw [← List.map_id l]
  refine List.map_congr_left (fun x hx => ?_)
  have h1 := h x hx
  simp [isDig] at h1
  rw [show x.toNat - 48 + 48 = x.toNat by omega]
  simp
theorem dec_val (l : List UInt8) (h : ∀ x ∈ l, isDig x = true) (h0 : l ≠ []) (h1 : ¬ (1 < l.length ∧ l.head? = some 48)) : decS (valP l) = bs l := by
  have hlt := digs_lt l h
  have hv := vl_digs l
  have hlen := digs_len l
  have hp := List.length_pos_iff.2 h0
  by_cases hz : valP l = 0
  · -- one digit, 0
    have h2 : l = [48] := by
      rcases l with _ | ⟨x, l⟩
      · exact absurd rfl h0
      · rcases l with _ | ⟨y, l⟩
        · have hx := h x (by simp)
          simp [valP] at hz
          simp [isDig] at hx
          have : x.toNat = 48 := by omega
          congr 1
          exact UInt8.toNat_inj.1 this
        · exfalso
          have hd := trim_dg (b := 10) (by decide) (digs (x :: y :: l)) hlt (digs (x :: y :: l)).length (Nat.le_refl _) (fun i hi => atL_ge hi) (Or.inr ?_)
          · rw [hv, hz, dg_zero, List.take_length] at hd
            have := congrArg List.length hd
            rw [hlen] at this
            simp at this
          · intro e
            apply h1
            refine ⟨by simp, ?_⟩
            rw [hlen, digs_cons] at e
            have hx := h x (by simp)
            simp [isDig] at hx
            unfold atL at e
            rw [List.getElem?_append_right (by rw [digs_len]; simp)] at e
            rw [digs_len] at e
            simp at e
            have : x.toNat = 48 := by omega
            simp only [List.head?_cons, Option.some.injEq]
            exact UInt8.toNat_inj.1 this
    subst h2
    rfl
  · have hd := trim_dg (b := 10) (by decide) (digs l) hlt (digs l).length (Nat.le_refl _) (fun i hi => atL_ge hi) (Or.inr ?_)
    · rw [hv, List.take_length] at hd
      unfold decS decB
      rw [if_neg hz, hd]
      congr 1
      simp only [digs, ← List.map_reverse, List.reverse_reverse, List.map_map]
      exact map_dig l h
    · intro e
      rcases l with _ | ⟨x, l⟩
      · exact absurd rfl h0
      · rw [hlen, digs_cons] at e
        unfold atL at e
        rw [List.getElem?_append_right (by rw [digs_len]; simp)] at e
        rw [digs_len] at e
        simp at e
        have hx := h x (by simp)
        simp [isDig] at hx
        have hx48 : x = 48 := by apply UInt8.toNat_inj.1; show x.toNat = 48; omega
        by_cases hl : 1 < (x :: l).length
        · exact h1 ⟨hl, by rw [hx48]; rfl⟩
        · have : l = [] := by rcases l with _ | ⟨y, l⟩; rfl; simp at hl
          subst this; subst hx48
          exact hz rfl
/-- the document's own test is the same -/
theorem good_same (l : List UInt8) : goodP l = decide ((∀ x ∈ l, isDig x = true) ∧ l ≠ [] ∧ l.length ≤ 10000 ∧ decS (valP l) = bs l) := by
  rw [Bool.eq_iff_iff]
  unfold goodP
  simp only [Bool.and_eq_true, decide_eq_true_eq, List.all_eq_true]
  constructor
  · rintro ⟨⟨h0, h1, h2⟩, h3⟩
    exact ⟨h3, h0, h1, dec_val l h3 h0 h2⟩
  · rintro ⟨h3, h0, h1, h4⟩
    refine ⟨⟨h0, h1, ?_⟩, h3⟩
    rintro ⟨ha, hb⟩
    -- a nought ahead: fewer digits are printed
    rcases l with _ | ⟨x, l⟩
    · exact absurd rfl h0
    · simp at hb
      subst hb
      have hv : valP (48 :: l) = valP l := by simp [valP]
      rw [hv] at h4
      have h5 := congrArg ByteArray.size h4
      rw [bs_size] at h5
      have h6 : (decS (valP l)).size ≤ l.length := by
        obtain ⟨m, g1, g2, g3, g4, g5, g6, g7⟩ := decB_form (valP l)
        unfold decS
        rw [g2, bs_size]
        simp only [List.length_map, List.length_reverse]
        have g8 : (dg 10 (valP l)).length ≤ l.length := dg_len_le (by decide) (valP_lt l (List.all_eq_true.2 (fun y hy => h3 y (List.mem_cons_of_mem _ hy))))
        by_cases hz : valP l = 0
        · have hl1 : 0 < l.length := by simpa using ha
          have : m.length ≤ (dg 10 (valP l)).length + 1 := g7
          rw [hz, dg_zero] at this
          simp at this
          omega
        · have : decB (valP l) = (dg 10 (valP l)).reverse.map (· + 48) := by unfold decB; rw [if_neg hz]
          have h7 := congrArg List.length g2
          rw [this] at h7
          simp at h7
          omega
      simp at h5
      omega

set_option maxHeartbeats 16000000 in
theorem parses_rest (l : List UInt8) (w : World) (b : Bool) (m : Nat) (hb : goodP l = b) (hm : m = if b = true then valP l else 0) (h1 : l.length ≤ 300 ∨ 10000 < l.length) (hlen : l.length < 140737488355328) : Calls Try.prog 7 #[.string (bs l)] w (RetTrue w) := by
  have HPA := Lib.hid (fun V => parse_all l V b m hb hm hlen)
  have HPB := Lib.hid (fun V => rparse_any l V b (by rw [← hb]; exact good_same l) hlen)
  have HBT : Hid (b = true → m = valP l ∧ decS m = bs l ∧ (dg 10 m).length ≤ 300) := Lib.hid (by
    intro h
    rw [hm, if_pos h]
    have hg := hb
    rw [h, good_same] at hg
    have hg := of_decide_eq_true hg
    have hl : l.length ≤ 300 := by rcases h1 with h1 | h1; exact h1; have := hg.2.2.1; omega
    exact ⟨rfl, hg.2.2.2, Nat.le_trans (dg_len_le (by decide) (valP_lt l (List.all_eq_true.2 hg.1))) hl⟩)
  have HBF : Hid (b = false → m = 0) := Lib.hid (fun h => by rw [hm, h]; rfl)
  have hsz := bs_size l
  have HB := Lib.hid (Below.refl w.heap.size w)
  have HL10 := Lib.hid (fun (h : (dg 10 m).length ≤ 300) => show (dg B32 m).length ≤ 300 from dg32_of_dg10 m 300 h)
  clear hb hm
  have g12 : ¬ (300 : Int) < ((bs l).size : Int) ∨ ((300 : Int) < ((bs l).size : Int) ∧ ¬ ((bs l).size : Int) ≤ 10000) := by omega
  clear hsz h1 hlen
  generalize bs l = s at *
  go_enter Try.func7, Try.ntmps7
  rcases g12 with g12 | ⟨g1, g2⟩
  · go_wp2_with fail
    refine (HPA.out _).mono ?_
    rintro e W1 ⟨v1, rfl, hn, hb⟩
    have HB := Lib.hid (HB.out.trans (hb.mono HB.out.size))
    obtain ⟨ACA, cCA, rfl, hq1, hq2⟩ := hn
    have hb := (Below.refl W1.heap.size W1).alloc (Nat.le_refl _) (.cells #[.slice ACA (dg B32 (m)).length cCA] 26)
    have NA := Lib.hid (NatIs.below ⟨ACA, cCA, rfl, hq1, hq2⟩ hb (Nat.le_refl _))
    have HB := Lib.hid (HB.out.trans (hb.mono HB.out.size))
    have CA := Lib.hid (blk_new W1 (.cells #[.slice ACA (dg B32 (m)).length cCA] 26))
    clear hq1 hq2 hb
    obtain ⟨fCA, _⟩ := cell_facts CA.out
    go_wp2_with fail
    clear fCA
    generalize W1.alloc (.cells #[.slice ACA (dg B32 (m)).length cCA] 26) = W1x at *
    generalize W1.heap.size = rCA at *
    refine (HPB.out _).mono ?_
    rintro e W2 ⟨v2, rfl, hn, hb⟩
    have HB := Lib.hid (HB.out.trans (hb.mono HB.out.size))
    have NA := Lib.hid (NA.out.below hb (Nat.le_refl _))
    have CA := Lib.hid (blk_below hb (blk_lt CA.out) CA.out)
    have HD := Lib.hid hn
    clear hb hn
    cases b with
    | true =>
      obtain ⟨hmv, hds, hdl⟩ := HBT.out rfl
      have HDS := Lib.hid hds
      have HDD := Lib.hid (HD.out rfl)
      rw [← hmv] at HDD
      have HL32 := Lib.hid (HL10.out hdl)
      have HDL := Lib.hid hdl
      clear hmv hds hdl
      obtain ⟨fCA, _⟩ := cell_facts CA.out
      go_wp2_with fail
      clear fCA
      refine (string_any _ m _ NA.out (by have := HL32.out; omega) (by have := HDL.out; omega)).mono ?_
      rintro e W3 ⟨rfl, hb⟩
      have HB := Lib.hid (HB.out.trans (hb.mono HB.out.size))
      have NA := Lib.hid (NA.out.below hb (Nat.le_refl _))
      have CA := Lib.hid (blk_below hb (blk_lt CA.out) CA.out)
      have HDD := Lib.hid (HDD.out.below hb (Nat.le_refl _))
      rw [HDS.out]
      clear hb
      obtain ⟨fCA, _⟩ := cell_facts CA.out
      go_wp2_with fail
      clear fCA
      refine (print_any v2 m _ HDD.out (by have := HDL.out; omega)).mono ?_
      rintro e W4 ⟨rfl, hb⟩
      have HB := Lib.hid (HB.out.trans (hb.mono HB.out.size))
      have NA := Lib.hid (NA.out.below hb (Nat.le_refl _))
      have CA := Lib.hid (blk_below hb (blk_lt CA.out) CA.out)
      have HDD := Lib.hid (HDD.out.below hb (Nat.le_refl _))
      rw [HDS.out]
      clear hb
      obtain ⟨fCA, _⟩ := cell_facts CA.out
      go_wp2_with fail
      clear fCA
      refine (awake_any _).mono ?_
      rintro e W5 ⟨rfl, hb⟩
      have HB := Lib.hid (HB.out.trans (hb.mono HB.out.size))
      have NA := Lib.hid (NA.out.below hb (Nat.le_refl _))
      have CA := Lib.hid (blk_below hb (blk_lt CA.out) CA.out)
      have HDD := Lib.hid (HDD.out.below hb (Nat.le_refl _))
      clear hb
      obtain ⟨fCA, _⟩ := cell_facts CA.out
      go_wp2_with fail
      clear fCA
      go_ret
      exact ⟨by simp, HB.out⟩
    | false =>
      obtain rfl := HBF.out rfl
      clear HBT
      obtain ⟨fCA, _⟩ := cell_facts CA.out
      go_wp2_with fail
      clear fCA
      refine (zero_any _ 0 _ NA.out).mono ?_
      rintro e W3 ⟨rfl, hb⟩
      have HB := Lib.hid (HB.out.trans (hb.mono HB.out.size))
      have NA := Lib.hid (NA.out.below hb (Nat.le_refl _))
      have CA := Lib.hid (blk_below hb (blk_lt CA.out) CA.out)
      rw [show decide ((0 : Nat) = 0) = true by rfl]
      clear hb
      obtain ⟨fCA, _⟩ := cell_facts CA.out
      go_wp2_with fail
      clear fCA
      refine (awake_any _).mono ?_
      rintro e W4 ⟨rfl, hb⟩
      have HB := Lib.hid (HB.out.trans (hb.mono HB.out.size))
      have NA := Lib.hid (NA.out.below hb (Nat.le_refl _))
      have CA := Lib.hid (blk_below hb (blk_lt CA.out) CA.out)
      clear hb
      obtain ⟨fCA, _⟩ := cell_facts CA.out
      go_wp2_with fail
      clear fCA
      go_ret
      exact ⟨by simp, HB.out⟩
  · go_wp2_with fail
    refine (HPA.out _).mono ?_
    rintro e W1 ⟨v1, rfl, hn, hb⟩
    have HB := Lib.hid (HB.out.trans (hb.mono HB.out.size))
    obtain ⟨ACA, cCA, rfl, hq1, hq2⟩ := hn
    have hb := (Below.refl W1.heap.size W1).alloc (Nat.le_refl _) (.cells #[.slice ACA (dg B32 (m)).length cCA] 26)
    have NA := Lib.hid (NatIs.below ⟨ACA, cCA, rfl, hq1, hq2⟩ hb (Nat.le_refl _))
    have HB := Lib.hid (HB.out.trans (hb.mono HB.out.size))
    have CA := Lib.hid (blk_new W1 (.cells #[.slice ACA (dg B32 (m)).length cCA] 26))
    clear hq1 hq2 hb
    obtain ⟨fCA, _⟩ := cell_facts CA.out
    go_wp2_with fail
    clear fCA
    generalize W1.alloc (.cells #[.slice ACA (dg B32 (m)).length cCA] 26) = W1x at *
    generalize W1.heap.size = rCA at *
    refine (HPB.out _).mono ?_
    rintro e W2 ⟨v2, rfl, hn, hb⟩
    have HB := Lib.hid (HB.out.trans (hb.mono HB.out.size))
    have NA := Lib.hid (NA.out.below hb (Nat.le_refl _))
    have CA := Lib.hid (blk_below hb (blk_lt CA.out) CA.out)
    have HD := Lib.hid hn
    clear hb hn
    cases b with
    | true =>
      obtain ⟨hmv, hds, hdl⟩ := HBT.out rfl
      have HDS := Lib.hid hds
      have HDD := Lib.hid (HD.out rfl)
      rw [← hmv] at HDD
      have HL32 := Lib.hid (HL10.out hdl)
      have HDL := Lib.hid hdl
      clear hmv hds hdl
      obtain ⟨fCA, _⟩ := cell_facts CA.out
      go_wp2_with fail
      clear fCA
      refine (string_any _ m _ NA.out (by have := HL32.out; omega) (by have := HDL.out; omega)).mono ?_
      rintro e W3 ⟨rfl, hb⟩
      have HB := Lib.hid (HB.out.trans (hb.mono HB.out.size))
      have NA := Lib.hid (NA.out.below hb (Nat.le_refl _))
      have CA := Lib.hid (blk_below hb (blk_lt CA.out) CA.out)
      have HDD := Lib.hid (HDD.out.below hb (Nat.le_refl _))
      rw [HDS.out]
      clear hb
      obtain ⟨fCA, _⟩ := cell_facts CA.out
      go_wp2_with fail
      clear fCA
      refine (print_any v2 m _ HDD.out (by have := HDL.out; omega)).mono ?_
      rintro e W4 ⟨rfl, hb⟩
      have HB := Lib.hid (HB.out.trans (hb.mono HB.out.size))
      have NA := Lib.hid (NA.out.below hb (Nat.le_refl _))
      have CA := Lib.hid (blk_below hb (blk_lt CA.out) CA.out)
      have HDD := Lib.hid (HDD.out.below hb (Nat.le_refl _))
      rw [HDS.out]
      clear hb
      obtain ⟨fCA, _⟩ := cell_facts CA.out
      go_wp2_with fail
      clear fCA
      refine (awake_any _).mono ?_
      rintro e W5 ⟨rfl, hb⟩
      have HB := Lib.hid (HB.out.trans (hb.mono HB.out.size))
      have NA := Lib.hid (NA.out.below hb (Nat.le_refl _))
      have CA := Lib.hid (blk_below hb (blk_lt CA.out) CA.out)
      have HDD := Lib.hid (HDD.out.below hb (Nat.le_refl _))
      clear hb
      obtain ⟨fCA, _⟩ := cell_facts CA.out
      go_wp2_with fail
      clear fCA
      go_ret
      exact ⟨by simp, HB.out⟩
    | false =>
      obtain rfl := HBF.out rfl
      clear HBT
      obtain ⟨fCA, _⟩ := cell_facts CA.out
      go_wp2_with fail
      clear fCA
      refine (zero_any _ 0 _ NA.out).mono ?_
      rintro e W3 ⟨rfl, hb⟩
      have HB := Lib.hid (HB.out.trans (hb.mono HB.out.size))
      have NA := Lib.hid (NA.out.below hb (Nat.le_refl _))
      have CA := Lib.hid (blk_below hb (blk_lt CA.out) CA.out)
      rw [show decide ((0 : Nat) = 0) = true by rfl]
      clear hb
      obtain ⟨fCA, _⟩ := cell_facts CA.out
      go_wp2_with fail
      clear fCA
      refine (awake_any _).mono ?_
      rintro e W4 ⟨rfl, hb⟩
      have HB := Lib.hid (HB.out.trans (hb.mono HB.out.size))
      have NA := Lib.hid (NA.out.below hb (Nat.le_refl _))
      have CA := Lib.hid (blk_below hb (blk_lt CA.out) CA.out)
      clear hb
      obtain ⟨fCA, _⟩ := cell_facts CA.out
      go_wp2_with fail
      clear fCA
      go_ret
      exact ⟨by simp, HB.out⟩

theorem parses_law (a0 : ByteArray) (w : World) (h : a0.size ≤ 140737488351232) : Calls Try.prog 7 #[.string a0] w (RetTrue w) := by
  rw [← bs_data a0]
  have hs : a0.data.toList.length = a0.size := by rw [Array.length_toList]; rfl
  by_cases h1 : 300 < a0.data.toList.length ∧ a0.data.toList.length ≤ 10000
  · exact parses_mid _ w h1.1 h1.2
  · exact parses_rest _ w _ _ rfl rfl (by omega) (by omega)
end Go.Proofs.Ytnfehhblmoliaaa
