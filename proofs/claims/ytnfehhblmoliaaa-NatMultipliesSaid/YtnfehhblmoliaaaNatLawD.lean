/- Layer 1 (nat): NatProducts. -/
import Derived.Test.YtnfehhblmoliaaaNatM
namespace Go.Proofs.Ytnfehhblmoliaaa
open Go.RowKit Go.Maps Go.WideMaps
set_option maxRecDepth 100000
set_option linter.unusedVariables false
set_option linter.unusedSimpArgs false

theorem mul_dg10 (n a k : Nat) (hn : n ≤ 4294967296) (h : (dg 10 a).length ≤ k) : (dg 10 (n * a)).length ≤ 10 + k := by
  refine dg_len_le (by decide) ?_
  have h1 := lt_pow_dg (b := 10) (by decide) a
  have h2 : 10 ^ (dg 10 a).length ≤ 10 ^ k := Nat.pow_le_pow_right (by decide) h
  rw [Nat.pow_add]
  exact Nat.lt_of_le_of_lt (Nat.mul_le_mul_right _ hn) (Nat.mul_lt_mul_of_le_of_lt (show 4294967296 ≤ 10 ^ 10 by decide) (Nat.lt_of_lt_of_le h1 h2) (by decide))
theorem products_big (l : List Nat) (A : Option Addr) (c : Nat) (n rest : Nat) (w : World) (hlen : ¬ l.length ≤ 20) :
    Calls Try.prog 6 #[.slice A l.length c, .int .u32 (n : Int), .int .u32 (rest : Int)] w (RetTrue w) := by
  have HF := Lib.hid (few_any [l.length] (some ⟨w.heap.size, 0, none⟩) 1 _ false (by simp [hlen]) (few_cells1 w A l.length c) (by simp))
  have HB := Lib.hid ((Below.refl w.heap.size w).alloc (Nat.le_refl _) (.cells #[.slice A l.length c] 22))
  go_enter Try.func6, Try.ntmps6
  go_wp2_with fail
  refine HF.out.mono ?_
  rintro e W1 ⟨rfl, rfl⟩
  go_wp2_with fail
  refine (awake_any _).mono ?_
  rintro e W2 ⟨rfl, hb⟩
  go_wp2_with fail
  go_ret
  exact ⟨rfl, HB.out.trans (hb.mono HB.out.size)⟩

theorem nats_one {V : World} {g : Nat} {s : Value} {n : Nat} {t : TypeId} (h : NatIs V (.agg #[s]) n) (hc : V.heap[g]? = some (.cells #[s] t)) : NatsIs V (some ⟨g, 0, none⟩) [n] := by
  intro i m hm
  rcases i with _ | i <;> simp at hm
  subst hm
  exact ⟨g, 0, s, rfl, (cell_facts hc).1, h⟩
theorem set_hb {V W0 : World} {g B : Nat} {o : Obj} (hc : V.heap[g]? = some o) (hB : Below B W0 V) (h : B ≤ g) (u : Value) : Below B W0 (V.setCell ⟨g, 0, none⟩ u) := hB.setCell (p := ⟨g, 0, none⟩) h u
theorem gen_alloc {K : Act → World → Prop} {a : Act} {V W0 : World} {o : Obj} {B : Nat} (hB : Below B W0 V) (h : ∀ W', Below V.heap.size V W' → W'.heap[V.heap.size]? = some o → K a W') : K a (V.alloc o) :=
  h _ ((Below.refl _ _).alloc (Nat.le_refl _) o) (blk_new V o)
set_option maxHeartbeats 32000000 in
theorem products_small (l : List Nat) (A : Option Addr) (c : Nat) (n rest : Nat) (w : World) (hS : Sl1 w A u32V l) (hx : ∀ x ∈ l, x < B32) (hlen : l.length ≤ 20) (hn32 : n < 4294967296) (hr32 : rest < 4294967296) :
    Calls Try.prog 6 #[.slice A l.length c, .int .u32 (n : Int), .int .u32 (rest : Int)] w (RetTrue w) := by
  have HF := Lib.hid (few_any [l.length] (some ⟨w.heap.size, 0, none⟩) 1 _ true (by simp [hlen]) (few_cells1 w A l.length c) (by simp))
  have hb0 := (Below.refl w.heap.size w).alloc (Nat.le_refl _) (.cells #[.slice A l.length c] 22)
  have HB := Lib.hid hb0
  have HS := Lib.hid (hS.below hb0 (Nat.le_refl _))
  have HX := Lib.hid hx
  clear hS hb0
  obtain ⟨a, ha⟩ : ∃ a, vl B32 l = a := ⟨_, rfl⟩
  have HA := Lib.hid ha
  have hla : (dg B32 a).length ≤ 20 := by rw [← ha]; exact dg32_le l hx 20 hlen
  have hda : (dg 10 a).length ≤ 1000 := by rw [← ha]; exact dec10_le l hx (by omega)
  have hpn : n * a ≤ 4294967296 * a := Nat.mul_le_mul_right _ (by omega)
  have hlp : (dg B32 (n * a)).length ≤ 21 := by
    refine dg_len_le (by decide) (Nat.lt_of_le_of_lt hpn ?_)
    rw [Nat.pow_succ, Nat.mul_comm]
    have h1 := lt_pow_dg (b := B32) (by decide) a
    have h2 : B32 ^ (dg B32 a).length ≤ B32 ^ 20 := Nat.pow_le_pow_right (by decide) hla
    exact Nat.mul_lt_mul_of_pos_right (Nat.lt_of_lt_of_le h1 h2) (by decide)
  have hdp : (dg 10 (n * a)).length ≤ 1010 := mul_dg10 n a 1000 (by omega) hda
  have HL := Lib.hid (And.intro hla (And.intro hda (And.intro hlp hdp)))
  clear ha hla hda hlp hdp hpn hx
  go_enter Try.func6, Try.ntmps6
  go_wp2_with fail
  refine HF.out.mono ?_
  rintro e W0 ⟨rfl, rfl⟩
  clear HF
  go_wp2_with fail
  refine (of_any l A c _ HS.out HX.out (by omega)).mono ?_
  rintro e W1 ⟨v1, rfl, hn, hb⟩
  replace HB := Lib.hid (HB.out.trans (hb.mono HB.out.size))
  replace HS := Lib.hid (HS.out.below hb (Nat.le_refl _))
  rw [HA.out] at hn
  obtain ⟨ACX, cCX, rfl, hq1, hq2⟩ := hn
  have hb := (Below.refl W1.heap.size W1).alloc (Nat.le_refl _) (.cells #[.slice ACX (dg B32 (a)).length cCX] 26)
  have NX := Lib.hid (NatIs.below ⟨ACX, cCX, rfl, hq1, hq2⟩ hb (Nat.le_refl _))
  replace HB := Lib.hid (HB.out.trans (hb.mono HB.out.size))
  replace HS := Lib.hid (HS.out.below hb (Nat.le_refl _))
  have CX := Lib.hid (blk_new W1 (.cells #[.slice ACX (dg B32 (a)).length cCX] 26))
  clear hq1 hq2 hb
  obtain ⟨fCX, _⟩ := cell_facts CX.out
  go_wp2_with fail
  clear fCX
  generalize W1.alloc (.cells #[.slice ACX (dg B32 (a)).length cCX] 26) = W1x at *
  generalize W1.heap.size = rCX at *
  refine (times_any _ a n _ NX.out hn32 (by have := HL.out.1; omega)).mono ?_
  rintro e W2 ⟨v2, rfl, hn, hb⟩
  replace HB := Lib.hid (HB.out.trans (hb.mono HB.out.size))
  replace HS := Lib.hid (HS.out.below hb (Nat.le_refl _))
  replace NX := Lib.hid (NX.out.below hb (Nat.le_refl _))
  replace CX := Lib.hid (blk_below hb (blk_lt CX.out) CX.out)
  obtain ⟨ACP, cCP, rfl, hq1, hq2⟩ := hn
  have hb := (Below.refl W2.heap.size W2).alloc (Nat.le_refl _) (.cells #[.slice ACP (dg B32 (n * a)).length cCP] 26)
  have NP := Lib.hid (NatIs.below ⟨ACP, cCP, rfl, hq1, hq2⟩ hb (Nat.le_refl _))
  replace HB := Lib.hid (HB.out.trans (hb.mono HB.out.size))
  replace HS := Lib.hid (HS.out.below hb (Nat.le_refl _))
  replace NX := Lib.hid (NX.out.below hb (Nat.le_refl _))
  replace CX := Lib.hid (blk_below hb (blk_lt CX.out) CX.out)
  have CP := Lib.hid (blk_new W2 (.cells #[.slice ACP (dg B32 (n * a)).length cCP] 26))
  clear hq1 hq2 hb
  obtain ⟨fCX, _⟩ := cell_facts CX.out
  obtain ⟨fCP, _⟩ := cell_facts CP.out
  go_wp2_with fail
  clear fCX fCP
  generalize W2.alloc (.cells #[.slice ACP (dg B32 (n * a)).length cCP] 26) = W2x at *
  generalize W2.heap.size = rCP at *
  refine (string_any _ (n * a) _ NP.out (by have := HL.out; omega) (by have := HL.out; omega)).mono ?_
  rintro e W3 ⟨rfl, hb⟩
  replace HB := Lib.hid (HB.out.trans (hb.mono HB.out.size))
  replace HS := Lib.hid (HS.out.below hb (Nat.le_refl _))
  replace NX := Lib.hid (NX.out.below hb (Nat.le_refl _))
  replace CX := Lib.hid (blk_below hb (blk_lt CX.out) CX.out)
  replace NP := Lib.hid (NP.out.below hb (Nat.le_refl _))
  replace CP := Lib.hid (blk_below hb (blk_lt CP.out) CP.out)
  obtain ⟨fCX, _⟩ := cell_facts CX.out
  obtain ⟨fCP, _⟩ := cell_facts CP.out
  go_wp2_with fail
  clear fCX fCP
  refine (rof_any l A c _ HS.out HX.out (by omega)).mono ?_
  rintro e W4 ⟨v3, rfl, hn, hb⟩
  replace HB := Lib.hid (HB.out.trans (hb.mono HB.out.size))
  replace HS := Lib.hid (HS.out.below hb (Nat.le_refl _))
  replace NX := Lib.hid (NX.out.below hb (Nat.le_refl _))
  replace CX := Lib.hid (blk_below hb (blk_lt CX.out) CX.out)
  replace NP := Lib.hid (NP.out.below hb (Nat.le_refl _))
  replace CP := Lib.hid (blk_below hb (blk_lt CP.out) CP.out)
  rw [HA.out] at hn
  have DA := Lib.hid hn
  have wn : IntKind.u64.wrap (n : Int) = (n : Int) := IntWalk.u64_in _ (by omega)
  obtain ⟨fCX, _⟩ := cell_facts CX.out
  obtain ⟨fCP, _⟩ := cell_facts CP.out
  go_wp2_with fail
  clear fCX fCP
  refine (rtimes_any v3 a n 0 _ DA.out (by omega) (by omega) (by have := HL.out; omega)).mono ?_
  rintro e W5 ⟨v4, rfl, hn, hb⟩
  replace HB := Lib.hid (HB.out.trans (hb.mono HB.out.size))
  replace HS := Lib.hid (HS.out.below hb (Nat.le_refl _))
  replace NX := Lib.hid (NX.out.below hb (Nat.le_refl _))
  replace CX := Lib.hid (blk_below hb (blk_lt CX.out) CX.out)
  replace NP := Lib.hid (NP.out.below hb (Nat.le_refl _))
  replace CP := Lib.hid (blk_below hb (blk_lt CP.out) CP.out)
  replace DA := Lib.hid (DA.out.below hb (Nat.le_refl _))
  rw [Nat.zero_add] at hn
  have DP := Lib.hid hn
  obtain ⟨fCX, _⟩ := cell_facts CX.out
  obtain ⟨fCP, _⟩ := cell_facts CP.out
  go_wp2_with fail
  clear fCX fCP
  refine (print_any v4 (n * a) _ DP.out (by have := HL.out; omega)).mono ?_
  rintro e W6 ⟨rfl, hb⟩
  replace HB := Lib.hid (HB.out.trans (hb.mono HB.out.size))
  replace HS := Lib.hid (HS.out.below hb (Nat.le_refl _))
  replace NX := Lib.hid (NX.out.below hb (Nat.le_refl _))
  replace CX := Lib.hid (blk_below hb (blk_lt CX.out) CX.out)
  replace NP := Lib.hid (NP.out.below hb (Nat.le_refl _))
  replace CP := Lib.hid (blk_below hb (blk_lt CP.out) CP.out)
  replace DP := Lib.hid (DP.out.below hb (Nat.le_refl _))
  generalize decS (n * a) = t0 at *
  clear hb
  by_cases hn0 : n = 0
  · subst hn0
    simp only [Nat.zero_mul] at NP CP ⊢
    obtain ⟨fCX, _⟩ := cell_facts CX.out
    obtain ⟨fCP, _⟩ := cell_facts CP.out
    go_wp2_with fail
    clear fCX fCP
    refine (divide_zero _ a _ NX.out).mono ?_
    rintro e W7 ⟨v5, rfl, hn, hb⟩
    replace HB := Lib.hid (HB.out.trans (hb.mono HB.out.size))
    replace HS := Lib.hid (HS.out.below hb (Nat.le_refl _))
    replace NX := Lib.hid (NX.out.below hb (Nat.le_refl _))
    replace CX := Lib.hid (blk_below hb (blk_lt CX.out) CX.out)
    replace NP := Lib.hid (NP.out.below hb (Nat.le_refl _))
    replace CP := Lib.hid (blk_below hb (blk_lt CP.out) CP.out)
    obtain ⟨ACQ, cCQ, rfl, hq1, hq2⟩ := hn
    have hb := (Below.refl W7.heap.size W7).alloc (Nat.le_refl _) (.cells #[.slice ACQ (dg B32 (0)).length cCQ] 26)
    have NQ := Lib.hid (NatIs.below ⟨ACQ, cCQ, rfl, hq1, hq2⟩ hb (Nat.le_refl _))
    replace HB := Lib.hid (HB.out.trans (hb.mono HB.out.size))
    replace HS := Lib.hid (HS.out.below hb (Nat.le_refl _))
    replace NX := Lib.hid (NX.out.below hb (Nat.le_refl _))
    replace CX := Lib.hid (blk_below hb (blk_lt CX.out) CX.out)
    replace NP := Lib.hid (NP.out.below hb (Nat.le_refl _))
    replace CP := Lib.hid (blk_below hb (blk_lt CP.out) CP.out)
    have CQ := Lib.hid (blk_new W7 (.cells #[.slice ACQ (dg B32 (0)).length cCQ] 26))
    clear hq1 hq2 hb
    obtain ⟨fCX, _⟩ := cell_facts CX.out
    obtain ⟨fCP, _⟩ := cell_facts CP.out
    obtain ⟨fCQ, _⟩ := cell_facts CQ.out
    go_wp2_with fail
    clear fCX fCP fCQ
    generalize W7.alloc (.cells #[.slice ACQ (dg B32 (0)).length cCQ] 26) = W3x at *
    generalize W7.heap.size = rCQ at *
    refine (zero_any _ 0 _ NP.out).mono ?_
    rintro e W8 ⟨rfl, hb⟩
    replace HB := Lib.hid (HB.out.trans (hb.mono HB.out.size))
    replace HS := Lib.hid (HS.out.below hb (Nat.le_refl _))
    replace NX := Lib.hid (NX.out.below hb (Nat.le_refl _))
    replace CX := Lib.hid (blk_below hb (blk_lt CX.out) CX.out)
    replace NP := Lib.hid (NP.out.below hb (Nat.le_refl _))
    replace CP := Lib.hid (blk_below hb (blk_lt CP.out) CP.out)
    replace NQ := Lib.hid (NQ.out.below hb (Nat.le_refl _))
    replace CQ := Lib.hid (blk_below hb (blk_lt CQ.out) CQ.out)
    rw [show decide ((0 : Nat) = 0) = true by rfl]
    obtain ⟨fCX, _⟩ := cell_facts CX.out
    obtain ⟨fCP, _⟩ := cell_facts CP.out
    obtain ⟨fCQ, _⟩ := cell_facts CQ.out
    go_wp2_with fail
    clear fCX fCP fCQ
    refine (zero_any _ 0 _ NQ.out).mono ?_
    rintro e W9 ⟨rfl, hb⟩
    replace HB := Lib.hid (HB.out.trans (hb.mono HB.out.size))
    replace HS := Lib.hid (HS.out.below hb (Nat.le_refl _))
    replace NX := Lib.hid (NX.out.below hb (Nat.le_refl _))
    replace CX := Lib.hid (blk_below hb (blk_lt CX.out) CX.out)
    replace NP := Lib.hid (NP.out.below hb (Nat.le_refl _))
    replace CP := Lib.hid (blk_below hb (blk_lt CP.out) CP.out)
    replace NQ := Lib.hid (NQ.out.below hb (Nat.le_refl _))
    replace CQ := Lib.hid (blk_below hb (blk_lt CQ.out) CQ.out)
    rw [show decide ((0 : Nat) = 0) = true by rfl]
    obtain ⟨fCX, _⟩ := cell_facts CX.out
    obtain ⟨fCP, _⟩ := cell_facts CP.out
    obtain ⟨fCQ, _⟩ := cell_facts CQ.out
    go_wp2_with fail
    clear fCX fCP fCQ
    refine (awake_any _).mono ?_
    rintro e W10 ⟨rfl, hb⟩
    replace HB := Lib.hid (HB.out.trans (hb.mono HB.out.size))
    replace HS := Lib.hid (HS.out.below hb (Nat.le_refl _))
    replace NX := Lib.hid (NX.out.below hb (Nat.le_refl _))
    replace CX := Lib.hid (blk_below hb (blk_lt CX.out) CX.out)
    replace NP := Lib.hid (NP.out.below hb (Nat.le_refl _))
    replace CP := Lib.hid (blk_below hb (blk_lt CP.out) CP.out)
    replace NQ := Lib.hid (NQ.out.below hb (Nat.le_refl _))
    replace CQ := Lib.hid (blk_below hb (blk_lt CQ.out) CQ.out)
    clear hb
    obtain ⟨fCX, _⟩ := cell_facts CX.out
    obtain ⟨fCP, _⟩ := cell_facts CP.out
    obtain ⟨fCQ, _⟩ := cell_facts CQ.out
    go_wp2_with fail
    clear fCX fCP fCQ
    go_ret
    exact ⟨by simp, HB.out⟩
  · have hn1 : ¬ (n : Int) = 0 := by omega
    have hn2 : 0 < n := Nat.pos_of_ne_zero hn0
    obtain ⟨rs, hrs⟩ : ∃ rs, rest % n = rs := ⟨_, rfl⟩
    have hrl : rs < n := by rw [← hrs]; exact Nat.mod_lt _ hn2
    have wr : (rest : Int) % (n : Int) = (rs : Int) := by rw [← hrs]; simp
    have wr3 : (rest : Int).tmod (n : Int) = (rs : Int) := by rw [Int.tmod_eq_emod_of_nonneg (by omega)]; exact wr
    have wr2 : IntKind.u64.wrap (rs : Int) = (rs : Int) := IntWalk.u64_in _ (by omega)
    have HDV : Hid ((n * a + sumL [rs]) / n = a ∧ (n * a + sumL [rs]) % n = rs) := Lib.hid (by
      have e : n * a + sumL [rs] = rs + n * a := by simp [sumL]; omega
      rw [e, Nat.add_mul_div_left _ _ hn2, Nat.div_eq_of_lt hrl, Nat.add_mul_mod_self_left, Nat.mod_eq_of_lt hrl]
      simp)
    have hsum : (dg B32 (n * a + rs)).length ≤ 22 := by
      refine dg_len_le (by decide) ?_
      have h1 := lt_pow_dg (b := B32) (by decide) (n * a)
      have h2 : B32 ^ (dg B32 (n * a)).length ≤ B32 ^ 21 := Nat.pow_le_pow_right (by decide) HL.out.2.2.1
      have h3 : B32 ^ 21 + B32 ≤ B32 ^ 22 := by decide
      have h4 : rs < B32 := by show rs < 4294967296; omega
      exact Nat.lt_of_lt_of_le (Nat.add_lt_add (Nat.lt_of_lt_of_le h1 h2) h4) h3
    have HLC : Hid ((dg B32 (n * a + sumL [rs])).length ≤ 100000) := Lib.hid (by simp only [sumL, List.foldr_cons, List.foldr_nil, Nat.add_zero]; omega)
    have HLA : Hid (∀ k, k ≤ [rs].length → (dg B32 (n * a + sumL ([rs].take k))).length ≤ 100000) := Lib.hid (by
      intro k _
      refine Nat.le_trans (dg_len_mono (by decide) (show _ ≤ n * a + rs from ?_)) (by omega)
      rcases k with _ | k <;> simp [sumL])
    have HLB : Hid (∀ m ∈ [rs], (dg B32 m).length ≤ 100000) := Lib.hid (by
      intro m hm
      simp at hm; subst hm
      exact Nat.le_trans (dg_len_mono (by decide) (show m ≤ n * a + m from Nat.le_add_left _ _)) (by omega))
    have hrs18 : rs < B32 * B32 := Nat.lt_trans (show rs < 4294967296 by omega) (by decide)
    clear hrs hsum
    obtain ⟨fCX, _⟩ := cell_facts CX.out
    obtain ⟨fCP, _⟩ := cell_facts CP.out
    go_wp2_with fail
    clear fCX fCP
    replace HB := Lib.hid HB.out.drew
    replace NX := Lib.hid (show NatIs W6.drew _ a from NX.out)
    replace NP := Lib.hid (show NatIs W6.drew _ (n * a) from NP.out)
    replace CX := Lib.hid (blk_drew CX.out)
    replace CP := Lib.hid (blk_drew CP.out)
    have HBV := Lib.hid (Below.refl W6.drew.heap.size W6.drew)
    have HNX := Lib.hid (fun V (hV : Below W6.drew.heap.size W6.drew V) => NX.out.below hV (Nat.le_refl _))
    have HNP := Lib.hid (fun V (hV : Below W6.drew.heap.size W6.drew V) => NP.out.below hV (Nat.le_refl _))
    have HCX := Lib.hid (fun V (hV : Below W6.drew.heap.size W6.drew V) => blk_below hV (blk_lt CX.out) CX.out)
    have HF := Lib.hid (fun V (hV : Below W6.drew.heap.size W6.drew V) => (cell_facts (blk_below hV (blk_lt CP.out) CP.out)).1)
    clear NX NP CX CP HS
    refine wp_region_D (Ds := [14]) (S := fun V => V.cell? ⟨rCP, 0, none⟩ = some (.slice ACP (dg B32 (n * a)).length cCP)) (by kernel_rfl) (by exact HF.out _ HBV.out) (fun hHeld => ?_)
    generalize W6.drew = W7 at *
    refine wpAnyD_takeP (i := 1) (oi := { dst := some 54, op := Op.move (Operand.tmp 2), type := 50, pos := "law.go:106", after := #[], guard := none }) (d := 54) (v := ?_) rfl rfl (by kernel_rfl) (by kernel_rfl) (by kernel_rfl) (fun _ _ _ h => h) (Or.inl ⟨by rfl, ?_⟩) ?_
    rotate_left
    · (intro w' _; go_simp; (try with_reducible rfl))
    simp only [List.setIfInBounds_toArray, List.set_cons_zero, List.set_cons_succ]
    refine wpAnyD_takeP (i := 2) (oi := { dst := some 55, op := Op.move (Operand.tmp 1), type := 50, pos := "law.go:106", after := #[], guard := none }) (d := 55) (v := ?_) rfl rfl (by kernel_rfl) (by kernel_rfl) (by kernel_rfl) (fun _ _ _ h => h) (Or.inl ⟨by rfl, ?_⟩) ?_
    rotate_left
    · (intro w' _; go_simp; (try with_reducible rfl))
    simp only [List.setIfInBounds_toArray, List.set_cons_zero, List.set_cons_succ]
    refine wpAnyD_takeP (i := 3) (oi := { dst := some 56, op := Op.binOp BinOp.rem 50 (Operand.tmp 54) (Operand.tmp 55) 50, type := 50, pos := "law.go:106", after := #[{ on := 1, ground := Ground.data }, { on := 2, ground := Ground.data }], guard := none }) (d := 56) (v := ?_) rfl rfl (by kernel_rfl) (by kernel_rfl) (by kernel_rfl) (fun _ _ _ h => h) (Or.inl ⟨by rfl, ?_⟩) ?_
    rotate_left
    · (intro w' _; go_simp; (try with_reducible rfl))
    simp only [List.setIfInBounds_toArray, List.set_cons_zero, List.set_cons_succ]
    refine wpAnyD_takeP (i := 8) (oi := { dst := some 61, op := Op.move (Operand.tmp 1), type := 50, pos := "law.go:106", after := #[], guard := none }) (d := 61) (v := ?_) rfl rfl (by kernel_rfl) (by kernel_rfl) (by kernel_rfl) (fun _ _ _ h => h) (Or.inl ⟨by rfl, ?_⟩) ?_
    rotate_left
    · (intro w' _; go_simp; (try with_reducible rfl))
    simp only [List.setIfInBounds_toArray, List.set_cons_zero, List.set_cons_succ]
    refine wpAnyD_takeD (i := 0) (oi := { dst := some 53, op := Op.load 26 (Operand.tmp 8), type := 26, pos := "law.go:106", after := #[], guard := none }) (d := 53) (v := ?_) rfl rfl (by kernel_rfl) (by kernel_rfl) (by kernel_rfl) (by kernel_rfl) (fun _ _ _ h => h) (Or.inl ⟨by rfl, ?_⟩) hHeld ?_
    rotate_left
    · (intro w' hSw; (try dsimp only at hSw); go_simp; (try with_reducible rfl))
    simp only [List.setIfInBounds_toArray, List.set_cons_zero, List.set_cons_succ]
    refine wpAnyD_takeD (i := 4) (oi := { dst := some 57, op := Op.convert 50 39 (Operand.tmp 56), type := 39, pos := "law.go:106", after := #[{ on := 3, ground := Ground.data }], guard := none }) (d := 57) (v := ?_) rfl rfl (by kernel_rfl) (by kernel_rfl) (by kernel_rfl) (by kernel_rfl) (fun _ _ _ h => h) (Or.inl ⟨by rfl, ?_⟩) hHeld ?_
    rotate_left
    · (intro w' hSw; (try dsimp only at hSw); go_simp; (try with_reducible rfl))
    simp only [List.setIfInBounds_toArray, List.set_cons_zero, List.set_cons_succ]
    refine wpAnyD_two (i := 5) (j := 13) (oi := { dst := some 58, op := Op.call { callee := Callee.value (Operand.func 21), args := #[Operand.tmp 57], argTypes := #[39] }, type := 26, pos := "law.go:106", after := #[{ on := 4, ground := Ground.data }], guard := none }) (oj := { dst := some 11, op := Op.alloc 26, type := 0, pos := "law.go:106", after := #[], guard := none }) (by kernel_rfl) rfl rfl (by rfl) (by rfl) (fun K hK => ?_) (fun K hK => ?_)
    ·
      go_simp; refine (int_any rs _ hrs18).mono ?_; rintro e V1 ⟨u1, rfl, hn, hb⟩; replace HBV := Lib.hid (HBV.out.trans (hb.mono HBV.out.size)); (try (replace NI := Lib.hid (NI.out.below hb (Nat.le_refl _)))); (try (replace CI := Lib.hid (blk_below hb (blk_lt CI.out) CI.out))); (try (replace NS := Lib.hid (NS.out.below hb (Nat.le_refl _)))); (try (replace NQ := Lib.hid (NQ.out.below hb (Nat.le_refl _)))); (try (replace CN := Lib.hid (blk_below hb (blk_lt CN.out) CN.out))); obtain ⟨AI, cI, rfl, hq1, hq2⟩ := hn; have NI := Lib.hid (show NatIs V1 _ rs from ⟨AI, cI, rfl, hq1, hq2⟩); have h := HF.out _ HBV.out; clear hq1 hq2 hb
      refine hK.out _ _ h (fun hHeld => ?_)
      clear hK K
      try simp only [Act.put, List.setIfInBounds_toArray, List.set_cons_zero, List.set_cons_succ]
      refine wpAnyD_two (i := 6) (j := 13) (oi := { dst := some 59, op := Op.buildSlice 47 1 #[(0, Operand.tmp 58)], type := 47, pos := "law.go:106", after := #[{ on := 5, ground := Ground.data }], guard := none }) (oj := { dst := some 11, op := Op.alloc 26, type := 0, pos := "law.go:106", after := #[], guard := none }) (by kernel_rfl) rfl rfl (by rfl) (by rfl) (fun K hK => ?_) (fun K hK => ?_)
      ·
        go_simp; refine gen_alloc HBV.out (fun V5 hb hci => ?_); replace HBV := Lib.hid (HBV.out.trans (hb.mono HBV.out.size)); (try (replace NI := Lib.hid (NI.out.below hb (Nat.le_refl _)))); (try (replace CI := Lib.hid (blk_below hb (blk_lt CI.out) CI.out))); (try (replace NS := Lib.hid (NS.out.below hb (Nat.le_refl _)))); (try (replace NQ := Lib.hid (NQ.out.below hb (Nat.le_refl _)))); (try (replace CN := Lib.hid (blk_below hb (blk_lt CN.out) CN.out))); have CI := Lib.hid hci; have h := HF.out _ HBV.out; clear hb hci
        refine hK.out _ _ h (fun hHeld => ?_)
        clear hK K
        try simp only [Act.put, List.setIfInBounds_toArray, List.set_cons_zero, List.set_cons_succ]
        refine wpAnyD_two (i := 7) (j := 13) (oi := { dst := some 60, op := Op.call { callee := Callee.value (Operand.func 25), args := #[Operand.tmp 53, Operand.tmp 59], argTypes := #[26, 47] }, type := 26, pos := "law.go:106", after := #[{ on := 0, ground := Ground.data }, { on := 6, ground := Ground.data }, { on := 5, ground := Ground.chain }], guard := none }) (oj := { dst := some 11, op := Op.alloc 26, type := 0, pos := "law.go:106", after := #[], guard := none }) (by kernel_rfl) rfl rfl (by rfl) (by rfl) (fun K hK => ?_) (fun K hK => ?_)
        ·
          go_simp; refine (add_any _ (n * a) [rs] _ 1 _ (HNP.out _ HBV.out) (nats_one NI.out CI.out) (by simp) HLA.out HLB.out).mono ?_; rintro e V2 ⟨u2, rfl, hn, hb⟩; replace HBV := Lib.hid (HBV.out.trans (hb.mono HBV.out.size)); (try (replace NI := Lib.hid (NI.out.below hb (Nat.le_refl _)))); (try (replace CI := Lib.hid (blk_below hb (blk_lt CI.out) CI.out))); (try (replace NS := Lib.hid (NS.out.below hb (Nat.le_refl _)))); (try (replace NQ := Lib.hid (NQ.out.below hb (Nat.le_refl _)))); (try (replace CN := Lib.hid (blk_below hb (blk_lt CN.out) CN.out))); have NS := Lib.hid hn; have h := HF.out _ HBV.out; clear hn hb
          refine hK.out _ _ h (fun hHeld => ?_)
          clear hK K
          try simp only [Act.put, List.setIfInBounds_toArray, List.set_cons_zero, List.set_cons_succ]
          refine wpAnyD_two (i := 9) (j := 13) (oi := { dst := some 62, op := Op.call { callee := Callee.value (Operand.func 28), args := #[Operand.tmp 60, Operand.tmp 61], argTypes := #[26, 50] }, type := 53, pos := "law.go:106", after := #[{ on := 7, ground := Ground.data }, { on := 8, ground := Ground.data }, { on := 7, ground := Ground.chain }], guard := none }) (oj := { dst := some 11, op := Op.alloc 26, type := 0, pos := "law.go:106", after := #[], guard := none }) (by kernel_rfl) rfl rfl (by rfl) (by rfl) (fun K hK => ?_) (fun K hK => ?_)
          ·
            go_simp; refine (divide_any u2 (n * a + sumL [rs]) n _ NS.out hn2 hn32 HLC.out).mono ?_; rintro e V3 ⟨u3, rfl, hn, hb, _⟩; replace HBV := Lib.hid (HBV.out.trans (hb.mono HBV.out.size)); (try (replace NI := Lib.hid (NI.out.below hb (Nat.le_refl _)))); (try (replace CI := Lib.hid (blk_below hb (blk_lt CI.out) CI.out))); (try (replace NS := Lib.hid (NS.out.below hb (Nat.le_refl _)))); (try (replace NQ := Lib.hid (NQ.out.below hb (Nat.le_refl _)))); (try (replace CN := Lib.hid (blk_below hb (blk_lt CN.out) CN.out))); rw [HDV.out.1] at hn; rw [HDV.out.2]; obtain ⟨AQ, cQ, rfl, hq1, hq2⟩ := hn; have NQ := Lib.hid (show NatIs V3 _ a from ⟨AQ, cQ, rfl, hq1, hq2⟩); have h := HF.out _ HBV.out; clear hq1 hq2 hb
            refine hK.out _ _ h (fun hHeld => ?_)
            clear hK K
            try simp only [Act.put, List.setIfInBounds_toArray, List.set_cons_zero, List.set_cons_succ]
            refine wpAnyD_takeP (i := 10) (oi := { dst := some 52, op := Op.move (Operand.tmp 62), type := 53, pos := "law.go:106", after := #[{ on := 9, ground := Ground.data }], guard := none }) (d := 52) (v := ?_) rfl rfl (by kernel_rfl) (by kernel_rfl) (by kernel_rfl) (fun _ _ _ h => h) (Or.inl ⟨by rfl, ?_⟩) ?_
            rotate_left
            · (intro w' _; go_simp; (try with_reducible rfl))
            simp only [List.setIfInBounds_toArray, List.set_cons_zero, List.set_cons_succ]
            refine wpAnyD_takeP (i := 11) (oi := { dst := some 63, op := Op.extract (Operand.tmp 52) 0, type := 26, pos := "law.go:106", after := #[{ on := 10, ground := Ground.data }], guard := none }) (d := 63) (v := ?_) rfl rfl (by kernel_rfl) (by kernel_rfl) (by kernel_rfl) (fun _ _ _ h => h) (Or.inl ⟨by rfl, ?_⟩) ?_
            rotate_left
            · (intro w' _; go_simp; (try with_reducible rfl))
            simp only [List.setIfInBounds_toArray, List.set_cons_zero, List.set_cons_succ]
            refine wpAnyD_takeP (i := 12) (oi := { dst := some 64, op := Op.extract (Operand.tmp 52) 1, type := 50, pos := "law.go:106", after := #[{ on := 10, ground := Ground.data }, { on := 14, ground := Ground.gcOnly Departure.lateStores }], guard := none }) (d := 64) (v := ?_) rfl rfl (by kernel_rfl) (by kernel_rfl) (by kernel_rfl) (fun _ _ _ h => h) (Or.inl ⟨by rfl, ?_⟩) ?_
            rotate_left
            · (intro w' _; go_simp; (try with_reducible rfl))
            simp only [List.setIfInBounds_toArray, List.set_cons_zero, List.set_cons_succ]
            refine wpAnyD_one (i := 13) (o := { dst := some 11, op := Op.alloc 26, type := 0, pos := "law.go:106", after := #[], guard := none }) (by kernel_rfl) rfl (by rfl) (fun K hK => ?_)
            go_simp; refine gen_alloc HBV.out (fun V6 hb hcn => ?_); have hg := HBV.out.size; replace HBV := Lib.hid (HBV.out.trans (hb.mono HBV.out.size)); (try (replace NI := Lib.hid (NI.out.below hb (Nat.le_refl _)))); (try (replace CI := Lib.hid (blk_below hb (blk_lt CI.out) CI.out))); (try (replace NS := Lib.hid (NS.out.below hb (Nat.le_refl _)))); (try (replace NQ := Lib.hid (NQ.out.below hb (Nat.le_refl _)))); (try (replace CN := Lib.hid (blk_below hb (blk_lt CN.out) CN.out))); have CN := Lib.hid hcn; have HG := Lib.hid hg; have h := HF.out _ HBV.out; clear hb hcn hg
            refine hK.out _ _ h (fun hHeld => ?_)
            clear hK K
            try simp only [Act.put, List.setIfInBounds_toArray, List.set_cons_zero, List.set_cons_succ]
            refine wpAnyD_last (D := 14) (by decide) (o := { dst := none, op := Op.store 26 (Operand.tmp 11) (Operand.tmp 63), type := 0, pos := "law.go:106", after := #[{ on := 13, ground := Ground.data }, { on := 11, ground := Ground.data }, { on := 9, ground := Ground.chain }, { on := 0, ground := Ground.phase }, { on := 1, ground := Ground.phase }, { on := 2, ground := Ground.phase }, { on := 3, ground := Ground.phase }, { on := 4, ground := Ground.phase }, { on := 5, ground := Ground.phase }, { on := 6, ground := Ground.phase }, { on := 7, ground := Ground.phase }, { on := 8, ground := Ground.phase }, { on := 9, ground := Ground.phase }, { on := 10, ground := Ground.phase }, { on := 11, ground := Ground.phase }, { on := 12, ground := Ground.textOnly Departure.lateStores }, { on := 13, ground := Ground.phase }], guard := none }) (by kernel_rfl) rfl (by rfl) (fun K hK => ?_)
            obtain ⟨z0, z1⟩ := cell_facts CN.out; go_simp; have HNQ := Lib.hid (NatIs.put NQ.out CN.out (sl_ne_u32 _ _ _) (.slice AQ (dg B32 a).length cQ)); have HCQ := Lib.hid (cell_put CN.out (.slice AQ (dg B32 a).length cQ)); replace HBV := Lib.hid (set_hb CN.out HBV.out HG.out (.slice AQ (dg B32 a).length cQ)); refine gen_set1 rfl (fun VZ hVZ => ?_); rw [← hVZ] at HNQ HCQ HBV; clear hVZ z0 z1 CN NQ NS CI NI
            refine hK.out _ _ ?_
            clear hK K
            try simp only [Act.put, List.setIfInBounds_toArray, List.set_cons_zero, List.set_cons_succ]
            refine wpAnyD_takeP (i := 15) (oi := { dst := some 12, op := Op.assign (Operand.tmp 64), type := 50, pos := "law.go:106", after := #[{ on := 12, ground := Ground.data }, { on := 14, ground := Ground.chain }, { on := 0, ground := Ground.phase }, { on := 1, ground := Ground.phase }, { on := 2, ground := Ground.phase }, { on := 3, ground := Ground.phase }, { on := 4, ground := Ground.phase }, { on := 5, ground := Ground.phase }, { on := 6, ground := Ground.phase }, { on := 7, ground := Ground.phase }, { on := 8, ground := Ground.phase }, { on := 9, ground := Ground.phase }, { on := 10, ground := Ground.phase }, { on := 11, ground := Ground.phase }, { on := 12, ground := Ground.phase }, { on := 13, ground := Ground.phase }, { on := 14, ground := Ground.phase }], guard := none }) (d := 12) (v := ?_) rfl rfl (by kernel_rfl) (by kernel_rfl) (by kernel_rfl) (fun _ _ _ h => h) (Or.inl ⟨by rfl, ?_⟩) ?_
            rotate_left
            · (intro w' _; go_simp; (try with_reducible rfl))
            simp only [List.setIfInBounds_toArray, List.set_cons_zero, List.set_cons_succ]
            refine wpAnyD_done (by kernel_rfl) ?_ _
            have hcx := HCX.out _ HBV.out
            have hnx := HNX.out _ HBV.out
            have HBW := Lib.hid (HB.out.trans (HBV.out.mono HB.out.size))
            have HNXX := Lib.hid hnx
            obtain ⟨g0, _⟩ := cell_facts hcx
            obtain ⟨g1, _⟩ := cell_facts HCQ.out
            clear hcx hnx
            go_wp2_with fail
            refine (compare_any _ _ a a _ HNQ.out HNXX.out (by have := HL.out; omega) (by have := HL.out; omega)).mono ?_
            rintro e Z1 ⟨rfl, hb⟩
            replace HBW := Lib.hid (HBW.out.trans (hb.mono HBW.out.size))
            rw [show cmpN a a = 0 by unfold cmpN; rw [if_neg (by omega), if_neg (by omega)]]
            clear hb g0 g1
            go_wp2_with fail
            refine (awake_any _).mono ?_
            rintro e Z2 ⟨rfl, hb⟩
            replace HBW := Lib.hid (HBW.out.trans (hb.mono HBW.out.size))
            clear hb
            go_wp2_with fail
            go_ret
            exact ⟨by simp, HBW.out⟩
          ·
            go_simp; refine gen_alloc HBV.out (fun V6 hb hcn => ?_); have hg := HBV.out.size; replace HBV := Lib.hid (HBV.out.trans (hb.mono HBV.out.size)); (try (replace NI := Lib.hid (NI.out.below hb (Nat.le_refl _)))); (try (replace CI := Lib.hid (blk_below hb (blk_lt CI.out) CI.out))); (try (replace NS := Lib.hid (NS.out.below hb (Nat.le_refl _)))); (try (replace NQ := Lib.hid (NQ.out.below hb (Nat.le_refl _)))); (try (replace CN := Lib.hid (blk_below hb (blk_lt CN.out) CN.out))); have CN := Lib.hid hcn; have HG := Lib.hid hg; have h := HF.out _ HBV.out; clear hb hcn hg
            refine hK.out _ _ h (fun hHeld => ?_)
            clear hK K
            try simp only [Act.put, List.setIfInBounds_toArray, List.set_cons_zero, List.set_cons_succ]
            refine wpAnyD_one (i := 9) (o := { dst := some 62, op := Op.call { callee := Callee.value (Operand.func 28), args := #[Operand.tmp 60, Operand.tmp 61], argTypes := #[26, 50] }, type := 53, pos := "law.go:106", after := #[{ on := 7, ground := Ground.data }, { on := 8, ground := Ground.data }, { on := 7, ground := Ground.chain }], guard := none }) (by kernel_rfl) rfl (by rfl) (fun K hK => ?_)
            go_simp; refine (divide_any u2 (n * a + sumL [rs]) n _ NS.out hn2 hn32 HLC.out).mono ?_; rintro e V3 ⟨u3, rfl, hn, hb, _⟩; replace HBV := Lib.hid (HBV.out.trans (hb.mono HBV.out.size)); (try (replace NI := Lib.hid (NI.out.below hb (Nat.le_refl _)))); (try (replace CI := Lib.hid (blk_below hb (blk_lt CI.out) CI.out))); (try (replace NS := Lib.hid (NS.out.below hb (Nat.le_refl _)))); (try (replace NQ := Lib.hid (NQ.out.below hb (Nat.le_refl _)))); (try (replace CN := Lib.hid (blk_below hb (blk_lt CN.out) CN.out))); rw [HDV.out.1] at hn; rw [HDV.out.2]; obtain ⟨AQ, cQ, rfl, hq1, hq2⟩ := hn; have NQ := Lib.hid (show NatIs V3 _ a from ⟨AQ, cQ, rfl, hq1, hq2⟩); have h := HF.out _ HBV.out; clear hq1 hq2 hb
            refine hK.out _ _ h (fun hHeld => ?_)
            clear hK K
            try simp only [Act.put, List.setIfInBounds_toArray, List.set_cons_zero, List.set_cons_succ]
            refine wpAnyD_takeP (i := 10) (oi := { dst := some 52, op := Op.move (Operand.tmp 62), type := 53, pos := "law.go:106", after := #[{ on := 9, ground := Ground.data }], guard := none }) (d := 52) (v := ?_) rfl rfl (by kernel_rfl) (by kernel_rfl) (by kernel_rfl) (fun _ _ _ h => h) (Or.inl ⟨by rfl, ?_⟩) ?_
            rotate_left
            · (intro w' _; go_simp; (try with_reducible rfl))
            simp only [List.setIfInBounds_toArray, List.set_cons_zero, List.set_cons_succ]
            refine wpAnyD_takeP (i := 11) (oi := { dst := some 63, op := Op.extract (Operand.tmp 52) 0, type := 26, pos := "law.go:106", after := #[{ on := 10, ground := Ground.data }], guard := none }) (d := 63) (v := ?_) rfl rfl (by kernel_rfl) (by kernel_rfl) (by kernel_rfl) (fun _ _ _ h => h) (Or.inl ⟨by rfl, ?_⟩) ?_
            rotate_left
            · (intro w' _; go_simp; (try with_reducible rfl))
            simp only [List.setIfInBounds_toArray, List.set_cons_zero, List.set_cons_succ]
            refine wpAnyD_takeP (i := 12) (oi := { dst := some 64, op := Op.extract (Operand.tmp 52) 1, type := 50, pos := "law.go:106", after := #[{ on := 10, ground := Ground.data }, { on := 14, ground := Ground.gcOnly Departure.lateStores }], guard := none }) (d := 64) (v := ?_) rfl rfl (by kernel_rfl) (by kernel_rfl) (by kernel_rfl) (fun _ _ _ h => h) (Or.inl ⟨by rfl, ?_⟩) ?_
            rotate_left
            · (intro w' _; go_simp; (try with_reducible rfl))
            simp only [List.setIfInBounds_toArray, List.set_cons_zero, List.set_cons_succ]
            refine wpAnyD_last (D := 14) (by decide) (o := { dst := none, op := Op.store 26 (Operand.tmp 11) (Operand.tmp 63), type := 0, pos := "law.go:106", after := #[{ on := 13, ground := Ground.data }, { on := 11, ground := Ground.data }, { on := 9, ground := Ground.chain }, { on := 0, ground := Ground.phase }, { on := 1, ground := Ground.phase }, { on := 2, ground := Ground.phase }, { on := 3, ground := Ground.phase }, { on := 4, ground := Ground.phase }, { on := 5, ground := Ground.phase }, { on := 6, ground := Ground.phase }, { on := 7, ground := Ground.phase }, { on := 8, ground := Ground.phase }, { on := 9, ground := Ground.phase }, { on := 10, ground := Ground.phase }, { on := 11, ground := Ground.phase }, { on := 12, ground := Ground.textOnly Departure.lateStores }, { on := 13, ground := Ground.phase }], guard := none }) (by kernel_rfl) rfl (by rfl) (fun K hK => ?_)
            obtain ⟨z0, z1⟩ := cell_facts CN.out; go_simp; have HNQ := Lib.hid (NatIs.put NQ.out CN.out (sl_ne_u32 _ _ _) (.slice AQ (dg B32 a).length cQ)); have HCQ := Lib.hid (cell_put CN.out (.slice AQ (dg B32 a).length cQ)); replace HBV := Lib.hid (set_hb CN.out HBV.out HG.out (.slice AQ (dg B32 a).length cQ)); refine gen_set1 rfl (fun VZ hVZ => ?_); rw [← hVZ] at HNQ HCQ HBV; clear hVZ z0 z1 CN NQ NS CI NI
            refine hK.out _ _ ?_
            clear hK K
            try simp only [Act.put, List.setIfInBounds_toArray, List.set_cons_zero, List.set_cons_succ]
            refine wpAnyD_takeP (i := 15) (oi := { dst := some 12, op := Op.assign (Operand.tmp 64), type := 50, pos := "law.go:106", after := #[{ on := 12, ground := Ground.data }, { on := 14, ground := Ground.chain }, { on := 0, ground := Ground.phase }, { on := 1, ground := Ground.phase }, { on := 2, ground := Ground.phase }, { on := 3, ground := Ground.phase }, { on := 4, ground := Ground.phase }, { on := 5, ground := Ground.phase }, { on := 6, ground := Ground.phase }, { on := 7, ground := Ground.phase }, { on := 8, ground := Ground.phase }, { on := 9, ground := Ground.phase }, { on := 10, ground := Ground.phase }, { on := 11, ground := Ground.phase }, { on := 12, ground := Ground.phase }, { on := 13, ground := Ground.phase }, { on := 14, ground := Ground.phase }], guard := none }) (d := 12) (v := ?_) rfl rfl (by kernel_rfl) (by kernel_rfl) (by kernel_rfl) (fun _ _ _ h => h) (Or.inl ⟨by rfl, ?_⟩) ?_
            rotate_left
            · (intro w' _; go_simp; (try with_reducible rfl))
            simp only [List.setIfInBounds_toArray, List.set_cons_zero, List.set_cons_succ]
            refine wpAnyD_done (by kernel_rfl) ?_ _
            have hcx := HCX.out _ HBV.out
            have hnx := HNX.out _ HBV.out
            have HBW := Lib.hid (HB.out.trans (HBV.out.mono HB.out.size))
            have HNXX := Lib.hid hnx
            obtain ⟨g0, _⟩ := cell_facts hcx
            obtain ⟨g1, _⟩ := cell_facts HCQ.out
            clear hcx hnx
            go_wp2_with fail
            refine (compare_any _ _ a a _ HNQ.out HNXX.out (by have := HL.out; omega) (by have := HL.out; omega)).mono ?_
            rintro e Z1 ⟨rfl, hb⟩
            replace HBW := Lib.hid (HBW.out.trans (hb.mono HBW.out.size))
            rw [show cmpN a a = 0 by unfold cmpN; rw [if_neg (by omega), if_neg (by omega)]]
            clear hb g0 g1
            go_wp2_with fail
            refine (awake_any _).mono ?_
            rintro e Z2 ⟨rfl, hb⟩
            replace HBW := Lib.hid (HBW.out.trans (hb.mono HBW.out.size))
            clear hb
            go_wp2_with fail
            go_ret
            exact ⟨by simp, HBW.out⟩
        ·
          go_simp; refine gen_alloc HBV.out (fun V6 hb hcn => ?_); have hg := HBV.out.size; replace HBV := Lib.hid (HBV.out.trans (hb.mono HBV.out.size)); (try (replace NI := Lib.hid (NI.out.below hb (Nat.le_refl _)))); (try (replace CI := Lib.hid (blk_below hb (blk_lt CI.out) CI.out))); (try (replace NS := Lib.hid (NS.out.below hb (Nat.le_refl _)))); (try (replace NQ := Lib.hid (NQ.out.below hb (Nat.le_refl _)))); (try (replace CN := Lib.hid (blk_below hb (blk_lt CN.out) CN.out))); have CN := Lib.hid hcn; have HG := Lib.hid hg; have h := HF.out _ HBV.out; clear hb hcn hg
          refine hK.out _ _ h (fun hHeld => ?_)
          clear hK K
          try simp only [Act.put, List.setIfInBounds_toArray, List.set_cons_zero, List.set_cons_succ]
          refine wpAnyD_one (i := 7) (o := { dst := some 60, op := Op.call { callee := Callee.value (Operand.func 25), args := #[Operand.tmp 53, Operand.tmp 59], argTypes := #[26, 47] }, type := 26, pos := "law.go:106", after := #[{ on := 0, ground := Ground.data }, { on := 6, ground := Ground.data }, { on := 5, ground := Ground.chain }], guard := none }) (by kernel_rfl) rfl (by rfl) (fun K hK => ?_)
          go_simp; refine (add_any _ (n * a) [rs] _ 1 _ (HNP.out _ HBV.out) (nats_one NI.out CI.out) (by simp) HLA.out HLB.out).mono ?_; rintro e V2 ⟨u2, rfl, hn, hb⟩; replace HBV := Lib.hid (HBV.out.trans (hb.mono HBV.out.size)); (try (replace NI := Lib.hid (NI.out.below hb (Nat.le_refl _)))); (try (replace CI := Lib.hid (blk_below hb (blk_lt CI.out) CI.out))); (try (replace NS := Lib.hid (NS.out.below hb (Nat.le_refl _)))); (try (replace NQ := Lib.hid (NQ.out.below hb (Nat.le_refl _)))); (try (replace CN := Lib.hid (blk_below hb (blk_lt CN.out) CN.out))); have NS := Lib.hid hn; have h := HF.out _ HBV.out; clear hn hb
          refine hK.out _ _ h (fun hHeld => ?_)
          clear hK K
          try simp only [Act.put, List.setIfInBounds_toArray, List.set_cons_zero, List.set_cons_succ]
          refine wpAnyD_one (i := 9) (o := { dst := some 62, op := Op.call { callee := Callee.value (Operand.func 28), args := #[Operand.tmp 60, Operand.tmp 61], argTypes := #[26, 50] }, type := 53, pos := "law.go:106", after := #[{ on := 7, ground := Ground.data }, { on := 8, ground := Ground.data }, { on := 7, ground := Ground.chain }], guard := none }) (by kernel_rfl) rfl (by rfl) (fun K hK => ?_)
          go_simp; refine (divide_any u2 (n * a + sumL [rs]) n _ NS.out hn2 hn32 HLC.out).mono ?_; rintro e V3 ⟨u3, rfl, hn, hb, _⟩; replace HBV := Lib.hid (HBV.out.trans (hb.mono HBV.out.size)); (try (replace NI := Lib.hid (NI.out.below hb (Nat.le_refl _)))); (try (replace CI := Lib.hid (blk_below hb (blk_lt CI.out) CI.out))); (try (replace NS := Lib.hid (NS.out.below hb (Nat.le_refl _)))); (try (replace NQ := Lib.hid (NQ.out.below hb (Nat.le_refl _)))); (try (replace CN := Lib.hid (blk_below hb (blk_lt CN.out) CN.out))); rw [HDV.out.1] at hn; rw [HDV.out.2]; obtain ⟨AQ, cQ, rfl, hq1, hq2⟩ := hn; have NQ := Lib.hid (show NatIs V3 _ a from ⟨AQ, cQ, rfl, hq1, hq2⟩); have h := HF.out _ HBV.out; clear hq1 hq2 hb
          refine hK.out _ _ h (fun hHeld => ?_)
          clear hK K
          try simp only [Act.put, List.setIfInBounds_toArray, List.set_cons_zero, List.set_cons_succ]
          refine wpAnyD_takeP (i := 10) (oi := { dst := some 52, op := Op.move (Operand.tmp 62), type := 53, pos := "law.go:106", after := #[{ on := 9, ground := Ground.data }], guard := none }) (d := 52) (v := ?_) rfl rfl (by kernel_rfl) (by kernel_rfl) (by kernel_rfl) (fun _ _ _ h => h) (Or.inl ⟨by rfl, ?_⟩) ?_
          rotate_left
          · (intro w' _; go_simp; (try with_reducible rfl))
          simp only [List.setIfInBounds_toArray, List.set_cons_zero, List.set_cons_succ]
          refine wpAnyD_takeP (i := 11) (oi := { dst := some 63, op := Op.extract (Operand.tmp 52) 0, type := 26, pos := "law.go:106", after := #[{ on := 10, ground := Ground.data }], guard := none }) (d := 63) (v := ?_) rfl rfl (by kernel_rfl) (by kernel_rfl) (by kernel_rfl) (fun _ _ _ h => h) (Or.inl ⟨by rfl, ?_⟩) ?_
          rotate_left
          · (intro w' _; go_simp; (try with_reducible rfl))
          simp only [List.setIfInBounds_toArray, List.set_cons_zero, List.set_cons_succ]
          refine wpAnyD_takeP (i := 12) (oi := { dst := some 64, op := Op.extract (Operand.tmp 52) 1, type := 50, pos := "law.go:106", after := #[{ on := 10, ground := Ground.data }, { on := 14, ground := Ground.gcOnly Departure.lateStores }], guard := none }) (d := 64) (v := ?_) rfl rfl (by kernel_rfl) (by kernel_rfl) (by kernel_rfl) (fun _ _ _ h => h) (Or.inl ⟨by rfl, ?_⟩) ?_
          rotate_left
          · (intro w' _; go_simp; (try with_reducible rfl))
          simp only [List.setIfInBounds_toArray, List.set_cons_zero, List.set_cons_succ]
          refine wpAnyD_last (D := 14) (by decide) (o := { dst := none, op := Op.store 26 (Operand.tmp 11) (Operand.tmp 63), type := 0, pos := "law.go:106", after := #[{ on := 13, ground := Ground.data }, { on := 11, ground := Ground.data }, { on := 9, ground := Ground.chain }, { on := 0, ground := Ground.phase }, { on := 1, ground := Ground.phase }, { on := 2, ground := Ground.phase }, { on := 3, ground := Ground.phase }, { on := 4, ground := Ground.phase }, { on := 5, ground := Ground.phase }, { on := 6, ground := Ground.phase }, { on := 7, ground := Ground.phase }, { on := 8, ground := Ground.phase }, { on := 9, ground := Ground.phase }, { on := 10, ground := Ground.phase }, { on := 11, ground := Ground.phase }, { on := 12, ground := Ground.textOnly Departure.lateStores }, { on := 13, ground := Ground.phase }], guard := none }) (by kernel_rfl) rfl (by rfl) (fun K hK => ?_)
          obtain ⟨z0, z1⟩ := cell_facts CN.out; go_simp; have HNQ := Lib.hid (NatIs.put NQ.out CN.out (sl_ne_u32 _ _ _) (.slice AQ (dg B32 a).length cQ)); have HCQ := Lib.hid (cell_put CN.out (.slice AQ (dg B32 a).length cQ)); replace HBV := Lib.hid (set_hb CN.out HBV.out HG.out (.slice AQ (dg B32 a).length cQ)); refine gen_set1 rfl (fun VZ hVZ => ?_); rw [← hVZ] at HNQ HCQ HBV; clear hVZ z0 z1 CN NQ NS CI NI
          refine hK.out _ _ ?_
          clear hK K
          try simp only [Act.put, List.setIfInBounds_toArray, List.set_cons_zero, List.set_cons_succ]
          refine wpAnyD_takeP (i := 15) (oi := { dst := some 12, op := Op.assign (Operand.tmp 64), type := 50, pos := "law.go:106", after := #[{ on := 12, ground := Ground.data }, { on := 14, ground := Ground.chain }, { on := 0, ground := Ground.phase }, { on := 1, ground := Ground.phase }, { on := 2, ground := Ground.phase }, { on := 3, ground := Ground.phase }, { on := 4, ground := Ground.phase }, { on := 5, ground := Ground.phase }, { on := 6, ground := Ground.phase }, { on := 7, ground := Ground.phase }, { on := 8, ground := Ground.phase }, { on := 9, ground := Ground.phase }, { on := 10, ground := Ground.phase }, { on := 11, ground := Ground.phase }, { on := 12, ground := Ground.phase }, { on := 13, ground := Ground.phase }, { on := 14, ground := Ground.phase }], guard := none }) (d := 12) (v := ?_) rfl rfl (by kernel_rfl) (by kernel_rfl) (by kernel_rfl) (fun _ _ _ h => h) (Or.inl ⟨by rfl, ?_⟩) ?_
          rotate_left
          · (intro w' _; go_simp; (try with_reducible rfl))
          simp only [List.setIfInBounds_toArray, List.set_cons_zero, List.set_cons_succ]
          refine wpAnyD_done (by kernel_rfl) ?_ _
          have hcx := HCX.out _ HBV.out
          have hnx := HNX.out _ HBV.out
          have HBW := Lib.hid (HB.out.trans (HBV.out.mono HB.out.size))
          have HNXX := Lib.hid hnx
          obtain ⟨g0, _⟩ := cell_facts hcx
          obtain ⟨g1, _⟩ := cell_facts HCQ.out
          clear hcx hnx
          go_wp2_with fail
          refine (compare_any _ _ a a _ HNQ.out HNXX.out (by have := HL.out; omega) (by have := HL.out; omega)).mono ?_
          rintro e Z1 ⟨rfl, hb⟩
          replace HBW := Lib.hid (HBW.out.trans (hb.mono HBW.out.size))
          rw [show cmpN a a = 0 by unfold cmpN; rw [if_neg (by omega), if_neg (by omega)]]
          clear hb g0 g1
          go_wp2_with fail
          refine (awake_any _).mono ?_
          rintro e Z2 ⟨rfl, hb⟩
          replace HBW := Lib.hid (HBW.out.trans (hb.mono HBW.out.size))
          clear hb
          go_wp2_with fail
          go_ret
          exact ⟨by simp, HBW.out⟩
      ·
        go_simp; refine gen_alloc HBV.out (fun V6 hb hcn => ?_); have hg := HBV.out.size; replace HBV := Lib.hid (HBV.out.trans (hb.mono HBV.out.size)); (try (replace NI := Lib.hid (NI.out.below hb (Nat.le_refl _)))); (try (replace CI := Lib.hid (blk_below hb (blk_lt CI.out) CI.out))); (try (replace NS := Lib.hid (NS.out.below hb (Nat.le_refl _)))); (try (replace NQ := Lib.hid (NQ.out.below hb (Nat.le_refl _)))); (try (replace CN := Lib.hid (blk_below hb (blk_lt CN.out) CN.out))); have CN := Lib.hid hcn; have HG := Lib.hid hg; have h := HF.out _ HBV.out; clear hb hcn hg
        refine hK.out _ _ h (fun hHeld => ?_)
        clear hK K
        try simp only [Act.put, List.setIfInBounds_toArray, List.set_cons_zero, List.set_cons_succ]
        refine wpAnyD_one (i := 6) (o := { dst := some 59, op := Op.buildSlice 47 1 #[(0, Operand.tmp 58)], type := 47, pos := "law.go:106", after := #[{ on := 5, ground := Ground.data }], guard := none }) (by kernel_rfl) rfl (by rfl) (fun K hK => ?_)
        go_simp; refine gen_alloc HBV.out (fun V5 hb hci => ?_); replace HBV := Lib.hid (HBV.out.trans (hb.mono HBV.out.size)); (try (replace NI := Lib.hid (NI.out.below hb (Nat.le_refl _)))); (try (replace CI := Lib.hid (blk_below hb (blk_lt CI.out) CI.out))); (try (replace NS := Lib.hid (NS.out.below hb (Nat.le_refl _)))); (try (replace NQ := Lib.hid (NQ.out.below hb (Nat.le_refl _)))); (try (replace CN := Lib.hid (blk_below hb (blk_lt CN.out) CN.out))); have CI := Lib.hid hci; have h := HF.out _ HBV.out; clear hb hci
        refine hK.out _ _ h (fun hHeld => ?_)
        clear hK K
        try simp only [Act.put, List.setIfInBounds_toArray, List.set_cons_zero, List.set_cons_succ]
        refine wpAnyD_one (i := 7) (o := { dst := some 60, op := Op.call { callee := Callee.value (Operand.func 25), args := #[Operand.tmp 53, Operand.tmp 59], argTypes := #[26, 47] }, type := 26, pos := "law.go:106", after := #[{ on := 0, ground := Ground.data }, { on := 6, ground := Ground.data }, { on := 5, ground := Ground.chain }], guard := none }) (by kernel_rfl) rfl (by rfl) (fun K hK => ?_)
        go_simp; refine (add_any _ (n * a) [rs] _ 1 _ (HNP.out _ HBV.out) (nats_one NI.out CI.out) (by simp) HLA.out HLB.out).mono ?_; rintro e V2 ⟨u2, rfl, hn, hb⟩; replace HBV := Lib.hid (HBV.out.trans (hb.mono HBV.out.size)); (try (replace NI := Lib.hid (NI.out.below hb (Nat.le_refl _)))); (try (replace CI := Lib.hid (blk_below hb (blk_lt CI.out) CI.out))); (try (replace NS := Lib.hid (NS.out.below hb (Nat.le_refl _)))); (try (replace NQ := Lib.hid (NQ.out.below hb (Nat.le_refl _)))); (try (replace CN := Lib.hid (blk_below hb (blk_lt CN.out) CN.out))); have NS := Lib.hid hn; have h := HF.out _ HBV.out; clear hn hb
        refine hK.out _ _ h (fun hHeld => ?_)
        clear hK K
        try simp only [Act.put, List.setIfInBounds_toArray, List.set_cons_zero, List.set_cons_succ]
        refine wpAnyD_one (i := 9) (o := { dst := some 62, op := Op.call { callee := Callee.value (Operand.func 28), args := #[Operand.tmp 60, Operand.tmp 61], argTypes := #[26, 50] }, type := 53, pos := "law.go:106", after := #[{ on := 7, ground := Ground.data }, { on := 8, ground := Ground.data }, { on := 7, ground := Ground.chain }], guard := none }) (by kernel_rfl) rfl (by rfl) (fun K hK => ?_)
        go_simp; refine (divide_any u2 (n * a + sumL [rs]) n _ NS.out hn2 hn32 HLC.out).mono ?_; rintro e V3 ⟨u3, rfl, hn, hb, _⟩; replace HBV := Lib.hid (HBV.out.trans (hb.mono HBV.out.size)); (try (replace NI := Lib.hid (NI.out.below hb (Nat.le_refl _)))); (try (replace CI := Lib.hid (blk_below hb (blk_lt CI.out) CI.out))); (try (replace NS := Lib.hid (NS.out.below hb (Nat.le_refl _)))); (try (replace NQ := Lib.hid (NQ.out.below hb (Nat.le_refl _)))); (try (replace CN := Lib.hid (blk_below hb (blk_lt CN.out) CN.out))); rw [HDV.out.1] at hn; rw [HDV.out.2]; obtain ⟨AQ, cQ, rfl, hq1, hq2⟩ := hn; have NQ := Lib.hid (show NatIs V3 _ a from ⟨AQ, cQ, rfl, hq1, hq2⟩); have h := HF.out _ HBV.out; clear hq1 hq2 hb
        refine hK.out _ _ h (fun hHeld => ?_)
        clear hK K
        try simp only [Act.put, List.setIfInBounds_toArray, List.set_cons_zero, List.set_cons_succ]
        refine wpAnyD_takeP (i := 10) (oi := { dst := some 52, op := Op.move (Operand.tmp 62), type := 53, pos := "law.go:106", after := #[{ on := 9, ground := Ground.data }], guard := none }) (d := 52) (v := ?_) rfl rfl (by kernel_rfl) (by kernel_rfl) (by kernel_rfl) (fun _ _ _ h => h) (Or.inl ⟨by rfl, ?_⟩) ?_
        rotate_left
        · (intro w' _; go_simp; (try with_reducible rfl))
        simp only [List.setIfInBounds_toArray, List.set_cons_zero, List.set_cons_succ]
        refine wpAnyD_takeP (i := 11) (oi := { dst := some 63, op := Op.extract (Operand.tmp 52) 0, type := 26, pos := "law.go:106", after := #[{ on := 10, ground := Ground.data }], guard := none }) (d := 63) (v := ?_) rfl rfl (by kernel_rfl) (by kernel_rfl) (by kernel_rfl) (fun _ _ _ h => h) (Or.inl ⟨by rfl, ?_⟩) ?_
        rotate_left
        · (intro w' _; go_simp; (try with_reducible rfl))
        simp only [List.setIfInBounds_toArray, List.set_cons_zero, List.set_cons_succ]
        refine wpAnyD_takeP (i := 12) (oi := { dst := some 64, op := Op.extract (Operand.tmp 52) 1, type := 50, pos := "law.go:106", after := #[{ on := 10, ground := Ground.data }, { on := 14, ground := Ground.gcOnly Departure.lateStores }], guard := none }) (d := 64) (v := ?_) rfl rfl (by kernel_rfl) (by kernel_rfl) (by kernel_rfl) (fun _ _ _ h => h) (Or.inl ⟨by rfl, ?_⟩) ?_
        rotate_left
        · (intro w' _; go_simp; (try with_reducible rfl))
        simp only [List.setIfInBounds_toArray, List.set_cons_zero, List.set_cons_succ]
        refine wpAnyD_last (D := 14) (by decide) (o := { dst := none, op := Op.store 26 (Operand.tmp 11) (Operand.tmp 63), type := 0, pos := "law.go:106", after := #[{ on := 13, ground := Ground.data }, { on := 11, ground := Ground.data }, { on := 9, ground := Ground.chain }, { on := 0, ground := Ground.phase }, { on := 1, ground := Ground.phase }, { on := 2, ground := Ground.phase }, { on := 3, ground := Ground.phase }, { on := 4, ground := Ground.phase }, { on := 5, ground := Ground.phase }, { on := 6, ground := Ground.phase }, { on := 7, ground := Ground.phase }, { on := 8, ground := Ground.phase }, { on := 9, ground := Ground.phase }, { on := 10, ground := Ground.phase }, { on := 11, ground := Ground.phase }, { on := 12, ground := Ground.textOnly Departure.lateStores }, { on := 13, ground := Ground.phase }], guard := none }) (by kernel_rfl) rfl (by rfl) (fun K hK => ?_)
        obtain ⟨z0, z1⟩ := cell_facts CN.out; go_simp; have HNQ := Lib.hid (NatIs.put NQ.out CN.out (sl_ne_u32 _ _ _) (.slice AQ (dg B32 a).length cQ)); have HCQ := Lib.hid (cell_put CN.out (.slice AQ (dg B32 a).length cQ)); replace HBV := Lib.hid (set_hb CN.out HBV.out HG.out (.slice AQ (dg B32 a).length cQ)); refine gen_set1 rfl (fun VZ hVZ => ?_); rw [← hVZ] at HNQ HCQ HBV; clear hVZ z0 z1 CN NQ NS CI NI
        refine hK.out _ _ ?_
        clear hK K
        try simp only [Act.put, List.setIfInBounds_toArray, List.set_cons_zero, List.set_cons_succ]
        refine wpAnyD_takeP (i := 15) (oi := { dst := some 12, op := Op.assign (Operand.tmp 64), type := 50, pos := "law.go:106", after := #[{ on := 12, ground := Ground.data }, { on := 14, ground := Ground.chain }, { on := 0, ground := Ground.phase }, { on := 1, ground := Ground.phase }, { on := 2, ground := Ground.phase }, { on := 3, ground := Ground.phase }, { on := 4, ground := Ground.phase }, { on := 5, ground := Ground.phase }, { on := 6, ground := Ground.phase }, { on := 7, ground := Ground.phase }, { on := 8, ground := Ground.phase }, { on := 9, ground := Ground.phase }, { on := 10, ground := Ground.phase }, { on := 11, ground := Ground.phase }, { on := 12, ground := Ground.phase }, { on := 13, ground := Ground.phase }, { on := 14, ground := Ground.phase }], guard := none }) (d := 12) (v := ?_) rfl rfl (by kernel_rfl) (by kernel_rfl) (by kernel_rfl) (fun _ _ _ h => h) (Or.inl ⟨by rfl, ?_⟩) ?_
        rotate_left
        · (intro w' _; go_simp; (try with_reducible rfl))
        simp only [List.setIfInBounds_toArray, List.set_cons_zero, List.set_cons_succ]
        refine wpAnyD_done (by kernel_rfl) ?_ _
        have hcx := HCX.out _ HBV.out
        have hnx := HNX.out _ HBV.out
        have HBW := Lib.hid (HB.out.trans (HBV.out.mono HB.out.size))
        have HNXX := Lib.hid hnx
        obtain ⟨g0, _⟩ := cell_facts hcx
        obtain ⟨g1, _⟩ := cell_facts HCQ.out
        clear hcx hnx
        go_wp2_with fail
        refine (compare_any _ _ a a _ HNQ.out HNXX.out (by have := HL.out; omega) (by have := HL.out; omega)).mono ?_
        rintro e Z1 ⟨rfl, hb⟩
        replace HBW := Lib.hid (HBW.out.trans (hb.mono HBW.out.size))
        rw [show cmpN a a = 0 by unfold cmpN; rw [if_neg (by omega), if_neg (by omega)]]
        clear hb g0 g1
        go_wp2_with fail
        refine (awake_any _).mono ?_
        rintro e Z2 ⟨rfl, hb⟩
        replace HBW := Lib.hid (HBW.out.trans (hb.mono HBW.out.size))
        clear hb
        go_wp2_with fail
        go_ret
        exact ⟨by simp, HBW.out⟩
    ·
      go_simp; refine gen_alloc HBV.out (fun V6 hb hcn => ?_); have hg := HBV.out.size; replace HBV := Lib.hid (HBV.out.trans (hb.mono HBV.out.size)); (try (replace NI := Lib.hid (NI.out.below hb (Nat.le_refl _)))); (try (replace CI := Lib.hid (blk_below hb (blk_lt CI.out) CI.out))); (try (replace NS := Lib.hid (NS.out.below hb (Nat.le_refl _)))); (try (replace NQ := Lib.hid (NQ.out.below hb (Nat.le_refl _)))); (try (replace CN := Lib.hid (blk_below hb (blk_lt CN.out) CN.out))); have CN := Lib.hid hcn; have HG := Lib.hid hg; have h := HF.out _ HBV.out; clear hb hcn hg
      refine hK.out _ _ h (fun hHeld => ?_)
      clear hK K
      try simp only [Act.put, List.setIfInBounds_toArray, List.set_cons_zero, List.set_cons_succ]
      refine wpAnyD_one (i := 5) (o := { dst := some 58, op := Op.call { callee := Callee.value (Operand.func 21), args := #[Operand.tmp 57], argTypes := #[39] }, type := 26, pos := "law.go:106", after := #[{ on := 4, ground := Ground.data }], guard := none }) (by kernel_rfl) rfl (by rfl) (fun K hK => ?_)
      go_simp; refine (int_any rs _ hrs18).mono ?_; rintro e V1 ⟨u1, rfl, hn, hb⟩; replace HBV := Lib.hid (HBV.out.trans (hb.mono HBV.out.size)); (try (replace NI := Lib.hid (NI.out.below hb (Nat.le_refl _)))); (try (replace CI := Lib.hid (blk_below hb (blk_lt CI.out) CI.out))); (try (replace NS := Lib.hid (NS.out.below hb (Nat.le_refl _)))); (try (replace NQ := Lib.hid (NQ.out.below hb (Nat.le_refl _)))); (try (replace CN := Lib.hid (blk_below hb (blk_lt CN.out) CN.out))); obtain ⟨AI, cI, rfl, hq1, hq2⟩ := hn; have NI := Lib.hid (show NatIs V1 _ rs from ⟨AI, cI, rfl, hq1, hq2⟩); have h := HF.out _ HBV.out; clear hq1 hq2 hb
      refine hK.out _ _ h (fun hHeld => ?_)
      clear hK K
      try simp only [Act.put, List.setIfInBounds_toArray, List.set_cons_zero, List.set_cons_succ]
      refine wpAnyD_one (i := 6) (o := { dst := some 59, op := Op.buildSlice 47 1 #[(0, Operand.tmp 58)], type := 47, pos := "law.go:106", after := #[{ on := 5, ground := Ground.data }], guard := none }) (by kernel_rfl) rfl (by rfl) (fun K hK => ?_)
      go_simp; refine gen_alloc HBV.out (fun V5 hb hci => ?_); replace HBV := Lib.hid (HBV.out.trans (hb.mono HBV.out.size)); (try (replace NI := Lib.hid (NI.out.below hb (Nat.le_refl _)))); (try (replace CI := Lib.hid (blk_below hb (blk_lt CI.out) CI.out))); (try (replace NS := Lib.hid (NS.out.below hb (Nat.le_refl _)))); (try (replace NQ := Lib.hid (NQ.out.below hb (Nat.le_refl _)))); (try (replace CN := Lib.hid (blk_below hb (blk_lt CN.out) CN.out))); have CI := Lib.hid hci; have h := HF.out _ HBV.out; clear hb hci
      refine hK.out _ _ h (fun hHeld => ?_)
      clear hK K
      try simp only [Act.put, List.setIfInBounds_toArray, List.set_cons_zero, List.set_cons_succ]
      refine wpAnyD_one (i := 7) (o := { dst := some 60, op := Op.call { callee := Callee.value (Operand.func 25), args := #[Operand.tmp 53, Operand.tmp 59], argTypes := #[26, 47] }, type := 26, pos := "law.go:106", after := #[{ on := 0, ground := Ground.data }, { on := 6, ground := Ground.data }, { on := 5, ground := Ground.chain }], guard := none }) (by kernel_rfl) rfl (by rfl) (fun K hK => ?_)
      go_simp; refine (add_any _ (n * a) [rs] _ 1 _ (HNP.out _ HBV.out) (nats_one NI.out CI.out) (by simp) HLA.out HLB.out).mono ?_; rintro e V2 ⟨u2, rfl, hn, hb⟩; replace HBV := Lib.hid (HBV.out.trans (hb.mono HBV.out.size)); (try (replace NI := Lib.hid (NI.out.below hb (Nat.le_refl _)))); (try (replace CI := Lib.hid (blk_below hb (blk_lt CI.out) CI.out))); (try (replace NS := Lib.hid (NS.out.below hb (Nat.le_refl _)))); (try (replace NQ := Lib.hid (NQ.out.below hb (Nat.le_refl _)))); (try (replace CN := Lib.hid (blk_below hb (blk_lt CN.out) CN.out))); have NS := Lib.hid hn; have h := HF.out _ HBV.out; clear hn hb
      refine hK.out _ _ h (fun hHeld => ?_)
      clear hK K
      try simp only [Act.put, List.setIfInBounds_toArray, List.set_cons_zero, List.set_cons_succ]
      refine wpAnyD_one (i := 9) (o := { dst := some 62, op := Op.call { callee := Callee.value (Operand.func 28), args := #[Operand.tmp 60, Operand.tmp 61], argTypes := #[26, 50] }, type := 53, pos := "law.go:106", after := #[{ on := 7, ground := Ground.data }, { on := 8, ground := Ground.data }, { on := 7, ground := Ground.chain }], guard := none }) (by kernel_rfl) rfl (by rfl) (fun K hK => ?_)
      go_simp; refine (divide_any u2 (n * a + sumL [rs]) n _ NS.out hn2 hn32 HLC.out).mono ?_; rintro e V3 ⟨u3, rfl, hn, hb, _⟩; replace HBV := Lib.hid (HBV.out.trans (hb.mono HBV.out.size)); (try (replace NI := Lib.hid (NI.out.below hb (Nat.le_refl _)))); (try (replace CI := Lib.hid (blk_below hb (blk_lt CI.out) CI.out))); (try (replace NS := Lib.hid (NS.out.below hb (Nat.le_refl _)))); (try (replace NQ := Lib.hid (NQ.out.below hb (Nat.le_refl _)))); (try (replace CN := Lib.hid (blk_below hb (blk_lt CN.out) CN.out))); rw [HDV.out.1] at hn; rw [HDV.out.2]; obtain ⟨AQ, cQ, rfl, hq1, hq2⟩ := hn; have NQ := Lib.hid (show NatIs V3 _ a from ⟨AQ, cQ, rfl, hq1, hq2⟩); have h := HF.out _ HBV.out; clear hq1 hq2 hb
      refine hK.out _ _ h (fun hHeld => ?_)
      clear hK K
      try simp only [Act.put, List.setIfInBounds_toArray, List.set_cons_zero, List.set_cons_succ]
      refine wpAnyD_takeP (i := 10) (oi := { dst := some 52, op := Op.move (Operand.tmp 62), type := 53, pos := "law.go:106", after := #[{ on := 9, ground := Ground.data }], guard := none }) (d := 52) (v := ?_) rfl rfl (by kernel_rfl) (by kernel_rfl) (by kernel_rfl) (fun _ _ _ h => h) (Or.inl ⟨by rfl, ?_⟩) ?_
      rotate_left
      · (intro w' _; go_simp; (try with_reducible rfl))
      simp only [List.setIfInBounds_toArray, List.set_cons_zero, List.set_cons_succ]
      refine wpAnyD_takeP (i := 11) (oi := { dst := some 63, op := Op.extract (Operand.tmp 52) 0, type := 26, pos := "law.go:106", after := #[{ on := 10, ground := Ground.data }], guard := none }) (d := 63) (v := ?_) rfl rfl (by kernel_rfl) (by kernel_rfl) (by kernel_rfl) (fun _ _ _ h => h) (Or.inl ⟨by rfl, ?_⟩) ?_
      rotate_left
      · (intro w' _; go_simp; (try with_reducible rfl))
      simp only [List.setIfInBounds_toArray, List.set_cons_zero, List.set_cons_succ]
      refine wpAnyD_takeP (i := 12) (oi := { dst := some 64, op := Op.extract (Operand.tmp 52) 1, type := 50, pos := "law.go:106", after := #[{ on := 10, ground := Ground.data }, { on := 14, ground := Ground.gcOnly Departure.lateStores }], guard := none }) (d := 64) (v := ?_) rfl rfl (by kernel_rfl) (by kernel_rfl) (by kernel_rfl) (fun _ _ _ h => h) (Or.inl ⟨by rfl, ?_⟩) ?_
      rotate_left
      · (intro w' _; go_simp; (try with_reducible rfl))
      simp only [List.setIfInBounds_toArray, List.set_cons_zero, List.set_cons_succ]
      refine wpAnyD_last (D := 14) (by decide) (o := { dst := none, op := Op.store 26 (Operand.tmp 11) (Operand.tmp 63), type := 0, pos := "law.go:106", after := #[{ on := 13, ground := Ground.data }, { on := 11, ground := Ground.data }, { on := 9, ground := Ground.chain }, { on := 0, ground := Ground.phase }, { on := 1, ground := Ground.phase }, { on := 2, ground := Ground.phase }, { on := 3, ground := Ground.phase }, { on := 4, ground := Ground.phase }, { on := 5, ground := Ground.phase }, { on := 6, ground := Ground.phase }, { on := 7, ground := Ground.phase }, { on := 8, ground := Ground.phase }, { on := 9, ground := Ground.phase }, { on := 10, ground := Ground.phase }, { on := 11, ground := Ground.phase }, { on := 12, ground := Ground.textOnly Departure.lateStores }, { on := 13, ground := Ground.phase }], guard := none }) (by kernel_rfl) rfl (by rfl) (fun K hK => ?_)
      obtain ⟨z0, z1⟩ := cell_facts CN.out; go_simp; have HNQ := Lib.hid (NatIs.put NQ.out CN.out (sl_ne_u32 _ _ _) (.slice AQ (dg B32 a).length cQ)); have HCQ := Lib.hid (cell_put CN.out (.slice AQ (dg B32 a).length cQ)); replace HBV := Lib.hid (set_hb CN.out HBV.out HG.out (.slice AQ (dg B32 a).length cQ)); refine gen_set1 rfl (fun VZ hVZ => ?_); rw [← hVZ] at HNQ HCQ HBV; clear hVZ z0 z1 CN NQ NS CI NI
      refine hK.out _ _ ?_
      clear hK K
      try simp only [Act.put, List.setIfInBounds_toArray, List.set_cons_zero, List.set_cons_succ]
      refine wpAnyD_takeP (i := 15) (oi := { dst := some 12, op := Op.assign (Operand.tmp 64), type := 50, pos := "law.go:106", after := #[{ on := 12, ground := Ground.data }, { on := 14, ground := Ground.chain }, { on := 0, ground := Ground.phase }, { on := 1, ground := Ground.phase }, { on := 2, ground := Ground.phase }, { on := 3, ground := Ground.phase }, { on := 4, ground := Ground.phase }, { on := 5, ground := Ground.phase }, { on := 6, ground := Ground.phase }, { on := 7, ground := Ground.phase }, { on := 8, ground := Ground.phase }, { on := 9, ground := Ground.phase }, { on := 10, ground := Ground.phase }, { on := 11, ground := Ground.phase }, { on := 12, ground := Ground.phase }, { on := 13, ground := Ground.phase }, { on := 14, ground := Ground.phase }], guard := none }) (d := 12) (v := ?_) rfl rfl (by kernel_rfl) (by kernel_rfl) (by kernel_rfl) (fun _ _ _ h => h) (Or.inl ⟨by rfl, ?_⟩) ?_
      rotate_left
      · (intro w' _; go_simp; (try with_reducible rfl))
      simp only [List.setIfInBounds_toArray, List.set_cons_zero, List.set_cons_succ]
      refine wpAnyD_done (by kernel_rfl) ?_ _
      have hcx := HCX.out _ HBV.out
      have hnx := HNX.out _ HBV.out
      have HBW := Lib.hid (HB.out.trans (HBV.out.mono HB.out.size))
      have HNXX := Lib.hid hnx
      obtain ⟨g0, _⟩ := cell_facts hcx
      obtain ⟨g1, _⟩ := cell_facts HCQ.out
      clear hcx hnx
      go_wp2_with fail
      refine (compare_any _ _ a a _ HNQ.out HNXX.out (by have := HL.out; omega) (by have := HL.out; omega)).mono ?_
      rintro e Z1 ⟨rfl, hb⟩
      replace HBW := Lib.hid (HBW.out.trans (hb.mono HBW.out.size))
      rw [show cmpN a a = 0 by unfold cmpN; rw [if_neg (by omega), if_neg (by omega)]]
      clear hb g0 g1
      go_wp2_with fail
      refine (awake_any _).mono ?_
      rintro e Z2 ⟨rfl, hb⟩
      replace HBW := Lib.hid (HBW.out.trans (hb.mono HBW.out.size))
      clear hb
      go_wp2_with fail
      go_ret
      exact ⟨by simp, HBW.out⟩

theorem products_law (x1 : List Int) (A1 : Option Addr) (c1 : Nat) (a2 a3 : Int) (w : World) (_ : x1.length ≤ c1) (_ : c1 ≤ maxLen) (h1 : ∀ y ∈ x1, (Lit.int .u32 y).wf = true) (s1 : Sl1 w A1 (Value.int .u32) x1) (h2 : (Lit.int .u32 a2).wf = true) (h3 : (Lit.int .u32 a3).wf = true) :
    Calls Try.prog 6 #[.slice A1 x1.length c1, .int .u32 a2, .int .u32 a3] w (RetTrue w) := by
  obtain ⟨p1, q1⟩ := sl_u32 s1 h1
  have e1 : x1.length = (x1.map Int.toNat).length := by simp
  rw [e1]
  have wf : ∀ n : Int, (Lit.int .u32 n).wf = true → 0 ≤ n ∧ n ≤ 4294967295 := fun n h => by simpa [Lit.wf, IntKind.min, IntKind.max, IntKind.bits, IntKind.signed] using h
  obtain ⟨m2, hm2⟩ : ∃ m : Nat, a2 = (m : Int) := ⟨a2.toNat, by have := wf a2 h2; omega⟩
  obtain ⟨m3, hm3⟩ : ∃ m : Nat, a3 = (m : Int) := ⟨a3.toNat, by have := wf a3 h3; omega⟩
  subst hm2
  subst hm3
  by_cases h : (x1.map Int.toNat).length ≤ 20
  · exact products_small _ A1 c1 m2 m3 w p1 q1 h (by have := wf _ h2; omega) (by have := wf _ h3; omega)
  · exact products_big _ A1 c1 m2 m3 w h
end Go.Proofs.Ytnfehhblmoliaaa
