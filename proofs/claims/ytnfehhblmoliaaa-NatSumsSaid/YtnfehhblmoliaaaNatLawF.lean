/- Layer 1 (nat): NatSums. -/
import Derived.Test.YtnfehhblmoliaaaNatN
namespace Go.Proofs.Ytnfehhblmoliaaa
open Go.RowKit Go.Maps Go.WideMaps
set_option maxRecDepth 100000
set_option linter.unusedVariables false
set_option linter.unusedSimpArgs false

/-- a slice of slices of limbs -/
def LimbsIs (w : World) (A : Option Addr) (ls : List (List Nat)) : Prop :=
  ∀ i l, ls[i]? = some l → ∃ b o A' c', A = some ⟨b, o, none⟩ ∧ w.cell? ⟨b, o + i, none⟩ = some (.slice A' l.length c') ∧ Sl1 w A' u32V l ∧ ∀ x ∈ l, x < B32
theorem limbs_few {w : World} {A : Option Addr} {ls : List (List Nat)} (h : LimbsIs w A ls) : ∀ i n, (ls.map List.length)[i]? = some n → ∃ g o A' c', A = some ⟨g, o, none⟩ ∧ w.cell? ⟨g, o + i, none⟩ = some (.slice A' n c') := by
  intro i n hn
  rw [List.getElem?_map] at hn
  obtain ⟨l, hl, rfl⟩ := Option.map_eq_some_iff.1 hn
  obtain ⟨b, o, A', c', e, hc, _⟩ := h i l hl
  exact ⟨b, o, A', c', e, hc⟩
theorem DecIs.keep {F : Nat → Prop} {W V : World} {v : Value} {n : Nat} (h : DecIs W v n) (hk : Keep F W V) (hf : ∀ A n c, v = .slice A n c → ∀ a, A = some a → ¬ F a.block) : DecIs V v n := by
  obtain ⟨A, c, rfl, h1, h2⟩ := h
  exact ⟨A, c, rfl, sl1_keep h1 hk (fun a ha => hf A _ c rfl a ha), h2⟩
theorem blk_name {V : World} {g : Nat} {o : Obj} (h : V.heap[g]? = some o) : ∃ r, g = r ∧ V.heap[r]? = some o := ⟨g, rfl, h⟩
theorem sums_big (ls : List (List Nat)) (A : Option Addr) (c : Nat) (w : World) (hS : LimbsIs w A ls) (h : ¬ (ls.length ≤ 10 ∧ ∀ l ∈ ls, l.length ≤ 20)) :
    Calls Try.prog 5 #[.slice A ls.length c] w (RetTrue w) := by
  by_cases h1 : ls.length ≤ 10
  · have hb : false = (ls.map List.length).all (fun n => decide (n ≤ 20)) := by
      cases ha : (ls.map List.length).all (fun n => decide (n ≤ 20)) with
      | false => rfl
      | true =>
        exfalso
        apply h
        refine ⟨h1, fun l hl => ?_⟩
        have := List.all_eq_true.1 ha l.length (List.mem_map.2 ⟨l, hl, rfl⟩)
        simpa using this
    have hf := few_any (ls.map List.length) A c w false hb (limbs_few hS) (by simp; omega)
    rw [List.length_map] at hf
    have HF := Lib.hid hf
    have h1' : ¬ (10 : Int) < (ls.length : Int) := by omega
    clear hf hb
    go_enter Try.func5, Try.ntmps5
    go_wp2_with fail
    refine HF.out.mono ?_
    rintro e W1 ⟨rfl, rfl⟩
    go_wp2_with fail
    refine (awake_any _).mono ?_
    rintro e W2 ⟨rfl, hb⟩
    go_wp2_with fail
    go_ret
    exact ⟨rfl, hb⟩
  · have h1' : (10 : Int) < (ls.length : Int) := by omega
    go_enter Try.func5, Try.ntmps5
    go_wp2_with fail
    refine (awake_any _).mono ?_
    rintro e W2 ⟨rfl, hb⟩
    go_wp2_with fail
    go_ret
    exact ⟨rfl, hb⟩
theorem sumL_le_mem {l : List Nat} {x : Nat} (h : x ∈ l) : x ≤ sumL l := by
  induction l with
  | nil => simp at h
  | cons y l ih =>
    simp only [sumL, List.foldr_cons] at ih ⊢
    rcases List.mem_cons.1 h with rfl | h
    · omega
    · have := ih h; omega
theorem sumL_bound {l : List Nat} {B : Nat} (h : ∀ x ∈ l, x ≤ B) : sumL l ≤ l.length * B := by
  induction l with
  | nil => simp [sumL]
  | cons y l ih =>
    simp only [sumL, List.foldr_cons, List.length_cons] at ih ⊢
    have h1 := h y (List.mem_cons_self ..)
    have h2 := ih (fun x hx => h x (List.mem_cons_of_mem _ hx))
    rw [Nat.succ_mul]; omega
theorem sumL_take_le (l : List Nat) (k : Nat) : sumL (l.take k) ≤ sumL l := by
  induction l generalizing k with
  | nil => simp [sumL]
  | cons y l ih =>
    cases k with
    | zero => simp [sumL]
    | succ k => simp only [sumL, List.take_succ_cons, List.foldr_cons] at ih ⊢; have := ih k; omega
theorem sums_small_dg (l : List Nat) (h : ∀ x ∈ l, (dg B32 x).length ≤ 20) (hl : l.length ≤ 10) : ∀ z, z ≤ sumL l → (dg B32 z).length ≤ 21 ∧ (dg 10 z).length ≤ 210 := by
  intro z hz
  have h1 : ∀ x ∈ l, x ≤ B32 ^ 20 := fun x hx => by
    have h2 := lt_pow_dg (b := B32) (by decide) x
    have h3 : B32 ^ (dg B32 x).length ≤ B32 ^ 20 := Nat.pow_le_pow_right (by decide) (h x hx)
    omega
  have h4 := sumL_bound h1
  have h5 : l.length * B32 ^ 20 ≤ 10 * B32 ^ 20 := Nat.mul_le_mul_right _ hl
  have h6 : 10 * B32 ^ 20 < B32 ^ 21 := by decide
  have h7 : z < B32 ^ 21 := by omega
  refine ⟨dg_len_le (by decide) h7, dg_len_le (by decide) (Nat.lt_of_lt_of_le h7 ?_)⟩
  rw [show 210 = 10 * 21 by rfl, Nat.pow_mul]
  exact Nat.pow_le_pow_left (by decide) _

set_option maxHeartbeats 32000000 in
theorem sums_small (ls : List (List Nat)) (A : Option Addr) (c : Nat) (w : World) (hS : LimbsIs w A ls) (hlen : ls.length ≤ 10) (hl20 : ∀ l ∈ ls, l.length ≤ 20) :
    Calls Try.prog 5 #[.slice A ls.length c] w (RetTrue w) := by
  have hb : true = (ls.map List.length).all (fun n => decide (n ≤ 20)) := by
    refine (List.all_eq_true.2 ?_).symm
    intro n hn
    obtain ⟨l, hl, rfl⟩ := List.mem_map.1 hn
    simpa using hl20 l hl
  have hf := few_any (ls.map List.length) A c w true hb (limbs_few hS) (by simp; omega)
  rw [List.length_map] at hf
  have HF := Lib.hid hf
  have HS := Lib.hid hS
  have H20 := Lib.hid hl20
  have h1' : ¬ (10 : Int) < (ls.length : Int) := by omega
  obtain ⟨ns, hns⟩ : ∃ ns, ls.map (vl B32) = ns := ⟨_, rfl⟩
  have HNL : Hid (ns.length = ls.length) := Lib.hid (by rw [← hns, List.length_map])
  have HNI : Hid (∀ i (h : i < ls.length) (h2 : i < ns.length), ns[i] = vl B32 ls[i]) := Lib.hid (fun i h h2 => by subst hns; simp)
  have HND : Hid (∀ x ∈ ns, (dg B32 x).length ≤ 20) := Lib.hid (fun x hx => by
    rw [← hns] at hx
    obtain ⟨l, hl, rfl⟩ := List.mem_map.1 hx
    obtain ⟨i, hi, rfl⟩ := List.getElem_of_mem hl
    obtain ⟨_, _, _, _, _, _, _, hlt⟩ := hS i ls[i] (by simp)
    exact dg32_le _ hlt 20 (hl20 _ hl))
  have HSD : Hid (∀ z, z ≤ sumL ns → (dg B32 z).length ≤ 21 ∧ (dg 10 z).length ≤ 210) := Lib.hid (sums_small_dg ns HND.out (by rw [HNL.out]; exact hlen))
  clear hf hb hS hl20 hns
  go_enter Try.func5, Try.ntmps5
  go_wp2_with fail
  refine HF.out.mono ?_
  rintro e W1 ⟨rfl, rfl⟩
  have HI : Hid (AllIs W1 W1 [] none 0 []) := Lib.hid ⟨by simpa using own_nil _ _ _ _, fun i n h => by simp at h, Below.refl _ _⟩
  have HZ : Hid (DecIs W1 (.slice none 0 0) 0) := Lib.hid (DecIs.zero W1)
  clear HF
  go_wp2_with fail
  go_loopg [3, 4, 5] ls.length (fun m v3 v4 v5 W => ∃ (k : Nat) (A2 : Option Addr) (c2 : Nat) (ss : List Value) (AW : Option Addr) (lW cW : Nat), k + m = ls.length ∧ v5 = .int .i64 (k : Int) ∧ v3 = .slice A2 k c2 ∧ v4 = .slice AW lW cW ∧ AllIs W1 W (ns.take k) A2 c2 ss ∧ DecIs W (.slice AW lW cW) (sumL (ns.take k)) ∧ ∀ a, AW = some a → (Value.slice A2 k c2).ownBlock ≠ some a.block ∧ a.block < W.heap.size)
  case atStart => exact ⟨0, none, 0, [], none, 0, 0, by omega, rfl, rfl, rfl, by simpa using HI.out, by simpa [sumL] using HZ.out, fun a ha => by cases ha⟩
  case round =>
    obtain ⟨k, A2, c2, ss, AW, lW, cW, hk, rfl, rfl, rfl, hW, hD, hvf⟩ := hrel
    rename World => W
    have HW := Lib.hid hW
    have HD := Lib.hid hD
    have HVF := Lib.hid hvf
    clear hW hD hvf HI HZ
    have HTL : Hid ((ns.take k).length = k) := Lib.hid (by rw [List.length_take, HNL.out]; omega)
    by_cases hlt : k < ls.length
    · have hlt' : (k : Int) < (ls.length : Int) := by omega
      have k0 : (0 : Int) ≤ (k : Int) := by omega
      have hkn : k < ns.length := by rw [HNL.out]; exact hlt
      obtain ⟨b1, o1, AL, cL, rfl, hcl, hsl, hxl⟩ := HS.out k ls[k] (by simp)
      have HCL := Lib.hid (show ∀ V, Below W1.heap.size W1 V → V.cell? ⟨b1, o1 + k, none⟩ = some (.slice AL ls[k].length cL) ∧ Sl1 V AL u32V ls[k] from fun V hV => ⟨below_cell hV (Nat.le_refl _) hcl, hsl.below hV (Nat.le_refl _)⟩)
      have HXL := Lib.hid hxl
      have hl2 := H20.out ls[k] (List.getElem_mem _)
      have hnk := HNI.out k hlt hkn
      have HTK : Hid (ns.take (k + 1) = ns.take k ++ [ns[k]]) := Lib.hid (take_snoc hkn)
      have HDL : Hid (∀ z, z ≤ sumL ns → (dg 10 z).length ≤ 1000000000) := Lib.hid (fun z hz => Nat.le_trans (HSD.out z hz).2 (by decide))
      have HSL1 : Hid (sumL (ns.take k) ≤ sumL ns) := Lib.hid (sumL_take_le ns k)
      have HSL2 : Hid (ns[k] ≤ sumL ns) := Lib.hid (sumL_le_mem (List.getElem_mem _))
      generalize ls[k] = lk at *
      obtain ⟨n, hn⟩ : ∃ n, ns[k] = n := ⟨_, rfl⟩
      rw [hn] at hnk HTK HSL2
      have HVL := Lib.hid hnk
      obtain ⟨f0, _⟩ := HCL.out W HW.out.below
      clear hcl hsl hxl hnk hn
      go_wp2_with fail
      refine (of_at lk AL cL W (HCL.out W HW.out.below).2 HXL.out (by omega)).mono ?_
      rintro e W2 ⟨A', l', c', rfl, hn2, hb, hfr⟩
      rw [← HVL.out] at hn2
      have HN2 := Lib.hid hn2
      have HW2 := Lib.hid (HW.out.step hb)
      have HD2 := Lib.hid (HD.out.below hb (Nat.le_refl _))
      have HFR : Hid (∀ a, A' = some a → (Value.slice A2 (ns.take k).length c2).ownBlock ≠ some a.block ∧ a.block < W2.heap.size) := Lib.hid (fun a ha => ⟨fun e => by have := own_lt HW.out.row _ e; have := (hfr a ha).1; omega, (hfr a ha).2⟩)
      have HROW : Hid (W2.ownsRow W1.heap.size 26 1 (.slice A2 k c2) k ss) := Lib.hid (by have h := HW2.out.row; rwa [HTL.out] at h)
      have HGEN : Hid (W1.heap.size ≤ W2.heap.size) := Lib.hid HW2.out.below.size
      clear hn2 hb hfr f0 HW HD
      go_wp2_with (at_builtin; refine app_new (W1.heap.size) 47 26 (.agg #[.slice none 0 0]) 1 24 [_] 1 _ _ rfl rfl Try.underlying47 info_nat rfl (by decide) _ _ _ rfl rfl rfl (by intro u hu; simp at hu; subst hu; rfl) HROW.out (by omega) (by omega) HGEN.out ?_)
      intro v' w9 hown hg9 hnew
      obtain ⟨A3, c3, rfl, hA3⟩ := HW2.out.grow HN2.out HFR.out (by rw [HTL.out]; exact hown) (by rw [HTL.out]; exact hg9) (by rw [HTL.out]; exact hnew)
      rw [HTL.out]
      rw [← HTK.out] at hA3
      have HA3 := Lib.hid hA3
      have HD9 : Hid (DecIs w9 (.slice AW lW cW) (sumL (ns.take k))) := Lib.hid (HD2.out.keep (Keep.of_grown hg9 (fun g hg => hg)) (fun A' n' c' e a ha => by cases e; exact (HVF.out a ha).1))
      have HNF : Hid (∀ (V : World) (a : Addr), w9.heap.size ≤ a.block ∧ a.block < V.heap.size → (Value.slice A3 (k + 1) c3).ownBlock ≠ some a.block ∧ a.block < V.heap.size) := Lib.hid (by
        rintro V a ⟨h1, h2⟩
        refine ⟨fun e2 => ?_, h2⟩
        have hrow := HA3.out.row
        have hl : (ns.take (k + 1)).length = k + 1 := by rw [List.length_take]; omega
        rw [hl] at hrow
        have := own_lt hrow _ e2
        omega)
      have HSK : Hid (sumL (ns.take k) + n = sumL (ns.take (k + 1))) := Lib.hid (by rw [HTK.out, sumL_snoc])
      have HSL3 : Hid (sumL (ns.take (k + 1)) ≤ sumL ns) := Lib.hid (sumL_take_le ns (k + 1))
      obtain ⟨f0, _⟩ := HCL.out w9 HA3.out.below
      clear hown hg9 hnew hA3 HD2 HW2 HFR
      go_wp2_with fail
      refine (rof_any lk AL cL w9 (HCL.out w9 HA3.out.below).2 HXL.out (by omega)).mono ?_
      rintro e W5 ⟨v5, rfl, hn5, hb⟩
      rw [← HVL.out] at hn5
      have HN5 := Lib.hid hn5
      have HA5 := Lib.hid (HA3.out.step hb)
      have HD5 := Lib.hid (HD9.out.below hb (Nat.le_refl _))
      have HZ5 := Lib.hid hb.size
      clear hn5 hb f0
      go_wp2_with fail
      refine (radd_at (.slice AW lW cW) v5 (sumL (ns.take k)) n W5 HD5.out HN5.out (HDL.out _ HSL1.out) (HDL.out _ HSL2.out)).mono ?_
      rintro e W6 ⟨v6, rfl, hn6, hb, hf6⟩
      rw [HSK.out] at hn6
      obtain ⟨A6, l6, c6, rfl⟩ : ∃ A6 l6 c6, v6 = .slice A6 l6 c6 := by obtain ⟨A6, c6, e, _⟩ := hn6; exact ⟨A6, _, c6, e⟩
      have HD6 := Lib.hid hn6
      have HA6 := Lib.hid (HA5.out.step hb)
      have HF6 : Hid (∀ a, A6 = some a → (Value.slice A3 (k + 1) c3).ownBlock ≠ some a.block ∧ a.block < W6.heap.size) := Lib.hid (fun a ha => HNF.out W6 a ⟨Nat.le_trans HZ5.out (hf6 A6 l6 c6 rfl a ha).1, (hf6 A6 l6 c6 rfl a ha).2⟩)
      clear hn6 hb hf6
      have wk : IntKind.i64.wrap ((k : Int) + 1) = (k : Int) + 1 := IntWalk.i64_in _ (by omega)
      go_wp2_with fail
      go_roundg (gk - 1)
      case measure => omega
      case rel => exact ⟨k + 1, A3, c3, _, A6, l6, c6, by omega, by simp, rfl, rfl, HA6.out, HD6.out, HF6.out⟩
    · have hke : k = ls.length := by omega
      have hlt' : ¬ (k : Int) < (ls.length : Int) := by omega
      have htk : ns.take k = ns := List.take_of_length_le (by rw [HNL.out]; omega)
      rw [htk] at HW HD
      have HKN : Hid (k = ns.length) := Lib.hid (by rw [HNL.out]; exact hke)
      have hkl : k ≤ 10 := by omega
      have HVF2 := HVF
      clear hke htk HTL HVF
      have HADD := Lib.hid (add_any (.agg #[.slice none 0 0]) 0 ns A2 c2 W ⟨none, 0, by rw [dg_zero]; rfl, by rw [dg_zero]; exact Sl1.nil _ _ _, by rw [dg_zero]; exact Nat.le_refl _⟩ HW.out.nats (by have := HKN.out; omega) (fun q _ => by
        rw [Nat.zero_add]
        exact Nat.le_trans (HSD.out _ (sumL_take_le ns q)).1 (by decide)) (fun x hx => Nat.le_trans (HND.out x hx) (by decide)))
      rw [← HKN.out, Nat.zero_add] at HADD
      go_wp2_with fail
      refine HADD.out.mono ?_
      rintro e W2 ⟨v2, rfl, hn2, hb⟩
      obtain ⟨AS, cS, rfl, hq1, hq2⟩ := hn2
      have hb2 := (Below.refl W2.heap.size W2).alloc (Nat.le_refl _) (.cells #[.slice AS (dg B32 (sumL ns)).length cS] 26)
      have HSUM := Lib.hid (NatIs.below ⟨AS, cS, rfl, hq1, hq2⟩ hb2 (Nat.le_refl _))
      have HC6 := Lib.hid (blk_new W2 (.cells #[.slice AS (dg B32 (sumL ns)).length cS] 26))
      have HALL2 := Lib.hid (HW.out.step hb)
      have HALL := Lib.hid (HALL2.out.step hb2)
      have HWANT := Lib.hid ((HD.out.below hb (Nat.le_refl _)).below hb2 (Nat.le_refl _))
      have HBW := Lib.hid (HALL.out.below)
      obtain ⟨f6, _⟩ := cell_facts HC6.out
      clear hq1 hq2 hb hb2
      have HSD1 := Lib.hid (HSD.out _ (Nat.le_refl _))
      go_wp2_with fail
      generalize hW3 : W2.alloc (.cells #[.slice AS (dg B32 (sumL ns)).length cS] 26) = W3 at *
      have HW3B : Hid (Below W2.heap.size W2 W3) := Lib.hid (by rw [← hW3]; exact (Below.refl _ _).alloc (Nat.le_refl _) _)
      clear hW3
      refine (string_any _ (sumL ns) W3 HSUM.out (Nat.le_trans HSD1.out.1 (by decide)) (Nat.le_trans HSD1.out.2 (by decide))).mono ?_
      rintro e W4 ⟨rfl, hb⟩
      replace HW3B := Lib.hid (HW3B.out.trans (hb.mono HW3B.out.size))
      replace HSUM := Lib.hid (HSUM.out.below hb (Nat.le_refl _))
      replace HC6 := Lib.hid (blk_below hb (blk_lt HC6.out) HC6.out)
      replace HWANT := Lib.hid (HWANT.out.below hb (Nat.le_refl _))
      clear hb f6
      go_wp2_with fail
      refine (print_any (.slice AW lW cW) (sumL ns) W4 HWANT.out (Nat.le_trans HSD1.out.2 (by decide))).mono ?_
      rintro e W5 ⟨rfl, hb⟩
      replace HW3B := Lib.hid (HW3B.out.trans (hb.mono HW3B.out.size))
      replace HSUM := Lib.hid (HSUM.out.below hb (Nat.le_refl _))
      replace HC6 := Lib.hid (blk_below hb (blk_lt HC6.out) HC6.out)
      clear hb HWANT HD HVF2 HADD
      generalize decS (sumL ns) = t0 at *
      generalize hg6 : W2.heap.size = r6 at HC6 ⊢
      have HR6 := Lib.hid hg6
      clear hg6
      have HSUM' := HSUM
      have HC6' := HC6
      have HW3B' := HW3B
      have wk9 : IntKind.i64.wrap ((k : Int) - 1) = (k : Int) - 1 := IntWalk.i64_in _ (by omega)
      go_wp2_with fail
      clear HSUM HC6 HALL HW3B HBW wk9 HSD1
      go_loopg [7] ns.length (fun m v7 W => ∃ (j : Nat) (i : Int) (AS : Option Addr) (lS cS : Nat), j = m ∧ v7 = .int .i64 i ∧ i = (j : Int) - 1 ∧ j ≤ ns.length ∧ W.heap[r6]? = some (.cells #[.slice AS lS cS] 26) ∧ NatIs W (.agg #[.slice AS lS cS]) (sumL (ns.take j)) ∧ Below W2.heap.size W2 W)
      case atStart => exact ⟨ns.length, _, AS, _, cS, rfl, rfl, by rw [HKN.out], Nat.le_refl _, HC6'.out, by rw [List.take_length]; exact HSUM'.out, HW3B'.out⟩
      case round =>
        obtain ⟨j, i, AQ, lQ, cQ, rfl, rfl, hi, hj, hc6, hns, hbb⟩ := hrel
        rename World => W
        clear HSUM' HC6' HW3B'
        rcases Nat.eq_zero_or_pos j with rfl | hj0
        · obtain rfl : i = -1 := by omega
          clear hi
          have HN0 : Hid (NatIs W (.agg #[.slice AQ lQ cQ]) 0) := Lib.hid hns
          have HBF := Lib.hid (HALL2.out.below.trans (hbb.mono HALL2.out.below.size))
          obtain ⟨f6, _⟩ := cell_facts hc6
          clear hns hbb hc6
          go_wp2_with fail
          refine (zero_any _ 0 W HN0.out).mono ?_
          rintro e W7 ⟨rfl, hb⟩
          rw [show decide ((0 : Nat) = 0) = true by rfl]
          replace HBF := Lib.hid (HBF.out.trans (hb.mono HBF.out.size))
          clear hb f6
          go_wp2_with fail
          refine (awake_any _).mono ?_
          rintro e W8 ⟨rfl, hb⟩
          replace HBF := Lib.hid (HBF.out.trans (hb.mono HBF.out.size))
          clear hb
          go_wp2_with fail
          go_ret
          exact ⟨by simp, HBF.out⟩
        · obtain ⟨q, rfl⟩ : ∃ q, j = q + 1 := ⟨j - 1, by omega⟩
          obtain rfl : i = (q : Int) := by omega
          clear hi
          have q0 : (0 : Int) ≤ (q : Int) := by omega
          have q1 : (q : Int) < (k : Int) := by have := HKN.out; omega
          have hqn : q < ns.length := by omega
          have htk := take_snoc hqn
          have hse : sumL (ns.take (q + 1)) = sumL (ns.take q) + ns[q] := by rw [htk, sumL_snoc]
          have hALL := HALL2.out.step hbb
          obtain ⟨A', l', c', hs1, hs2, _⟩ := hALL.each q ns[q] (by simp [hqn])
          obtain ⟨g, cap, hA, hg1, hg2, hcc⟩ := own_open hALL.row (by omega)
          simp only [Value.slice.injEq, true_and] at hA
          obtain ⟨rfl, rfl⟩ := hA
          obtain ⟨hce, _⟩ := hcc q _ hs1
          have HDX := Lib.hid (And.intro (Nat.le_trans (HSD.out _ (sumL_take_le ns (q + 1))).1 (show 21 ≤ 100000 by decide)) (And.intro (Nat.le_trans (HSD.out _ (sumL_take_le ns q)).1 (show 21 ≤ 100000 by decide)) (Nat.le_trans (HND.out ns[q] (List.getElem_mem _)) (show 20 ≤ 100000 by decide))))
          generalize ns[q] = n at *
          obtain ⟨sq, hsq⟩ : ∃ sq, sumL (ns.take q) = sq := ⟨_, rfl⟩
          rw [hsq] at hse HDX
          rw [hse] at hns HDX
          have HSQ := Lib.hid hsq
          have HBB := Lib.hid hbb
          have HDEC : Hid (decide (n ≤ sq + n) = true ∧ sq + n - n = sq) := Lib.hid ⟨decide_eq_true (by omega), by omega⟩
          have HBV := Lib.hid (Below.refl W.drew.heap.size W.drew)
          have HNS := Lib.hid (fun V (hV : Below W.drew.heap.size W.drew V) => (show NatIs W.drew (.agg #[.slice AQ lQ cQ]) (sq + n) from hns).below hV (Nat.le_refl _))
          have HNE := Lib.hid (fun V (hV : Below W.drew.heap.size W.drew V) => (show NatIs W.drew (.agg #[.slice A' l' c']) n from hs2).below hV (Nat.le_refl _))
          have HC6 := Lib.hid (fun V (hV : Below W.drew.heap.size W.drew V) => blk_below hV (blk_lt (blk_drew hc6)) (blk_drew hc6))
          have HCE := Lib.hid (fun V (hV : Below W.drew.heap.size W.drew V) => below_cell hV (Nat.le_refl _) (show W.drew.cell? ⟨g, q, none⟩ = some (.slice A' l' c') from hce))
          have HF := Lib.hid (fun V (hV : Below W.drew.heap.size W.drew V) => And.intro (cell_facts (HC6.out V hV)).1 (HCE.out V hV))
          have HW6 : Hid (Below W2.heap.size W2 W.drew) := Lib.hid HBB.out.drew
          have HR62 : Hid (W2.heap.size ≤ r6) := Lib.hid (by rw [HR6.out]; exact Nat.le_refl _)
          clear hns hs2 hc6 hce hcc hs1 hALL hg1 hg2 hsq hse htk hbb HBB
          go_wp2_with fail
          refine wp_region_D (Ds := [10]) (S := fun V => V.cell? ⟨r6, 0, none⟩ = some (.slice AQ lQ cQ) ∧ V.cell? ⟨g, q, none⟩ = some (.slice A' l' c')) (by kernel_rfl) (by exact HF.out _ HBV.out) (fun hHeld => ?_)
          generalize W.drew = W6 at *
          refine wpAnyD_takeP (i := 1) (oi := { dst := some 57, op := Op.move (Operand.tmp 3), type := 47, pos := "law.go:66", after := #[], guard := none }) (d := 57) (v := ?_) rfl rfl (by kernel_rfl) (by kernel_rfl) (by kernel_rfl) (fun _ _ _ h => h) (Or.inl ⟨by rfl, ?_⟩) ?_
          rotate_left
          · (intro w' _; go_simp; (try with_reducible rfl))
          simp only [List.setIfInBounds_toArray, List.set_cons_zero, List.set_cons_succ]
          refine wpAnyD_takeP (i := 2) (oi := { dst := some 58, op := Op.move (Operand.tmp 7), type := 3, pos := "law.go:66", after := #[], guard := none }) (d := 58) (v := ?_) rfl rfl (by kernel_rfl) (by kernel_rfl) (by kernel_rfl) (fun _ _ _ h => h) (Or.inl ⟨by rfl, ?_⟩) ?_
          rotate_left
          · (intro w' _; go_simp; (try with_reducible rfl))
          simp only [List.setIfInBounds_toArray, List.set_cons_zero, List.set_cons_succ]
          refine wpAnyD_takeP (i := 3) (oi := { dst := some 59, op := Op.indexAddr 47 (Operand.tmp 57) (Operand.tmp 58), type := 0, pos := "law.go:66", after := #[{ on := 1, ground := Ground.data }, { on := 2, ground := Ground.data }], guard := none }) (d := 59) (v := ?_) rfl rfl (by kernel_rfl) (by kernel_rfl) (by kernel_rfl) (fun _ _ _ h => h) (Or.inl ⟨by rfl, ?_⟩) ?_
          rotate_left
          · (intro w' _; go_simp; (try with_reducible rfl))
          simp only [List.setIfInBounds_toArray, List.set_cons_zero, List.set_cons_succ]
          refine wpAnyD_takeD (i := 0) (oi := { dst := some 56, op := Op.load 26 (Operand.tmp 6), type := 26, pos := "law.go:66", after := #[], guard := none }) (d := 56) (v := ?_) rfl rfl (by kernel_rfl) (by kernel_rfl) (by kernel_rfl) (by kernel_rfl) (fun _ _ _ h => h) (Or.inl ⟨by rfl, ?_⟩) hHeld ?_
          rotate_left
          · (intro w' hSw; (try dsimp only at hSw); go_simp; (try with_reducible rfl))
          simp only [List.setIfInBounds_toArray, List.set_cons_zero, List.set_cons_succ]
          refine wpAnyD_takeD (i := 4) (oi := { dst := some 60, op := Op.load 26 (Operand.tmp 59), type := 26, pos := "law.go:66", after := #[{ on := 3, ground := Ground.data }], guard := none }) (d := 60) (v := ?_) rfl rfl (by kernel_rfl) (by kernel_rfl) (by kernel_rfl) (by kernel_rfl) (fun _ _ _ h => h) (Or.inl ⟨by rfl, ?_⟩) hHeld ?_
          rotate_left
          · (intro w' hSw; (try dsimp only at hSw); go_simp; (try with_reducible rfl))
          simp only [List.setIfInBounds_toArray, List.set_cons_zero, List.set_cons_succ]
          refine wpAnyD_two (i := 5) (j := 9) (oi := { dst := some 61, op := Op.call { callee := Callee.value (Operand.func 15), args := #[Operand.tmp 56, Operand.tmp 60], argTypes := #[26, 26] }, type := 32, pos := "law.go:66", after := #[{ on := 0, ground := Ground.data }, { on := 4, ground := Ground.data }], guard := none }) (oj := { dst := some 8, op := Op.alloc 26, type := 0, pos := "law.go:66", after := #[], guard := none }) (by kernel_rfl) rfl rfl (by rfl) (by rfl) (fun K hK => ?_) (fun K hK => ?_)
          ·
            go_simp; refine (sub_any _ _ (sq + n) n _ (HNS.out _ HBV.out) (HNE.out _ HBV.out) HDX.out.1 HDX.out.2.2).mono ?_; rintro e V1 ⟨u1, rfl, hn, hb⟩; replace HBV := Lib.hid (HBV.out.trans (hb.mono HBV.out.size)); (try (replace ND := Lib.hid (ND.out.below hb (Nat.le_refl _)))); (try (replace CN := Lib.hid (blk_below hb (blk_lt CN.out) CN.out))); rw [HDEC.out.2] at hn; rw [HDEC.out.1]; obtain ⟨AD, cD, rfl, hq1, hq2⟩ := hn; have ND := Lib.hid (show NatIs V1 _ sq from ⟨AD, cD, rfl, hq1, hq2⟩); have h := HF.out _ HBV.out; clear hq1 hq2 hb
            refine hK.out _ _ h (fun hHeld => ?_)
            clear hK K
            try simp only [Act.put, List.setIfInBounds_toArray, List.set_cons_zero, List.set_cons_succ]
            refine wpAnyD_takeP (i := 6) (oi := { dst := some 55, op := Op.move (Operand.tmp 61), type := 32, pos := "law.go:66", after := #[{ on := 5, ground := Ground.data }], guard := none }) (d := 55) (v := ?_) rfl rfl (by kernel_rfl) (by kernel_rfl) (by kernel_rfl) (fun _ _ _ h => h) (Or.inl ⟨by rfl, ?_⟩) ?_
            rotate_left
            · (intro w' _; go_simp; (try with_reducible rfl))
            simp only [List.setIfInBounds_toArray, List.set_cons_zero, List.set_cons_succ]
            refine wpAnyD_takeP (i := 7) (oi := { dst := some 62, op := Op.extract (Operand.tmp 55) 0, type := 26, pos := "law.go:66", after := #[{ on := 6, ground := Ground.data }], guard := none }) (d := 62) (v := ?_) rfl rfl (by kernel_rfl) (by kernel_rfl) (by kernel_rfl) (fun _ _ _ h => h) (Or.inl ⟨by rfl, ?_⟩) ?_
            rotate_left
            · (intro w' _; go_simp; (try with_reducible rfl))
            simp only [List.setIfInBounds_toArray, List.set_cons_zero, List.set_cons_succ]
            refine wpAnyD_takeP (i := 8) (oi := { dst := some 63, op := Op.extract (Operand.tmp 55) 1, type := 4, pos := "law.go:66", after := #[{ on := 6, ground := Ground.data }, { on := 10, ground := Ground.gcOnly Departure.lateStores }], guard := none }) (d := 63) (v := ?_) rfl rfl (by kernel_rfl) (by kernel_rfl) (by kernel_rfl) (fun _ _ _ h => h) (Or.inl ⟨by rfl, ?_⟩) ?_
            rotate_left
            · (intro w' _; go_simp; (try with_reducible rfl))
            simp only [List.setIfInBounds_toArray, List.set_cons_zero, List.set_cons_succ]
            refine wpAnyD_one (i := 9) (o := { dst := some 8, op := Op.alloc 26, type := 0, pos := "law.go:66", after := #[], guard := none }) (by kernel_rfl) rfl (by rfl) (fun K hK => ?_)
            go_simp; refine gen_alloc HBV.out (fun V6 hb hcn => ?_); have hg := HBV.out.size; replace HBV := Lib.hid (HBV.out.trans (hb.mono HBV.out.size)); (try (replace ND := Lib.hid (ND.out.below hb (Nat.le_refl _)))); (try (replace CN := Lib.hid (blk_below hb (blk_lt CN.out) CN.out))); have CN := Lib.hid hcn; have HG := Lib.hid hg; have h := HF.out _ HBV.out; clear hb hcn hg
            refine hK.out _ _ h (fun hHeld => ?_)
            clear hK K
            try simp only [Act.put, List.setIfInBounds_toArray, List.set_cons_zero, List.set_cons_succ]
            refine wpAnyD_last (D := 10) (by decide) (o := { dst := none, op := Op.store 26 (Operand.tmp 8) (Operand.tmp 62), type := 0, pos := "law.go:66", after := #[{ on := 9, ground := Ground.data }, { on := 7, ground := Ground.data }, { on := 5, ground := Ground.chain }, { on := 0, ground := Ground.phase }, { on := 1, ground := Ground.phase }, { on := 2, ground := Ground.phase }, { on := 3, ground := Ground.phase }, { on := 4, ground := Ground.phase }, { on := 5, ground := Ground.phase }, { on := 6, ground := Ground.phase }, { on := 7, ground := Ground.phase }, { on := 8, ground := Ground.textOnly Departure.lateStores }, { on := 9, ground := Ground.phase }], guard := none }) (by kernel_rfl) rfl (by rfl) (fun K hK => ?_)
            obtain ⟨z0, z1⟩ := cell_facts CN.out; go_simp; have HND8 := Lib.hid (NatIs.put ND.out CN.out (sl_ne_u32 _ _ _) (.slice AD (dg B32 sq).length cD)); have HC8 := Lib.hid (cell_put CN.out (.slice AD (dg B32 sq).length cD)); replace HBV := Lib.hid (set_hb CN.out HBV.out HG.out (.slice AD (dg B32 sq).length cD)); refine gen_set1 rfl (fun VZ hVZ => ?_); rw [← hVZ] at HND8 HC8 HBV; clear hVZ z0 z1 CN ND
            refine hK.out _ _ ?_
            clear hK K
            try simp only [Act.put, List.setIfInBounds_toArray, List.set_cons_zero, List.set_cons_succ]
            refine wpAnyD_takeP (i := 11) (oi := { dst := some 9, op := Op.assign (Operand.tmp 63), type := 4, pos := "law.go:66", after := #[{ on := 8, ground := Ground.data }, { on := 10, ground := Ground.chain }, { on := 0, ground := Ground.phase }, { on := 1, ground := Ground.phase }, { on := 2, ground := Ground.phase }, { on := 3, ground := Ground.phase }, { on := 4, ground := Ground.phase }, { on := 5, ground := Ground.phase }, { on := 6, ground := Ground.phase }, { on := 7, ground := Ground.phase }, { on := 8, ground := Ground.phase }, { on := 9, ground := Ground.phase }, { on := 10, ground := Ground.phase }], guard := none }) (d := 9) (v := ?_) rfl rfl (by kernel_rfl) (by kernel_rfl) (by kernel_rfl) (fun _ _ _ h => h) (Or.inl ⟨by rfl, ?_⟩) ?_
            rotate_left
            · (intro w' _; go_simp; (try with_reducible rfl))
            simp only [List.setIfInBounds_toArray, List.set_cons_zero, List.set_cons_succ]
            refine wpAnyD_done (by kernel_rfl) ?_ _
            have HC6Z := Lib.hid (HC6.out _ HBV.out)
            have HNSZ := Lib.hid (HNS.out _ HBV.out)
            have HNEZ := Lib.hid (HNE.out _ HBV.out)
            have HCEZ := Lib.hid (HCE.out _ HBV.out)
            have HW6Z := Lib.hid (HW6.out.trans (HBV.out.mono HW6.out.size))
            obtain ⟨r8, hr8, hc8⟩ := blk_name HC8.out
            rw [hr8]
            have HC8Z := Lib.hid hc8
            clear hHeld HBV HC6 HNS HNE HCE HF HW6 HG HC8 hc8 hr8
            have HBV := Lib.hid (Below.refl VZ.drew.heap.size VZ.drew)
            have HNS := Lib.hid (fun V (hV : Below VZ.drew.heap.size VZ.drew V) => (show NatIs VZ.drew _ _ from HNSZ.out).below hV (Nat.le_refl _))
            have HNE := Lib.hid (fun V (hV : Below VZ.drew.heap.size VZ.drew V) => (show NatIs VZ.drew _ _ from HNEZ.out).below hV (Nat.le_refl _))
            have HND := Lib.hid (fun V (hV : Below VZ.drew.heap.size VZ.drew V) => (show NatIs VZ.drew _ _ from HND8.out).below hV (Nat.le_refl _))
            have HC6 := Lib.hid (fun V (hV : Below VZ.drew.heap.size VZ.drew V) => blk_below hV (blk_lt (blk_drew HC6Z.out)) (blk_drew HC6Z.out))
            have HC8 := Lib.hid (fun V (hV : Below VZ.drew.heap.size VZ.drew V) => blk_below hV (blk_lt (blk_drew HC8Z.out)) (blk_drew HC8Z.out))
            have HCE := Lib.hid (fun V (hV : Below VZ.drew.heap.size VZ.drew V) => below_cell hV (Nat.le_refl _) (show VZ.drew.cell? ⟨g, q, none⟩ = some (.slice A' l' c') from HCEZ.out))
            have HF := Lib.hid (fun V (hV : Below VZ.drew.heap.size VZ.drew V) => And.intro (cell_facts (HC8.out V hV)).1 (And.intro (HCE.out V hV) (cell_facts (HC6.out V hV)).1))
            have HW6 : Hid (Below W2.heap.size W2 VZ.drew) := Lib.hid HW6Z.out.drew
            have HSN : Hid (sq + sumL [n] = sq + n) := Lib.hid (by simp [sumL])
            have HLA : Hid (∀ m, m ≤ [n].length → (dg B32 (sq + sumL ([n].take m))).length ≤ 100000) := Lib.hid (by
              intro m _
              refine Nat.le_trans (dg_len_mono (by decide) (show _ ≤ sq + n from ?_)) HDX.out.1
              rcases m with _ | m <;> simp [sumL])
            have HLB : Hid (∀ m ∈ [n], (dg B32 m).length ≤ 100000) := Lib.hid (by
              intro m hm
              simp at hm; subst hm
              exact HDX.out.2.2)
            clear HNSZ HNEZ HND8 HC6Z HC8Z HCEZ HW6Z
            go_wp2_with fail
            refine wp_region_D (Ds := []) (S := fun V => V.cell? ⟨r8, 0, none⟩ = some (.slice AD (dg B32 sq).length cD) ∧ V.cell? ⟨g, q, none⟩ = some (.slice A' l' c') ∧ V.cell? ⟨r6, 0, none⟩ = some (.slice AQ lQ cQ)) (by kernel_rfl) (by exact HF.out _ HBV.out) (fun hHeld => ?_)
            generalize VZ.drew = W8 at *
            refine wpAnyD_takeP (i := 0) (oi := { dst := some 64, op := Op.move (Operand.tmp 9), type := 4, pos := "law.go:67", after := #[], guard := none }) (d := 64) (v := ?_) rfl rfl (by kernel_rfl) (by kernel_rfl) (by kernel_rfl) (fun _ _ _ h => h) (Or.inl ⟨by rfl, ?_⟩) ?_
            rotate_left
            · (intro w' _; go_simp; (try with_reducible rfl))
            simp only [List.setIfInBounds_toArray, List.set_cons_zero, List.set_cons_succ]
            refine wpAnyD_takeP (i := 1) (oi := { dst := some 65, op := Op.unOp UnOp.not 4 (Operand.tmp 64), type := 4, pos := "law.go:67", after := #[{ on := 0, ground := Ground.data }], guard := none }) (d := 65) (v := ?_) rfl rfl (by kernel_rfl) (by kernel_rfl) (by kernel_rfl) (fun _ _ _ h => h) (Or.inl ⟨by rfl, ?_⟩) ?_
            rotate_left
            · (intro w' _; go_simp; (try with_reducible rfl))
            simp only [List.setIfInBounds_toArray, List.set_cons_zero, List.set_cons_succ]
            refine wpAnyD_takeP (i := 2) (oi := { dst := some 66, op := Op.move (Operand.tmp 65), type := 4, pos := "law.go:67", after := #[{ on := 1, ground := Ground.data }], guard := none }) (d := 66) (v := ?_) rfl rfl (by kernel_rfl) (by kernel_rfl) (by kernel_rfl) (fun _ _ _ h => h) (Or.inl ⟨by rfl, ?_⟩) ?_
            rotate_left
            · (intro w' _; go_simp; (try with_reducible rfl))
            simp only [List.setIfInBounds_toArray, List.set_cons_zero, List.set_cons_succ]
            refine wpAnyD_takeP (i := 4) (oi := { dst := some 68, op := Op.move (Operand.tmp 3), type := 47, pos := "law.go:67", after := #[{ on := 2, ground := Ground.guard }], guard := some (2, false) }) (d := 68) (v := ?_) rfl rfl (by kernel_rfl) (by kernel_rfl) (by kernel_rfl) (fun _ _ _ h => h) (Or.inl ⟨by rfl, ?_⟩) ?_
            rotate_left
            · (intro w' _; go_simp; (try with_reducible rfl))
            simp only [List.setIfInBounds_toArray, List.set_cons_zero, List.set_cons_succ]
            refine wpAnyD_takeP (i := 5) (oi := { dst := some 69, op := Op.move (Operand.tmp 7), type := 3, pos := "law.go:67", after := #[{ on := 2, ground := Ground.guard }], guard := some (2, false) }) (d := 69) (v := ?_) rfl rfl (by kernel_rfl) (by kernel_rfl) (by kernel_rfl) (fun _ _ _ h => h) (Or.inl ⟨by rfl, ?_⟩) ?_
            rotate_left
            · (intro w' _; go_simp; (try with_reducible rfl))
            simp only [List.setIfInBounds_toArray, List.set_cons_zero, List.set_cons_succ]
            refine wpAnyD_takeP (i := 6) (oi := { dst := some 70, op := Op.indexAddr 47 (Operand.tmp 68) (Operand.tmp 69), type := 0, pos := "law.go:67", after := #[{ on := 4, ground := Ground.data }, { on := 5, ground := Ground.data }, { on := 2, ground := Ground.guard }], guard := some (2, false) }) (d := 70) (v := ?_) rfl rfl (by kernel_rfl) (by kernel_rfl) (by kernel_rfl) (fun _ _ _ h => h) (Or.inl ⟨by rfl, ?_⟩) ?_
            rotate_left
            · (intro w' _; go_simp; (try with_reducible rfl))
            simp only [List.setIfInBounds_toArray, List.set_cons_zero, List.set_cons_succ]
            refine wpAnyD_takeD (i := 3) (oi := { dst := some 67, op := Op.load 26 (Operand.tmp 8), type := 26, pos := "law.go:67", after := #[{ on := 2, ground := Ground.guard }], guard := some (2, false) }) (d := 67) (v := ?_) rfl rfl (by kernel_rfl) (by kernel_rfl) (by kernel_rfl) (by kernel_rfl) (fun _ _ _ h => h) (Or.inl ⟨by rfl, ?_⟩) hHeld ?_
            rotate_left
            · (intro w' hSw; (try dsimp only at hSw); go_simp; (try with_reducible rfl))
            simp only [List.setIfInBounds_toArray, List.set_cons_zero, List.set_cons_succ]
            refine wpAnyD_takeD (i := 7) (oi := { dst := some 71, op := Op.load 26 (Operand.tmp 70), type := 26, pos := "law.go:67", after := #[{ on := 6, ground := Ground.data }, { on := 2, ground := Ground.guard }], guard := some (2, false) }) (d := 71) (v := ?_) rfl rfl (by kernel_rfl) (by kernel_rfl) (by kernel_rfl) (by kernel_rfl) (fun _ _ _ h => h) (Or.inl ⟨by rfl, ?_⟩) hHeld ?_
            rotate_left
            · (intro w' hSw; (try dsimp only at hSw); go_simp; (try with_reducible rfl))
            simp only [List.setIfInBounds_toArray, List.set_cons_zero, List.set_cons_succ]
            refine wpAnyD_takeD (i := 10) (oi := { dst := some 74, op := Op.load 26 (Operand.tmp 6), type := 26, pos := "law.go:67", after := #[{ on := 2, ground := Ground.guard }], guard := some (2, false) }) (d := 74) (v := ?_) rfl rfl (by kernel_rfl) (by kernel_rfl) (by kernel_rfl) (by kernel_rfl) (fun _ _ _ h => h) (Or.inl ⟨by rfl, ?_⟩) hHeld ?_
            rotate_left
            · (intro w' hSw; (try dsimp only at hSw); go_simp; (try with_reducible rfl))
            simp only [List.setIfInBounds_toArray, List.set_cons_zero, List.set_cons_succ]
            refine wpAnyD_one (i := 8) (o := { dst := some 72, op := Op.buildSlice 47 1 #[(0, Operand.tmp 71)], type := 47, pos := "law.go:67", after := #[{ on := 7, ground := Ground.data }, { on := 2, ground := Ground.guard }], guard := some (2, false) }) (by kernel_rfl) rfl (by rfl) (fun K hK => ?_)
            go_simp; refine gen_alloc HBV.out (fun V5 hb hci => ?_); replace HBV := Lib.hid (HBV.out.trans (hb.mono HBV.out.size)); (try (replace NA := Lib.hid (NA.out.below hb (Nat.le_refl _)))); have CI := Lib.hid hci; have h := HF.out _ HBV.out; clear hb hci
            refine hK.out _ _ h (fun hHeld => ?_)
            clear hK K
            try simp only [Act.put, List.setIfInBounds_toArray, List.set_cons_zero, List.set_cons_succ]
            refine wpAnyD_one (i := 9) (o := { dst := some 73, op := Op.call { callee := Callee.value (Operand.func 25), args := #[Operand.tmp 67, Operand.tmp 72], argTypes := #[26, 47] }, type := 26, pos := "law.go:67", after := #[{ on := 3, ground := Ground.data }, { on := 8, ground := Ground.data }, { on := 2, ground := Ground.chain }, { on := 2, ground := Ground.guard }], guard := some (2, false) }) (by kernel_rfl) rfl (by rfl) (fun K hK => ?_)
            go_simp; refine (add_any _ sq [n] _ 1 _ (HND.out _ HBV.out) (nats_one (HNE.out _ HBV.out) CI.out) (by simp) HLA.out HLB.out).mono ?_; rintro e V2 ⟨u2, rfl, hn, hb⟩; replace HBV := Lib.hid (HBV.out.trans (hb.mono HBV.out.size)); (try (replace CI := Lib.hid (blk_below hb (blk_lt CI.out) CI.out))); rw [HSN.out] at hn; have NA := Lib.hid hn; have h := HF.out _ HBV.out; clear hn hb
            refine hK.out _ _ h (fun hHeld => ?_)
            clear hK K
            try simp only [Act.put, List.setIfInBounds_toArray, List.set_cons_zero, List.set_cons_succ]
            refine wpAnyD_one (i := 11) (o := { dst := some 75, op := Op.call { callee := Callee.value (Operand.func 16), args := #[Operand.tmp 73, Operand.tmp 74], argTypes := #[26, 26] }, type := 3, pos := "law.go:67", after := #[{ on := 9, ground := Ground.data }, { on := 10, ground := Ground.data }, { on := 9, ground := Ground.chain }, { on := 2, ground := Ground.guard }], guard := some (2, false) }) (by kernel_rfl) rfl (by rfl) (fun K hK => ?_)
            go_simp; refine (compare_any u2 _ (sq + n) (sq + n) _ NA.out (HNS.out _ HBV.out) HDX.out.1 HDX.out.1).mono ?_; rintro e V3 ⟨rfl, hb⟩; replace HBV := Lib.hid (HBV.out.trans (hb.mono HBV.out.size)); (try (replace NA := Lib.hid (NA.out.below hb (Nat.le_refl _)))); rw [show cmpN (sq + n) (sq + n) = 0 by unfold cmpN; rw [if_neg (by omega), if_neg (by omega)]]; have h := HF.out _ HBV.out; clear hb
            refine hK.out _ _ h (fun hHeld => ?_)
            clear hK K
            try simp only [Act.put, List.setIfInBounds_toArray, List.set_cons_zero, List.set_cons_succ]
            refine wpAnyD_takeP (i := 12) (oi := { dst := some 76, op := Op.binOp BinOp.neq 3 (Operand.tmp 75) (Operand.const (Value.int IntKind.i64 0)) 3, type := 4, pos := "law.go:67", after := #[{ on := 11, ground := Ground.data }, { on := 2, ground := Ground.guard }], guard := some (2, false) }) (d := 76) (v := ?_) rfl rfl (by kernel_rfl) (by kernel_rfl) (by kernel_rfl) (fun _ _ _ h => h) (Or.inl ⟨by rfl, ?_⟩) ?_
            rotate_left
            · (intro w' _; go_simp; (try with_reducible rfl))
            simp only [List.setIfInBounds_toArray, List.set_cons_zero, List.set_cons_succ]
            refine wpAnyD_takeP (i := 13) (oi := { dst := some 77, op := Op.pick (Operand.tmp 66) (Operand.const (Value.bool true)) (Operand.tmp 76), type := 4, pos := "law.go:67", after := #[{ on := 2, ground := Ground.data }, { on := 12, ground := Ground.data }], guard := none }) (d := 77) (v := ?_) rfl rfl (by kernel_rfl) (by kernel_rfl) (by kernel_rfl) (fun _ _ _ h => h) (Or.inl ⟨by rfl, ?_⟩) ?_
            rotate_left
            · (intro w' _; go_simp; (try with_reducible rfl))
            simp only [List.setIfInBounds_toArray, List.set_cons_zero, List.set_cons_succ]
            refine wpAnyD_done (by kernel_rfl) ?_ _
            have hc6 := HC6.out _ HBV.out
            have hc8 := HC8.out _ HBV.out
            obtain ⟨y0, y1⟩ := cell_facts hc6
            obtain ⟨y2, y3⟩ := cell_facts hc8
            have HNF := Lib.hid (NatIs.put (HND.out _ HBV.out) hc6 (sl_ne_u32 _ _ _) (.slice AD (dg B32 sq).length cD))
            have HCF := Lib.hid (cell_put hc6 (.slice AD (dg B32 sq).length cD))
            have HBF := Lib.hid (set_hb hc6 (HW6.out.trans (HBV.out.mono HW6.out.size)) HR62.out (.slice AD (dg B32 sq).length cD))
            have wk9 : IntKind.i64.wrap ((q : Int) - 1) = (q : Int) - 1 := IntWalk.i64_in _ (by omega)
            have HSQ2 : Hid (NatIs _ _ (sumL (ns.take q))) := Lib.hid (by rw [HSQ.out]; exact HNF.out)
            
            clear hHeld hc6 hc8 HNF
            go_wp2_with fail
            go_roundg q
            case measure => omega
            case rel => exact ⟨q, _, AD, _, cD, rfl, rfl, rfl, by omega, HCF.out, HSQ2.out, HBF.out⟩
          ·
            go_simp; refine gen_alloc HBV.out (fun V6 hb hcn => ?_); have hg := HBV.out.size; replace HBV := Lib.hid (HBV.out.trans (hb.mono HBV.out.size)); (try (replace ND := Lib.hid (ND.out.below hb (Nat.le_refl _)))); (try (replace CN := Lib.hid (blk_below hb (blk_lt CN.out) CN.out))); have CN := Lib.hid hcn; have HG := Lib.hid hg; have h := HF.out _ HBV.out; clear hb hcn hg
            refine hK.out _ _ h (fun hHeld => ?_)
            clear hK K
            try simp only [Act.put, List.setIfInBounds_toArray, List.set_cons_zero, List.set_cons_succ]
            refine wpAnyD_one (i := 5) (o := { dst := some 61, op := Op.call { callee := Callee.value (Operand.func 15), args := #[Operand.tmp 56, Operand.tmp 60], argTypes := #[26, 26] }, type := 32, pos := "law.go:66", after := #[{ on := 0, ground := Ground.data }, { on := 4, ground := Ground.data }], guard := none }) (by kernel_rfl) rfl (by rfl) (fun K hK => ?_)
            go_simp; refine (sub_any _ _ (sq + n) n _ (HNS.out _ HBV.out) (HNE.out _ HBV.out) HDX.out.1 HDX.out.2.2).mono ?_; rintro e V1 ⟨u1, rfl, hn, hb⟩; replace HBV := Lib.hid (HBV.out.trans (hb.mono HBV.out.size)); (try (replace ND := Lib.hid (ND.out.below hb (Nat.le_refl _)))); (try (replace CN := Lib.hid (blk_below hb (blk_lt CN.out) CN.out))); rw [HDEC.out.2] at hn; rw [HDEC.out.1]; obtain ⟨AD, cD, rfl, hq1, hq2⟩ := hn; have ND := Lib.hid (show NatIs V1 _ sq from ⟨AD, cD, rfl, hq1, hq2⟩); have h := HF.out _ HBV.out; clear hq1 hq2 hb
            refine hK.out _ _ h (fun hHeld => ?_)
            clear hK K
            try simp only [Act.put, List.setIfInBounds_toArray, List.set_cons_zero, List.set_cons_succ]
            refine wpAnyD_takeP (i := 6) (oi := { dst := some 55, op := Op.move (Operand.tmp 61), type := 32, pos := "law.go:66", after := #[{ on := 5, ground := Ground.data }], guard := none }) (d := 55) (v := ?_) rfl rfl (by kernel_rfl) (by kernel_rfl) (by kernel_rfl) (fun _ _ _ h => h) (Or.inl ⟨by rfl, ?_⟩) ?_
            rotate_left
            · (intro w' _; go_simp; (try with_reducible rfl))
            simp only [List.setIfInBounds_toArray, List.set_cons_zero, List.set_cons_succ]
            refine wpAnyD_takeP (i := 7) (oi := { dst := some 62, op := Op.extract (Operand.tmp 55) 0, type := 26, pos := "law.go:66", after := #[{ on := 6, ground := Ground.data }], guard := none }) (d := 62) (v := ?_) rfl rfl (by kernel_rfl) (by kernel_rfl) (by kernel_rfl) (fun _ _ _ h => h) (Or.inl ⟨by rfl, ?_⟩) ?_
            rotate_left
            · (intro w' _; go_simp; (try with_reducible rfl))
            simp only [List.setIfInBounds_toArray, List.set_cons_zero, List.set_cons_succ]
            refine wpAnyD_takeP (i := 8) (oi := { dst := some 63, op := Op.extract (Operand.tmp 55) 1, type := 4, pos := "law.go:66", after := #[{ on := 6, ground := Ground.data }, { on := 10, ground := Ground.gcOnly Departure.lateStores }], guard := none }) (d := 63) (v := ?_) rfl rfl (by kernel_rfl) (by kernel_rfl) (by kernel_rfl) (fun _ _ _ h => h) (Or.inl ⟨by rfl, ?_⟩) ?_
            rotate_left
            · (intro w' _; go_simp; (try with_reducible rfl))
            simp only [List.setIfInBounds_toArray, List.set_cons_zero, List.set_cons_succ]
            refine wpAnyD_last (D := 10) (by decide) (o := { dst := none, op := Op.store 26 (Operand.tmp 8) (Operand.tmp 62), type := 0, pos := "law.go:66", after := #[{ on := 9, ground := Ground.data }, { on := 7, ground := Ground.data }, { on := 5, ground := Ground.chain }, { on := 0, ground := Ground.phase }, { on := 1, ground := Ground.phase }, { on := 2, ground := Ground.phase }, { on := 3, ground := Ground.phase }, { on := 4, ground := Ground.phase }, { on := 5, ground := Ground.phase }, { on := 6, ground := Ground.phase }, { on := 7, ground := Ground.phase }, { on := 8, ground := Ground.textOnly Departure.lateStores }, { on := 9, ground := Ground.phase }], guard := none }) (by kernel_rfl) rfl (by rfl) (fun K hK => ?_)
            obtain ⟨z0, z1⟩ := cell_facts CN.out; go_simp; have HND8 := Lib.hid (NatIs.put ND.out CN.out (sl_ne_u32 _ _ _) (.slice AD (dg B32 sq).length cD)); have HC8 := Lib.hid (cell_put CN.out (.slice AD (dg B32 sq).length cD)); replace HBV := Lib.hid (set_hb CN.out HBV.out HG.out (.slice AD (dg B32 sq).length cD)); refine gen_set1 rfl (fun VZ hVZ => ?_); rw [← hVZ] at HND8 HC8 HBV; clear hVZ z0 z1 CN ND
            refine hK.out _ _ ?_
            clear hK K
            try simp only [Act.put, List.setIfInBounds_toArray, List.set_cons_zero, List.set_cons_succ]
            refine wpAnyD_takeP (i := 11) (oi := { dst := some 9, op := Op.assign (Operand.tmp 63), type := 4, pos := "law.go:66", after := #[{ on := 8, ground := Ground.data }, { on := 10, ground := Ground.chain }, { on := 0, ground := Ground.phase }, { on := 1, ground := Ground.phase }, { on := 2, ground := Ground.phase }, { on := 3, ground := Ground.phase }, { on := 4, ground := Ground.phase }, { on := 5, ground := Ground.phase }, { on := 6, ground := Ground.phase }, { on := 7, ground := Ground.phase }, { on := 8, ground := Ground.phase }, { on := 9, ground := Ground.phase }, { on := 10, ground := Ground.phase }], guard := none }) (d := 9) (v := ?_) rfl rfl (by kernel_rfl) (by kernel_rfl) (by kernel_rfl) (fun _ _ _ h => h) (Or.inl ⟨by rfl, ?_⟩) ?_
            rotate_left
            · (intro w' _; go_simp; (try with_reducible rfl))
            simp only [List.setIfInBounds_toArray, List.set_cons_zero, List.set_cons_succ]
            refine wpAnyD_done (by kernel_rfl) ?_ _
            have HC6Z := Lib.hid (HC6.out _ HBV.out)
            have HNSZ := Lib.hid (HNS.out _ HBV.out)
            have HNEZ := Lib.hid (HNE.out _ HBV.out)
            have HCEZ := Lib.hid (HCE.out _ HBV.out)
            have HW6Z := Lib.hid (HW6.out.trans (HBV.out.mono HW6.out.size))
            obtain ⟨r8, hr8, hc8⟩ := blk_name HC8.out
            rw [hr8]
            have HC8Z := Lib.hid hc8
            clear hHeld HBV HC6 HNS HNE HCE HF HW6 HG HC8 hc8 hr8
            have HBV := Lib.hid (Below.refl VZ.drew.heap.size VZ.drew)
            have HNS := Lib.hid (fun V (hV : Below VZ.drew.heap.size VZ.drew V) => (show NatIs VZ.drew _ _ from HNSZ.out).below hV (Nat.le_refl _))
            have HNE := Lib.hid (fun V (hV : Below VZ.drew.heap.size VZ.drew V) => (show NatIs VZ.drew _ _ from HNEZ.out).below hV (Nat.le_refl _))
            have HND := Lib.hid (fun V (hV : Below VZ.drew.heap.size VZ.drew V) => (show NatIs VZ.drew _ _ from HND8.out).below hV (Nat.le_refl _))
            have HC6 := Lib.hid (fun V (hV : Below VZ.drew.heap.size VZ.drew V) => blk_below hV (blk_lt (blk_drew HC6Z.out)) (blk_drew HC6Z.out))
            have HC8 := Lib.hid (fun V (hV : Below VZ.drew.heap.size VZ.drew V) => blk_below hV (blk_lt (blk_drew HC8Z.out)) (blk_drew HC8Z.out))
            have HCE := Lib.hid (fun V (hV : Below VZ.drew.heap.size VZ.drew V) => below_cell hV (Nat.le_refl _) (show VZ.drew.cell? ⟨g, q, none⟩ = some (.slice A' l' c') from HCEZ.out))
            have HF := Lib.hid (fun V (hV : Below VZ.drew.heap.size VZ.drew V) => And.intro (cell_facts (HC8.out V hV)).1 (And.intro (HCE.out V hV) (cell_facts (HC6.out V hV)).1))
            have HW6 : Hid (Below W2.heap.size W2 VZ.drew) := Lib.hid HW6Z.out.drew
            have HSN : Hid (sq + sumL [n] = sq + n) := Lib.hid (by simp [sumL])
            have HLA : Hid (∀ m, m ≤ [n].length → (dg B32 (sq + sumL ([n].take m))).length ≤ 100000) := Lib.hid (by
              intro m _
              refine Nat.le_trans (dg_len_mono (by decide) (show _ ≤ sq + n from ?_)) HDX.out.1
              rcases m with _ | m <;> simp [sumL])
            have HLB : Hid (∀ m ∈ [n], (dg B32 m).length ≤ 100000) := Lib.hid (by
              intro m hm
              simp at hm; subst hm
              exact HDX.out.2.2)
            clear HNSZ HNEZ HND8 HC6Z HC8Z HCEZ HW6Z
            go_wp2_with fail
            refine wp_region_D (Ds := []) (S := fun V => V.cell? ⟨r8, 0, none⟩ = some (.slice AD (dg B32 sq).length cD) ∧ V.cell? ⟨g, q, none⟩ = some (.slice A' l' c') ∧ V.cell? ⟨r6, 0, none⟩ = some (.slice AQ lQ cQ)) (by kernel_rfl) (by exact HF.out _ HBV.out) (fun hHeld => ?_)
            generalize VZ.drew = W8 at *
            refine wpAnyD_takeP (i := 0) (oi := { dst := some 64, op := Op.move (Operand.tmp 9), type := 4, pos := "law.go:67", after := #[], guard := none }) (d := 64) (v := ?_) rfl rfl (by kernel_rfl) (by kernel_rfl) (by kernel_rfl) (fun _ _ _ h => h) (Or.inl ⟨by rfl, ?_⟩) ?_
            rotate_left
            · (intro w' _; go_simp; (try with_reducible rfl))
            simp only [List.setIfInBounds_toArray, List.set_cons_zero, List.set_cons_succ]
            refine wpAnyD_takeP (i := 1) (oi := { dst := some 65, op := Op.unOp UnOp.not 4 (Operand.tmp 64), type := 4, pos := "law.go:67", after := #[{ on := 0, ground := Ground.data }], guard := none }) (d := 65) (v := ?_) rfl rfl (by kernel_rfl) (by kernel_rfl) (by kernel_rfl) (fun _ _ _ h => h) (Or.inl ⟨by rfl, ?_⟩) ?_
            rotate_left
            · (intro w' _; go_simp; (try with_reducible rfl))
            simp only [List.setIfInBounds_toArray, List.set_cons_zero, List.set_cons_succ]
            refine wpAnyD_takeP (i := 2) (oi := { dst := some 66, op := Op.move (Operand.tmp 65), type := 4, pos := "law.go:67", after := #[{ on := 1, ground := Ground.data }], guard := none }) (d := 66) (v := ?_) rfl rfl (by kernel_rfl) (by kernel_rfl) (by kernel_rfl) (fun _ _ _ h => h) (Or.inl ⟨by rfl, ?_⟩) ?_
            rotate_left
            · (intro w' _; go_simp; (try with_reducible rfl))
            simp only [List.setIfInBounds_toArray, List.set_cons_zero, List.set_cons_succ]
            refine wpAnyD_takeP (i := 4) (oi := { dst := some 68, op := Op.move (Operand.tmp 3), type := 47, pos := "law.go:67", after := #[{ on := 2, ground := Ground.guard }], guard := some (2, false) }) (d := 68) (v := ?_) rfl rfl (by kernel_rfl) (by kernel_rfl) (by kernel_rfl) (fun _ _ _ h => h) (Or.inl ⟨by rfl, ?_⟩) ?_
            rotate_left
            · (intro w' _; go_simp; (try with_reducible rfl))
            simp only [List.setIfInBounds_toArray, List.set_cons_zero, List.set_cons_succ]
            refine wpAnyD_takeP (i := 5) (oi := { dst := some 69, op := Op.move (Operand.tmp 7), type := 3, pos := "law.go:67", after := #[{ on := 2, ground := Ground.guard }], guard := some (2, false) }) (d := 69) (v := ?_) rfl rfl (by kernel_rfl) (by kernel_rfl) (by kernel_rfl) (fun _ _ _ h => h) (Or.inl ⟨by rfl, ?_⟩) ?_
            rotate_left
            · (intro w' _; go_simp; (try with_reducible rfl))
            simp only [List.setIfInBounds_toArray, List.set_cons_zero, List.set_cons_succ]
            refine wpAnyD_takeP (i := 6) (oi := { dst := some 70, op := Op.indexAddr 47 (Operand.tmp 68) (Operand.tmp 69), type := 0, pos := "law.go:67", after := #[{ on := 4, ground := Ground.data }, { on := 5, ground := Ground.data }, { on := 2, ground := Ground.guard }], guard := some (2, false) }) (d := 70) (v := ?_) rfl rfl (by kernel_rfl) (by kernel_rfl) (by kernel_rfl) (fun _ _ _ h => h) (Or.inl ⟨by rfl, ?_⟩) ?_
            rotate_left
            · (intro w' _; go_simp; (try with_reducible rfl))
            simp only [List.setIfInBounds_toArray, List.set_cons_zero, List.set_cons_succ]
            refine wpAnyD_takeD (i := 3) (oi := { dst := some 67, op := Op.load 26 (Operand.tmp 8), type := 26, pos := "law.go:67", after := #[{ on := 2, ground := Ground.guard }], guard := some (2, false) }) (d := 67) (v := ?_) rfl rfl (by kernel_rfl) (by kernel_rfl) (by kernel_rfl) (by kernel_rfl) (fun _ _ _ h => h) (Or.inl ⟨by rfl, ?_⟩) hHeld ?_
            rotate_left
            · (intro w' hSw; (try dsimp only at hSw); go_simp; (try with_reducible rfl))
            simp only [List.setIfInBounds_toArray, List.set_cons_zero, List.set_cons_succ]
            refine wpAnyD_takeD (i := 7) (oi := { dst := some 71, op := Op.load 26 (Operand.tmp 70), type := 26, pos := "law.go:67", after := #[{ on := 6, ground := Ground.data }, { on := 2, ground := Ground.guard }], guard := some (2, false) }) (d := 71) (v := ?_) rfl rfl (by kernel_rfl) (by kernel_rfl) (by kernel_rfl) (by kernel_rfl) (fun _ _ _ h => h) (Or.inl ⟨by rfl, ?_⟩) hHeld ?_
            rotate_left
            · (intro w' hSw; (try dsimp only at hSw); go_simp; (try with_reducible rfl))
            simp only [List.setIfInBounds_toArray, List.set_cons_zero, List.set_cons_succ]
            refine wpAnyD_takeD (i := 10) (oi := { dst := some 74, op := Op.load 26 (Operand.tmp 6), type := 26, pos := "law.go:67", after := #[{ on := 2, ground := Ground.guard }], guard := some (2, false) }) (d := 74) (v := ?_) rfl rfl (by kernel_rfl) (by kernel_rfl) (by kernel_rfl) (by kernel_rfl) (fun _ _ _ h => h) (Or.inl ⟨by rfl, ?_⟩) hHeld ?_
            rotate_left
            · (intro w' hSw; (try dsimp only at hSw); go_simp; (try with_reducible rfl))
            simp only [List.setIfInBounds_toArray, List.set_cons_zero, List.set_cons_succ]
            refine wpAnyD_one (i := 8) (o := { dst := some 72, op := Op.buildSlice 47 1 #[(0, Operand.tmp 71)], type := 47, pos := "law.go:67", after := #[{ on := 7, ground := Ground.data }, { on := 2, ground := Ground.guard }], guard := some (2, false) }) (by kernel_rfl) rfl (by rfl) (fun K hK => ?_)
            go_simp; refine gen_alloc HBV.out (fun V5 hb hci => ?_); replace HBV := Lib.hid (HBV.out.trans (hb.mono HBV.out.size)); (try (replace NA := Lib.hid (NA.out.below hb (Nat.le_refl _)))); have CI := Lib.hid hci; have h := HF.out _ HBV.out; clear hb hci
            refine hK.out _ _ h (fun hHeld => ?_)
            clear hK K
            try simp only [Act.put, List.setIfInBounds_toArray, List.set_cons_zero, List.set_cons_succ]
            refine wpAnyD_one (i := 9) (o := { dst := some 73, op := Op.call { callee := Callee.value (Operand.func 25), args := #[Operand.tmp 67, Operand.tmp 72], argTypes := #[26, 47] }, type := 26, pos := "law.go:67", after := #[{ on := 3, ground := Ground.data }, { on := 8, ground := Ground.data }, { on := 2, ground := Ground.chain }, { on := 2, ground := Ground.guard }], guard := some (2, false) }) (by kernel_rfl) rfl (by rfl) (fun K hK => ?_)
            go_simp; refine (add_any _ sq [n] _ 1 _ (HND.out _ HBV.out) (nats_one (HNE.out _ HBV.out) CI.out) (by simp) HLA.out HLB.out).mono ?_; rintro e V2 ⟨u2, rfl, hn, hb⟩; replace HBV := Lib.hid (HBV.out.trans (hb.mono HBV.out.size)); (try (replace CI := Lib.hid (blk_below hb (blk_lt CI.out) CI.out))); rw [HSN.out] at hn; have NA := Lib.hid hn; have h := HF.out _ HBV.out; clear hn hb
            refine hK.out _ _ h (fun hHeld => ?_)
            clear hK K
            try simp only [Act.put, List.setIfInBounds_toArray, List.set_cons_zero, List.set_cons_succ]
            refine wpAnyD_one (i := 11) (o := { dst := some 75, op := Op.call { callee := Callee.value (Operand.func 16), args := #[Operand.tmp 73, Operand.tmp 74], argTypes := #[26, 26] }, type := 3, pos := "law.go:67", after := #[{ on := 9, ground := Ground.data }, { on := 10, ground := Ground.data }, { on := 9, ground := Ground.chain }, { on := 2, ground := Ground.guard }], guard := some (2, false) }) (by kernel_rfl) rfl (by rfl) (fun K hK => ?_)
            go_simp; refine (compare_any u2 _ (sq + n) (sq + n) _ NA.out (HNS.out _ HBV.out) HDX.out.1 HDX.out.1).mono ?_; rintro e V3 ⟨rfl, hb⟩; replace HBV := Lib.hid (HBV.out.trans (hb.mono HBV.out.size)); (try (replace NA := Lib.hid (NA.out.below hb (Nat.le_refl _)))); rw [show cmpN (sq + n) (sq + n) = 0 by unfold cmpN; rw [if_neg (by omega), if_neg (by omega)]]; have h := HF.out _ HBV.out; clear hb
            refine hK.out _ _ h (fun hHeld => ?_)
            clear hK K
            try simp only [Act.put, List.setIfInBounds_toArray, List.set_cons_zero, List.set_cons_succ]
            refine wpAnyD_takeP (i := 12) (oi := { dst := some 76, op := Op.binOp BinOp.neq 3 (Operand.tmp 75) (Operand.const (Value.int IntKind.i64 0)) 3, type := 4, pos := "law.go:67", after := #[{ on := 11, ground := Ground.data }, { on := 2, ground := Ground.guard }], guard := some (2, false) }) (d := 76) (v := ?_) rfl rfl (by kernel_rfl) (by kernel_rfl) (by kernel_rfl) (fun _ _ _ h => h) (Or.inl ⟨by rfl, ?_⟩) ?_
            rotate_left
            · (intro w' _; go_simp; (try with_reducible rfl))
            simp only [List.setIfInBounds_toArray, List.set_cons_zero, List.set_cons_succ]
            refine wpAnyD_takeP (i := 13) (oi := { dst := some 77, op := Op.pick (Operand.tmp 66) (Operand.const (Value.bool true)) (Operand.tmp 76), type := 4, pos := "law.go:67", after := #[{ on := 2, ground := Ground.data }, { on := 12, ground := Ground.data }], guard := none }) (d := 77) (v := ?_) rfl rfl (by kernel_rfl) (by kernel_rfl) (by kernel_rfl) (fun _ _ _ h => h) (Or.inl ⟨by rfl, ?_⟩) ?_
            rotate_left
            · (intro w' _; go_simp; (try with_reducible rfl))
            simp only [List.setIfInBounds_toArray, List.set_cons_zero, List.set_cons_succ]
            refine wpAnyD_done (by kernel_rfl) ?_ _
            have hc6 := HC6.out _ HBV.out
            have hc8 := HC8.out _ HBV.out
            obtain ⟨y0, y1⟩ := cell_facts hc6
            obtain ⟨y2, y3⟩ := cell_facts hc8
            have HNF := Lib.hid (NatIs.put (HND.out _ HBV.out) hc6 (sl_ne_u32 _ _ _) (.slice AD (dg B32 sq).length cD))
            have HCF := Lib.hid (cell_put hc6 (.slice AD (dg B32 sq).length cD))
            have HBF := Lib.hid (set_hb hc6 (HW6.out.trans (HBV.out.mono HW6.out.size)) HR62.out (.slice AD (dg B32 sq).length cD))
            have wk9 : IntKind.i64.wrap ((q : Int) - 1) = (q : Int) - 1 := IntWalk.i64_in _ (by omega)
            have HSQ2 : Hid (NatIs _ _ (sumL (ns.take q))) := Lib.hid (by rw [HSQ.out]; exact HNF.out)
            
            clear hHeld hc6 hc8 HNF
            go_wp2_with fail
            go_roundg q
            case measure => omega
            case rel => exact ⟨q, _, AD, _, cD, rfl, rfl, rfl, by omega, HCF.out, HSQ2.out, HBF.out⟩

theorem wf_u32' {n : Int} (h : (Lit.int .u32 n).wf = true) : 0 ≤ n ∧ n ≤ 4294967295 := by simpa [Lit.wf, IntKind.min, IntKind.max, IntKind.bits, IntKind.signed] using h
theorem sums_law (x0 : List (List Int)) (A0 : Option Addr) (c0 : Nat) (w : World) (_ : x0.length ≤ c0) (_ : c0 ≤ maxLen) (s0 : RowsIs w A0 .u32 x0) :
    Calls Try.prog 5 #[.slice A0 x0.length c0] w (RetTrue w) := by
  have hS : LimbsIs w A0 (x0.map (List.map Int.toNat)) := by
    intro i l hl
    rw [List.getElem?_map] at hl
    obtain ⟨xs, hxs, rfl⟩ := Option.map_eq_some_iff.1 hl
    obtain ⟨b, o, A', c', e, hc, hs, hw⟩ := s0 i xs hxs
    obtain ⟨p, q⟩ := sl_u32 hs hw
    exact ⟨b, o, A', c', e, by rw [List.length_map]; exact hc, p, q⟩
  have e0 : x0.length = (x0.map (List.map Int.toNat)).length := by simp
  rw [e0]
  by_cases h : (x0.map (List.map Int.toNat)).length ≤ 10 ∧ ∀ l ∈ x0.map (List.map Int.toNat), l.length ≤ 20
  · exact sums_small _ A0 c0 w hS h.1 h.2
  · exact sums_big _ A0 c0 w hS h
end Go.Proofs.Ytnfehhblmoliaaa
