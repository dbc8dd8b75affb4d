/- Layer 1 (nat): NatCompares. -/
import Derived.Test.YtnfehhblmoliaaaNatM
namespace Go.Proofs.Ytnfehhblmoliaaa
open Go.RowKit Go.Maps Go.WideMaps
set_option maxRecDepth 100000
set_option linter.unusedVariables false
set_option linter.unusedSimpArgs false

theorem compares_big (l l2 : List Nat) (A A2 : Option Addr) (c c2 : Nat) (w : World) (hlen : ¬ (l.length ≤ 20 ∧ l2.length ≤ 20)) :
    Calls Try.prog 3 #[.slice A l.length c, .slice A2 l2.length c2] w (RetTrue w) := by
  have HF := Lib.hid (few_any [l.length, l2.length] (some ⟨w.heap.size, 0, none⟩) 2 _ false (by simp; omega) (few_cells2 w A A2 l.length l2.length c c2) (by simp))
  have HB := Lib.hid ((Below.refl w.heap.size w).alloc (Nat.le_refl _) (.cells #[.slice A l.length c, .slice A2 l2.length c2] 22))
  go_enter Try.func3, Try.ntmps3
  go_wp2_with fail
  refine HF.out.mono ?_
  rintro e W1 ⟨rfl, rfl⟩
  go_wp2_with fail
  refine (awake_any _).mono ?_
  rintro e W2 ⟨rfl, hb⟩
  go_wp2_with fail
  go_ret
  exact ⟨rfl, HB.out.trans (hb.mono HB.out.size)⟩
theorem cmpN_neg (a b : Nat) : cmpN b a = - cmpN a b := by unfold cmpN; split <;> split <;> omega
theorem cmpN_ge (a b : Nat) : (0 ≤ cmpN a b) ↔ b ≤ a := by unfold cmpN; split <;> (try split) <;> omega

set_option maxHeartbeats 16000000 in
theorem compares_small (l l2 : List Nat) (A A2 : Option Addr) (c c2 : Nat) (w : World) (hS : Sl1 w A u32V l) (hS2 : Sl1 w A2 u32V l2) (hx : ∀ x ∈ l, x < B32) (hx2 : ∀ x ∈ l2, x < B32) (hlen : l.length ≤ 20) (hlen2 : l2.length ≤ 20) :
    Calls Try.prog 3 #[.slice A l.length c, .slice A2 l2.length c2] w (RetTrue w) := by
  have HF := Lib.hid (few_any [l.length, l2.length] (some ⟨w.heap.size, 0, none⟩) 2 _ true (by simp [hlen, hlen2]) (few_cells2 w A A2 l.length l2.length c c2) (by simp))
  have hb0 := (Below.refl w.heap.size w).alloc (Nat.le_refl _) (.cells #[.slice A l.length c, .slice A2 l2.length c2] 22)
  have HB := Lib.hid hb0
  have HS := Lib.hid (hS.below hb0 (Nat.le_refl _))
  have HT := Lib.hid (hS2.below hb0 (Nat.le_refl _))
  have HX := Lib.hid hx
  have HX2 := Lib.hid hx2
  clear hS hS2 hb0
  obtain ⟨a, ha⟩ : ∃ a, vl B32 l = a := ⟨_, rfl⟩
  obtain ⟨b, hb⟩ : ∃ b, vl B32 l2 = b := ⟨_, rfl⟩
  have HA := Lib.hid ha
  have HA2 := Lib.hid hb
  have HL := Lib.hid (show (dg B32 a).length ≤ 20 ∧ (dg 10 a).length ≤ 1000 ∧ (dg B32 b).length ≤ 20 ∧ (dg 10 b).length ≤ 1000 from by
    rw [← ha, ← hb]; exact ⟨dg32_le l hx 20 hlen, dec10_le l hx (by omega), dg32_le l2 hx2 20 hlen2, dec10_le l2 hx2 (by omega)⟩)
  clear ha hb hx hx2
  go_enter Try.func3, Try.ntmps3
  go_wp2_with fail
  refine HF.out.mono ?_
  rintro e W0 ⟨rfl, rfl⟩
  clear HF
  go_wp2_with fail
  refine (of_any l A c _ HS.out HX.out (by omega)).mono ?_
  rintro e W1 ⟨v1, rfl, hn, hb⟩
  have HB := Lib.hid (HB.out.trans (hb.mono HB.out.size))
  have HS := Lib.hid (HS.out.below hb (Nat.le_refl _))
  have HT := Lib.hid (HT.out.below hb (Nat.le_refl _))
  rw [HA.out] at hn
  have NX := Lib.hid hn
  clear hb hn
  go_wp2_with fail
  refine (of_any l2 A2 c2 _ HT.out HX2.out (by omega)).mono ?_
  rintro e W2 ⟨v2, rfl, hn, hb⟩
  have HB := Lib.hid (HB.out.trans (hb.mono HB.out.size))
  have HS := Lib.hid (HS.out.below hb (Nat.le_refl _))
  have HT := Lib.hid (HT.out.below hb (Nat.le_refl _))
  have NX := Lib.hid (NX.out.below hb (Nat.le_refl _))
  rw [HA2.out] at hn
  have NY := Lib.hid hn
  clear hb hn
  obtain ⟨AX, cX, rfl, hq1, hq2⟩ := NX.out
  obtain ⟨AY, cY, rfl, hq3, hq4⟩ := NY.out
  clear hq1 hq2 hq3 hq4
  have hcs := two_cells W2 (.cells #[.slice AX (dg B32 (a)).length cX] 26) (.cells #[.slice AY (dg B32 (b)).length cY] 26)
  have HB := Lib.hid (HB.out.trans ((hcs.2.2.1).mono HB.out.size))
  have HS := Lib.hid (HS.out.below (hcs.2.2.1) (Nat.le_refl _))
  have HT := Lib.hid (HT.out.below (hcs.2.2.1) (Nat.le_refl _))
  have NX := Lib.hid (NX.out.below (hcs.2.2.1) (Nat.le_refl _))
  have NY := Lib.hid (NY.out.below (hcs.2.2.1) (Nat.le_refl _))
  have CX := Lib.hid hcs.1
  have CY := Lib.hid hcs.2.1
  clear hcs
  obtain ⟨fCX, _⟩ := cell_facts CX.out
  obtain ⟨fCY, _⟩ := cell_facts CY.out
  go_wp2_with fail
  clear fCX fCY
  generalize (W2.alloc (.cells #[.slice AX (dg B32 (a)).length cX] 26)).alloc (.cells #[.slice AY (dg B32 (b)).length cY] 26) = W1x at *
  generalize W2.heap.size = rX at *
  refine (rof_any l A c _ HS.out HX.out (by omega)).mono ?_
  rintro e W3 ⟨v3, rfl, hn, hb⟩
  have HB := Lib.hid (HB.out.trans (hb.mono HB.out.size))
  have HS := Lib.hid (HS.out.below hb (Nat.le_refl _))
  have HT := Lib.hid (HT.out.below hb (Nat.le_refl _))
  have NX := Lib.hid (NX.out.below hb (Nat.le_refl _))
  have NY := Lib.hid (NY.out.below hb (Nat.le_refl _))
  have CX := Lib.hid (blk_below hb (blk_lt CX.out) CX.out)
  have CY := Lib.hid (blk_below hb (blk_lt CY.out) CY.out)
  rw [HA.out] at hn
  have D1 := Lib.hid hn
  obtain ⟨fCX, _⟩ := cell_facts CX.out
  obtain ⟨fCY, _⟩ := cell_facts CY.out
  go_wp2_with fail
  clear fCX fCY
  refine (rof_any l2 A2 c2 _ HT.out HX2.out (by omega)).mono ?_
  rintro e W4 ⟨v4, rfl, hn, hb⟩
  have HB := Lib.hid (HB.out.trans (hb.mono HB.out.size))
  have HS := Lib.hid (HS.out.below hb (Nat.le_refl _))
  have HT := Lib.hid (HT.out.below hb (Nat.le_refl _))
  have NX := Lib.hid (NX.out.below hb (Nat.le_refl _))
  have NY := Lib.hid (NY.out.below hb (Nat.le_refl _))
  have CX := Lib.hid (blk_below hb (blk_lt CX.out) CX.out)
  have CY := Lib.hid (blk_below hb (blk_lt CY.out) CY.out)
  have D1 := Lib.hid (D1.out.below hb (Nat.le_refl _))
  rw [HA2.out] at hn
  have D2 := Lib.hid hn
  obtain ⟨fCX, _⟩ := cell_facts CX.out
  obtain ⟨fCY, _⟩ := cell_facts CY.out
  go_wp2_with fail
  clear fCX fCY
  refine (rcompare_any v3 v4 a b _ D1.out D2.out (by have := HL.out; omega) (by have := HL.out; omega)).mono ?_
  rintro e W5 ⟨rfl, m5, rfl⟩
  have hbd : Below W4.heap.size W4 (W4.drewN m5) := below_drewN (Below.refl _ _) m5
  have HB := Lib.hid (HB.out.trans (hbd.mono HB.out.size))
  have HS := Lib.hid (HS.out.below hbd (Nat.le_refl _))
  have HT := Lib.hid (HT.out.below hbd (Nat.le_refl _))
  have NX := Lib.hid (NX.out.below hbd (Nat.le_refl _))
  have NY := Lib.hid (NY.out.below hbd (Nat.le_refl _))
  have CX := Lib.hid (blk_below hbd (blk_lt CX.out) CX.out)
  have CY := Lib.hid (blk_below hbd (blk_lt CY.out) CY.out)
  clear hbd
  generalize W4.drewN m5 = W5 at *
  obtain ⟨z, hz⟩ : ∃ z, cmpN a b = z := ⟨_, rfl⟩
  have HZ := Lib.hid hz
  rw [hz]
  clear hz
  obtain ⟨fCX, _⟩ := cell_facts CX.out
  obtain ⟨fCY, _⟩ := cell_facts CY.out
  go_wp2_with fail
  clear fCX fCY
  refine (sub_any _ _ a b _ NX.out NY.out (by have := HL.out; omega) (by have := HL.out; omega)).mono ?_
  rintro e W6 ⟨v6, rfl, hn, hb⟩
  have HB := Lib.hid (HB.out.trans (hb.mono HB.out.size))
  have HS := Lib.hid (HS.out.below hb (Nat.le_refl _))
  have HT := Lib.hid (HT.out.below hb (Nat.le_refl _))
  have NX := Lib.hid (NX.out.below hb (Nat.le_refl _))
  have NY := Lib.hid (NY.out.below hb (Nat.le_refl _))
  have CX := Lib.hid (blk_below hb (blk_lt CX.out) CX.out)
  have CY := Lib.hid (blk_below hb (blk_lt CY.out) CY.out)
  have hd6 := dg_len_mono (b := B32) (by decide) (Nat.sub_le a b)
  have HD6 := Lib.hid hd6
  clear hd6
  obtain ⟨d, hd⟩ : ∃ d, a - b = d := ⟨_, rfl⟩
  rw [hd] at hn HD6
  have HDE := Lib.hid hd
  clear hd
  obtain ⟨ok, hok⟩ : ∃ ok, decide (b ≤ a) = ok := ⟨_, rfl⟩
  rw [hok]
  have HOK := Lib.hid hok
  clear hok
  obtain ⟨ACD, cCD, rfl, hq1, hq2⟩ := hn
  have hb := (Below.refl W6.heap.size W6).alloc (Nat.le_refl _) (.cells #[.slice ACD (dg B32 (d)).length cCD] 26)
  have ND := Lib.hid (NatIs.below ⟨ACD, cCD, rfl, hq1, hq2⟩ hb (Nat.le_refl _))
  have HB := Lib.hid (HB.out.trans (hb.mono HB.out.size))
  have HS := Lib.hid (HS.out.below hb (Nat.le_refl _))
  have HT := Lib.hid (HT.out.below hb (Nat.le_refl _))
  have NX := Lib.hid (NX.out.below hb (Nat.le_refl _))
  have NY := Lib.hid (NY.out.below hb (Nat.le_refl _))
  have CX := Lib.hid (blk_below hb (blk_lt CX.out) CX.out)
  have CY := Lib.hid (blk_below hb (blk_lt CY.out) CY.out)
  have CD := Lib.hid (blk_new W6 (.cells #[.slice ACD (dg B32 (d)).length cCD] 26))
  clear hq1 hq2 hb
  obtain ⟨fCX, _⟩ := cell_facts CX.out
  obtain ⟨fCY, _⟩ := cell_facts CY.out
  obtain ⟨fCD, _⟩ := cell_facts CD.out
  go_wp2_with fail
  clear fCX fCY fCD
  generalize W6.alloc (.cells #[.slice ACD (dg B32 (d)).length cCD] 26) = W2x at *
  generalize W6.heap.size = rCD at *
  refine (compare_any _ _ a b _ NX.out NY.out (by have := HL.out; omega) (by have := HL.out; omega)).mono ?_
  rintro e W7 ⟨rfl, hb⟩
  have HB := Lib.hid (HB.out.trans (hb.mono HB.out.size))
  have HS := Lib.hid (HS.out.below hb (Nat.le_refl _))
  have HT := Lib.hid (HT.out.below hb (Nat.le_refl _))
  have NX := Lib.hid (NX.out.below hb (Nat.le_refl _))
  have NY := Lib.hid (NY.out.below hb (Nat.le_refl _))
  have CX := Lib.hid (blk_below hb (blk_lt CX.out) CX.out)
  have CY := Lib.hid (blk_below hb (blk_lt CY.out) CY.out)
  have ND := Lib.hid (ND.out.below hb (Nat.le_refl _))
  have CD := Lib.hid (blk_below hb (blk_lt CD.out) CD.out)
  rw [HZ.out]
  clear hb
  obtain ⟨fCX, _⟩ := cell_facts CX.out
  obtain ⟨fCY, _⟩ := cell_facts CY.out
  obtain ⟨fCD, _⟩ := cell_facts CD.out
  go_wp2_with fail
  clear fCX fCY fCD
  refine (compare_any _ _ b a _ NY.out NX.out (by have := HL.out; omega) (by have := HL.out; omega)).mono ?_
  rintro e W8 ⟨rfl, hb⟩
  have HB := Lib.hid (HB.out.trans (hb.mono HB.out.size))
  have HS := Lib.hid (HS.out.below hb (Nat.le_refl _))
  have HT := Lib.hid (HT.out.below hb (Nat.le_refl _))
  have NX := Lib.hid (NX.out.below hb (Nat.le_refl _))
  have NY := Lib.hid (NY.out.below hb (Nat.le_refl _))
  have CX := Lib.hid (blk_below hb (blk_lt CX.out) CX.out)
  have CY := Lib.hid (blk_below hb (blk_lt CY.out) CY.out)
  have ND := Lib.hid (ND.out.below hb (Nat.le_refl _))
  have CD := Lib.hid (blk_below hb (blk_lt CD.out) CD.out)
  rw [cmpN_neg a b, HZ.out]
  clear hb
  have hzr : -1 ≤ z ∧ z ≤ 1 := by have h := HZ.out; unfold cmpN at h; split at h <;> (try split at h) <;> omega
  obtain ⟨hz1, hz2⟩ := hzr
  have wz : IntKind.i64.wrap (-z) = -z := IntWalk.i64_in _ (by omega)
  by_cases hab : b ≤ a
  · have hge : 0 ≤ z := by rw [← HZ.out]; exact (cmpN_ge a b).2 hab
    have hok : ok = true := by rw [← HOK.out]; exact decide_eq_true hab
    subst hok
    have hsum : d + b = a := by have := HDE.out; omega
    have HSUM := Lib.hid hsum
    clear hsum
    obtain ⟨fCX, _⟩ := cell_facts CX.out
    obtain ⟨fCY, _⟩ := cell_facts CY.out
    obtain ⟨fCD, _⟩ := cell_facts CD.out
    go_wp2_with fail
    clear fCX fCY fCD
    refine (limbs_any _ d _ ND.out (by have := HL.out; have := HD6.out; omega)).mono ?_
    rintro e W9 ⟨AL, cL, rfl, hcL, hn, hb⟩
    have HB := Lib.hid (HB.out.trans (hb.mono HB.out.size))
    have HS := Lib.hid (HS.out.below hb (Nat.le_refl _))
    have HT := Lib.hid (HT.out.below hb (Nat.le_refl _))
    have NX := Lib.hid (NX.out.below hb (Nat.le_refl _))
    have NY := Lib.hid (NY.out.below hb (Nat.le_refl _))
    have CX := Lib.hid (blk_below hb (blk_lt CX.out) CX.out)
    have CY := Lib.hid (blk_below hb (blk_lt CY.out) CY.out)
    have ND := Lib.hid (ND.out.below hb (Nat.le_refl _))
    have CD := Lib.hid (blk_below hb (blk_lt CD.out) CD.out)
    have HLS := Lib.hid hn
    clear hn hb
    obtain ⟨fCX, _⟩ := cell_facts CX.out
    obtain ⟨fCY, _⟩ := cell_facts CY.out
    obtain ⟨fCD, _⟩ := cell_facts CD.out
    go_wp2_with fail
    clear fCX fCY fCD
    refine (rof_any (dg B32 d) AL cL _ HLS.out (dg_lt (by decide) d) (by have := HL.out; have := HD6.out; omega)).mono ?_
    rintro e W10 ⟨v7, rfl, hn, hb⟩
    have HB := Lib.hid (HB.out.trans (hb.mono HB.out.size))
    have HS := Lib.hid (HS.out.below hb (Nat.le_refl _))
    have HT := Lib.hid (HT.out.below hb (Nat.le_refl _))
    have NX := Lib.hid (NX.out.below hb (Nat.le_refl _))
    have NY := Lib.hid (NY.out.below hb (Nat.le_refl _))
    have CX := Lib.hid (blk_below hb (blk_lt CX.out) CX.out)
    have CY := Lib.hid (blk_below hb (blk_lt CY.out) CY.out)
    have ND := Lib.hid (ND.out.below hb (Nat.le_refl _))
    have CD := Lib.hid (blk_below hb (blk_lt CD.out) CD.out)
    have HLS := Lib.hid (HLS.out.below hb (Nat.le_refl _))
    rw [vl_dg (by decide)] at hn
    have E1 := Lib.hid hn
    clear hn hb
    obtain ⟨fCX, _⟩ := cell_facts CX.out
    obtain ⟨fCY, _⟩ := cell_facts CY.out
    obtain ⟨fCD, _⟩ := cell_facts CD.out
    go_wp2_with fail
    clear fCX fCY fCD
    refine (rof_any l2 A2 c2 _ HT.out HX2.out (by omega)).mono ?_
    rintro e W11 ⟨v8, rfl, hn, hb⟩
    have HB := Lib.hid (HB.out.trans (hb.mono HB.out.size))
    have HS := Lib.hid (HS.out.below hb (Nat.le_refl _))
    have HT := Lib.hid (HT.out.below hb (Nat.le_refl _))
    have NX := Lib.hid (NX.out.below hb (Nat.le_refl _))
    have NY := Lib.hid (NY.out.below hb (Nat.le_refl _))
    have CX := Lib.hid (blk_below hb (blk_lt CX.out) CX.out)
    have CY := Lib.hid (blk_below hb (blk_lt CY.out) CY.out)
    have ND := Lib.hid (ND.out.below hb (Nat.le_refl _))
    have CD := Lib.hid (blk_below hb (blk_lt CD.out) CD.out)
    have HLS := Lib.hid (HLS.out.below hb (Nat.le_refl _))
    have E1 := Lib.hid (E1.out.below hb (Nat.le_refl _))
    rw [HA2.out] at hn
    have E2 := Lib.hid hn
    clear hn hb
    obtain ⟨fCX, _⟩ := cell_facts CX.out
    obtain ⟨fCY, _⟩ := cell_facts CY.out
    obtain ⟨fCD, _⟩ := cell_facts CD.out
    go_wp2_with fail
    clear fCX fCY fCD
    refine (radd_any v7 v8 d b _ E1.out E2.out (Nat.le_trans (dg_len_mono (by decide) (show d ≤ a by have := HSUM.out; omega)) (by have := HL.out; omega)) (by have := HL.out; omega)).mono ?_
    rintro e W12 ⟨v9, rfl, hn, hb⟩
    have HB := Lib.hid (HB.out.trans (hb.mono HB.out.size))
    have HS := Lib.hid (HS.out.below hb (Nat.le_refl _))
    have HT := Lib.hid (HT.out.below hb (Nat.le_refl _))
    have NX := Lib.hid (NX.out.below hb (Nat.le_refl _))
    have NY := Lib.hid (NY.out.below hb (Nat.le_refl _))
    have CX := Lib.hid (blk_below hb (blk_lt CX.out) CX.out)
    have CY := Lib.hid (blk_below hb (blk_lt CY.out) CY.out)
    have ND := Lib.hid (ND.out.below hb (Nat.le_refl _))
    have CD := Lib.hid (blk_below hb (blk_lt CD.out) CD.out)
    have HLS := Lib.hid (HLS.out.below hb (Nat.le_refl _))
    have E1 := Lib.hid (E1.out.below hb (Nat.le_refl _))
    have E2 := Lib.hid (E2.out.below hb (Nat.le_refl _))
    rw [HSUM.out] at hn
    have E3 := Lib.hid hn
    clear hn hb
    obtain ⟨fCX, _⟩ := cell_facts CX.out
    obtain ⟨fCY, _⟩ := cell_facts CY.out
    obtain ⟨fCD, _⟩ := cell_facts CD.out
    go_wp2_with fail
    clear fCX fCY fCD
    refine (print_any v9 a _ E3.out (by have := HL.out; omega)).mono ?_
    rintro e W13 ⟨rfl, hb⟩
    have HB := Lib.hid (HB.out.trans (hb.mono HB.out.size))
    have HS := Lib.hid (HS.out.below hb (Nat.le_refl _))
    have HT := Lib.hid (HT.out.below hb (Nat.le_refl _))
    have NX := Lib.hid (NX.out.below hb (Nat.le_refl _))
    have NY := Lib.hid (NY.out.below hb (Nat.le_refl _))
    have CX := Lib.hid (blk_below hb (blk_lt CX.out) CX.out)
    have CY := Lib.hid (blk_below hb (blk_lt CY.out) CY.out)
    have ND := Lib.hid (ND.out.below hb (Nat.le_refl _))
    have CD := Lib.hid (blk_below hb (blk_lt CD.out) CD.out)
    have HLS := Lib.hid (HLS.out.below hb (Nat.le_refl _))
    have E3 := Lib.hid (E3.out.below hb (Nat.le_refl _))
    clear hb
    obtain ⟨fCX, _⟩ := cell_facts CX.out
    obtain ⟨fCY, _⟩ := cell_facts CY.out
    obtain ⟨fCD, _⟩ := cell_facts CD.out
    go_wp2_with fail
    clear fCX fCY fCD
    refine (rof_any l A c _ HS.out HX.out (by omega)).mono ?_
    rintro e W14 ⟨v10, rfl, hn, hb⟩
    have HB := Lib.hid (HB.out.trans (hb.mono HB.out.size))
    have HS := Lib.hid (HS.out.below hb (Nat.le_refl _))
    have HT := Lib.hid (HT.out.below hb (Nat.le_refl _))
    have NX := Lib.hid (NX.out.below hb (Nat.le_refl _))
    have NY := Lib.hid (NY.out.below hb (Nat.le_refl _))
    have CX := Lib.hid (blk_below hb (blk_lt CX.out) CX.out)
    have CY := Lib.hid (blk_below hb (blk_lt CY.out) CY.out)
    have ND := Lib.hid (ND.out.below hb (Nat.le_refl _))
    have CD := Lib.hid (blk_below hb (blk_lt CD.out) CD.out)
    have HLS := Lib.hid (HLS.out.below hb (Nat.le_refl _))
    rw [HA.out] at hn
    have E4 := Lib.hid hn
    clear hn hb
    obtain ⟨fCX, _⟩ := cell_facts CX.out
    obtain ⟨fCY, _⟩ := cell_facts CY.out
    obtain ⟨fCD, _⟩ := cell_facts CD.out
    go_wp2_with fail
    clear fCX fCY fCD
    refine (print_any v10 a _ E4.out (by have := HL.out; omega)).mono ?_
    rintro e W15 ⟨rfl, hb⟩
    have HB := Lib.hid (HB.out.trans (hb.mono HB.out.size))
    have HS := Lib.hid (HS.out.below hb (Nat.le_refl _))
    have HT := Lib.hid (HT.out.below hb (Nat.le_refl _))
    have NX := Lib.hid (NX.out.below hb (Nat.le_refl _))
    have NY := Lib.hid (NY.out.below hb (Nat.le_refl _))
    have CX := Lib.hid (blk_below hb (blk_lt CX.out) CX.out)
    have CY := Lib.hid (blk_below hb (blk_lt CY.out) CY.out)
    have ND := Lib.hid (ND.out.below hb (Nat.le_refl _))
    have CD := Lib.hid (blk_below hb (blk_lt CD.out) CD.out)
    have HLS := Lib.hid (HLS.out.below hb (Nat.le_refl _))
    have E4 := Lib.hid (E4.out.below hb (Nat.le_refl _))
    clear hb
    generalize decS a = t0 at *
    obtain ⟨fCX, _⟩ := cell_facts CX.out
    obtain ⟨fCY, _⟩ := cell_facts CY.out
    obtain ⟨fCD, _⟩ := cell_facts CD.out
    go_wp2_with fail
    clear fCX fCY fCD
    refine (awake_any _).mono ?_
    rintro e W16 ⟨rfl, hb⟩
    have HB := Lib.hid (HB.out.trans (hb.mono HB.out.size))
    have HS := Lib.hid (HS.out.below hb (Nat.le_refl _))
    have HT := Lib.hid (HT.out.below hb (Nat.le_refl _))
    have NX := Lib.hid (NX.out.below hb (Nat.le_refl _))
    have NY := Lib.hid (NY.out.below hb (Nat.le_refl _))
    have CX := Lib.hid (blk_below hb (blk_lt CX.out) CX.out)
    have CY := Lib.hid (blk_below hb (blk_lt CY.out) CY.out)
    have ND := Lib.hid (ND.out.below hb (Nat.le_refl _))
    have CD := Lib.hid (blk_below hb (blk_lt CD.out) CD.out)
    have HLS := Lib.hid (HLS.out.below hb (Nat.le_refl _))
    clear hb
    obtain ⟨fCX, _⟩ := cell_facts CX.out
    obtain ⟨fCY, _⟩ := cell_facts CY.out
    obtain ⟨fCD, _⟩ := cell_facts CD.out
    go_wp2_with fail
    clear fCX fCY fCD
    go_ret
    exact ⟨by simp, HB.out⟩
  · have hge : ¬ 0 ≤ z := by rw [← HZ.out]; exact fun h => hab ((cmpN_ge a b).1 h)
    have hok : ok = false := by rw [← HOK.out]; exact decide_eq_false hab
    subst hok
    obtain ⟨fCX, _⟩ := cell_facts CX.out
    obtain ⟨fCY, _⟩ := cell_facts CY.out
    obtain ⟨fCD, _⟩ := cell_facts CD.out
    go_wp2_with fail
    clear fCX fCY fCD
    refine (zero_any _ d _ ND.out).mono ?_
    rintro e W9 ⟨rfl, hb⟩
    have HB := Lib.hid (HB.out.trans (hb.mono HB.out.size))
    have HS := Lib.hid (HS.out.below hb (Nat.le_refl _))
    have HT := Lib.hid (HT.out.below hb (Nat.le_refl _))
    have NX := Lib.hid (NX.out.below hb (Nat.le_refl _))
    have NY := Lib.hid (NY.out.below hb (Nat.le_refl _))
    have CX := Lib.hid (blk_below hb (blk_lt CX.out) CX.out)
    have CY := Lib.hid (blk_below hb (blk_lt CY.out) CY.out)
    have ND := Lib.hid (ND.out.below hb (Nat.le_refl _))
    have CD := Lib.hid (blk_below hb (blk_lt CD.out) CD.out)
    rw [show decide (d = 0) = true from decide_eq_true (by have := HDE.out; omega)]
    clear hb
    obtain ⟨fCX, _⟩ := cell_facts CX.out
    obtain ⟨fCY, _⟩ := cell_facts CY.out
    obtain ⟨fCD, _⟩ := cell_facts CD.out
    go_wp2_with fail
    clear fCX fCY fCD
    refine (awake_any _).mono ?_
    rintro e W10 ⟨rfl, hb⟩
    have HB := Lib.hid (HB.out.trans (hb.mono HB.out.size))
    have HS := Lib.hid (HS.out.below hb (Nat.le_refl _))
    have HT := Lib.hid (HT.out.below hb (Nat.le_refl _))
    have NX := Lib.hid (NX.out.below hb (Nat.le_refl _))
    have NY := Lib.hid (NY.out.below hb (Nat.le_refl _))
    have CX := Lib.hid (blk_below hb (blk_lt CX.out) CX.out)
    have CY := Lib.hid (blk_below hb (blk_lt CY.out) CY.out)
    have ND := Lib.hid (ND.out.below hb (Nat.le_refl _))
    have CD := Lib.hid (blk_below hb (blk_lt CD.out) CD.out)
    clear hb
    obtain ⟨fCX, _⟩ := cell_facts CX.out
    obtain ⟨fCY, _⟩ := cell_facts CY.out
    obtain ⟨fCD, _⟩ := cell_facts CD.out
    go_wp2_with fail
    clear fCX fCY fCD
    go_ret
    exact ⟨by simp, HB.out⟩

theorem compares_law (x0 : List Int) (A0 : Option Addr) (c0 : Nat) (x1 : List Int) (A1 : Option Addr) (c1 : Nat) (w : World)
    (_ : x0.length ≤ c0) (_ : c0 ≤ maxLen) (h0 : ∀ y ∈ x0, (Lit.int .u32 y).wf = true) (s0 : Sl1 w A0 (Value.int .u32) x0) (_ : x1.length ≤ c1) (_ : c1 ≤ maxLen) (h1 : ∀ y ∈ x1, (Lit.int .u32 y).wf = true) (s1 : Sl1 w A1 (Value.int .u32) x1) :
    Calls Try.prog 3 #[.slice A0 x0.length c0, .slice A1 x1.length c1] w (RetTrue w) := by
  obtain ⟨p0, q0⟩ := sl_u32 s0 h0
  obtain ⟨p1, q1⟩ := sl_u32 s1 h1
  have e0 : x0.length = (x0.map Int.toNat).length := by simp
  have e1 : x1.length = (x1.map Int.toNat).length := by simp
  rw [e0, e1]
  by_cases h : (x0.map Int.toNat).length ≤ 20 ∧ (x1.map Int.toNat).length ≤ 20
  · exact compares_small _ _ A0 A1 c0 c1 w p0 p1 q0 q1 h.1 h.2
  · exact compares_big _ _ A0 A1 c0 c1 w h
end Go.Proofs.Ytnfehhblmoliaaa
