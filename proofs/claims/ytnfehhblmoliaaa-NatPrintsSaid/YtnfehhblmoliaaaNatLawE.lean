/- Layer 1 (nat): NatPrints. -/
import Derived.Test.YtnfehhblmoliaaaNatM
namespace Go.Proofs.Ytnfehhblmoliaaa
open Go.RowKit Go.Maps Go.WideMaps
set_option maxRecDepth 100000
set_option linter.unusedVariables false
set_option linter.unusedSimpArgs false

theorem prints_big (l : List Nat) (A : Option Addr) (c : Nat) (w : World) (hlen : ¬ l.length ≤ 20) :
    Calls Try.prog 8 #[.slice A l.length c] w (RetTrue w) := by
  have HF := Lib.hid (few_any [l.length] (some ⟨w.heap.size, 0, none⟩) 1 _ false (by simp [hlen]) (few_cells1 w A l.length c) (by simp))
  have HB := Lib.hid ((Below.refl w.heap.size w).alloc (Nat.le_refl _) (.cells #[.slice A l.length c] 22))
  go_enter Try.func8, Try.ntmps8
  go_wp2_with fail
  refine HF.out.mono ?_
  rintro e W1 ⟨rfl, rfl⟩
  go_wp2_with fail
  refine (awake_any _).mono ?_
  rintro e W2 ⟨rfl, hb⟩
  go_wp2_with fail
  go_ret
  exact ⟨rfl, HB.out.trans (hb.mono HB.out.size)⟩

/-- where the noughts at the end begin: only there -/
theorem dg_end (l : List Nat) (h : ∀ x ∈ l, x < B32) (k : Nat) (hk : k ≤ l.length) (h0 : ∀ i, k ≤ i → atL l i = 0) (h1 : k = 0 ∨ atL l (k - 1) ≠ 0) : (dg B32 (vl B32 l)).length = k := by
  rw [trim_dg (by decide) l h k hk h0 h1, List.length_take, Nat.min_eq_left hk]

set_option maxHeartbeats 16000000 in
theorem prints_small (l : List Nat) (A : Option Addr) (c : Nat) (w : World) (hS : Sl1 w A u32V l) (hx : ∀ x ∈ l, x < B32) (hlen : l.length ≤ 20) :
    Calls Try.prog 8 #[.slice A l.length c] w (RetTrue w) := by
  have HF := Lib.hid (few_any [l.length] (some ⟨w.heap.size, 0, none⟩) 1 _ true (by simp [hlen]) (few_cells1 w A l.length c) (by simp))
  have hb0 := (Below.refl w.heap.size w).alloc (Nat.le_refl _) (.cells #[.slice A l.length c] 22)
  have HB := Lib.hid hb0
  have HS := Lib.hid (hS.below hb0 (Nat.le_refl _))
  have HX := Lib.hid hx
  have HEND := Lib.hid (dg_end l hx)
  have HTK := Lib.hid (dg_take l hx)
  clear hS hb0
  obtain ⟨a, ha⟩ : ∃ a, vl B32 l = a := ⟨_, rfl⟩
  have HA := Lib.hid ha
  have HL := Lib.hid (show (dg B32 a).length ≤ 20 ∧ (dg 10 a).length ≤ 1000 from by
    rw [← ha]; exact ⟨dg32_le l hx 20 hlen, dec10_le l hx (by omega)⟩)
  rw [ha] at HEND HTK
  clear ha hx
  go_enter Try.func8, Try.ntmps8
  go_wp2_with fail
  refine HF.out.mono ?_
  rintro e W0 ⟨rfl, rfl⟩
  clear HF
  go_wp2_with fail
  refine (of_any l A c _ HS.out HX.out (by omega)).mono ?_
  rintro e W1 ⟨v1, rfl, hn, hb⟩
  replace HB := Lib.hid (HB.out.trans (hb.mono HB.out.size))
  replace HS := Lib.hid (HS.out.below hb (Nat.le_refl _))
  rw [HA.out] at hn
  obtain ⟨ACA, cCA, rfl, hq1, hq2⟩ := hn
  have hb := (Below.refl W1.heap.size W1).alloc (Nat.le_refl _) (.cells #[.slice ACA (dg B32 (a)).length cCA] 26)
  have NA := Lib.hid (NatIs.below ⟨ACA, cCA, rfl, hq1, hq2⟩ hb (Nat.le_refl _))
  replace HB := Lib.hid (HB.out.trans (hb.mono HB.out.size))
  replace HS := Lib.hid (HS.out.below hb (Nat.le_refl _))
  have CA := Lib.hid (blk_new W1 (.cells #[.slice ACA (dg B32 (a)).length cCA] 26))
  clear hq1 hq2 hb
  obtain ⟨fCA, _⟩ := cell_facts CA.out
  go_wp2_with fail
  clear fCA
  generalize W1.alloc (.cells #[.slice ACA (dg B32 (a)).length cCA] 26) = W1x at *
  generalize W1.heap.size = rCA at *
  refine (rof_any l A c _ HS.out HX.out (by omega)).mono ?_
  rintro e W2 ⟨v3, rfl, hn, hb⟩
  replace HB := Lib.hid (HB.out.trans (hb.mono HB.out.size))
  replace HS := Lib.hid (HS.out.below hb (Nat.le_refl _))
  replace NA := Lib.hid (NA.out.below hb (Nat.le_refl _))
  replace CA := Lib.hid (blk_below hb (blk_lt CA.out) CA.out)
  rw [HA.out] at hn
  have D1 := Lib.hid hn
  clear hb hn
  obtain ⟨fCA, _⟩ := cell_facts CA.out
  go_wp2_with fail
  clear fCA
  refine (print_any v3 a _ D1.out (by have := HL.out; omega)).mono ?_
  rintro e W3 ⟨rfl, hb⟩
  replace HB := Lib.hid (HB.out.trans (hb.mono HB.out.size))
  replace HS := Lib.hid (HS.out.below hb (Nat.le_refl _))
  replace NA := Lib.hid (NA.out.below hb (Nat.le_refl _))
  replace CA := Lib.hid (blk_below hb (blk_lt CA.out) CA.out)
  replace D1 := Lib.hid (D1.out.below hb (Nat.le_refl _))
  clear hb
  have HPD := Lib.hid (fun V => parse_dec a V (by have := HL.out; omega))
  have HST := Lib.hid (fun V (h : NatIs V (.agg #[.slice ACA (dg B32 a).length cCA]) a) => string_any _ a V h (by have := HL.out; omega) (by have := HL.out; omega))
  generalize decS a = t0 at *
  obtain ⟨fCA, _⟩ := cell_facts CA.out
  go_wp2_with fail
  clear fCA
  refine (HPD.out _).mono ?_
  rintro e W4 ⟨v4, rfl, hn, hb⟩
  replace HB := Lib.hid (HB.out.trans (hb.mono HB.out.size))
  replace HS := Lib.hid (HS.out.below hb (Nat.le_refl _))
  replace NA := Lib.hid (NA.out.below hb (Nat.le_refl _))
  replace CA := Lib.hid (blk_below hb (blk_lt CA.out) CA.out)
  obtain ⟨ACB, cCB, rfl, hq1, hq2⟩ := hn
  have hb := (Below.refl W4.heap.size W4).alloc (Nat.le_refl _) (.cells #[.slice ACB (dg B32 (a)).length cCB] 26)
  have NB := Lib.hid (NatIs.below ⟨ACB, cCB, rfl, hq1, hq2⟩ hb (Nat.le_refl _))
  replace HB := Lib.hid (HB.out.trans (hb.mono HB.out.size))
  replace HS := Lib.hid (HS.out.below hb (Nat.le_refl _))
  replace NA := Lib.hid (NA.out.below hb (Nat.le_refl _))
  replace CA := Lib.hid (blk_below hb (blk_lt CA.out) CA.out)
  have CB := Lib.hid (blk_new W4 (.cells #[.slice ACB (dg B32 (a)).length cCB] 26))
  clear hq1 hq2 hb
  obtain ⟨fCA, _⟩ := cell_facts CA.out
  obtain ⟨fCB, _⟩ := cell_facts CB.out
  go_wp2_with fail
  clear fCA fCB
  generalize W4.alloc (.cells #[.slice ACB (dg B32 (a)).length cCB] 26) = W2x at *
  generalize W4.heap.size = rCB at *
  go_loopg [7] l.length (fun m v V => ∃ k : Nat, k = m ∧ v = .int .i64 (k : Int) ∧ k ≤ l.length ∧ (∀ i, k ≤ i → atL l i = 0) ∧ V = W2x)
  case atStart => exact ⟨l.length, rfl, rfl, Nat.le_refl _, fun i hi => atL_ge hi, rfl⟩
  case round =>
    obtain ⟨k, rfl, rfl, hk, hz, rfl⟩ := hrel
    rename World => W9
    have HZ := Lib.hid hz
    clear hz
    have hcase : (0 < k ∧ atL l (k - 1) = 0) ∨ (k = 0 ∨ (0 < k ∧ atL l (k - 1) ≠ 0)) := by
      rcases Nat.eq_zero_or_pos k with h | h
      · exact Or.inr (Or.inl h)
      · by_cases h2 : atL l (k - 1) = 0
        · exact Or.inl ⟨h, h2⟩
        · exact Or.inr (Or.inr ⟨h, h2⟩)
    rcases hcase with ⟨hk0, hz0⟩ | hend
    · obtain ⟨j, rfl⟩ : ∃ j, k = j + 1 := ⟨k - 1, by omega⟩
      rw [Nat.add_sub_cancel] at hz0
      obtain ⟨b, o, rfl, hcell⟩ := HS.out.at j (by omega)
      have j0 : (0 : Int) ≤ (j : Int) := by omega
      have j1 : (j : Int) < (l.length : Int) := by omega
      have wk : IntKind.i64.wrap ((j : Int) + 1 - 1) = (j : Int) := by rw [IntWalk.i64_in _ (by omega)]; omega
      have hxz : l[j] = 0 := by rw [← atL_get (by omega)]; exact hz0
      rw [hxz] at hcell
      unfold u32V at hcell
      have HZ0 := Lib.hid hz0
      clear hxz hz0
      go_wp2_with fail
      go_roundg j
      case measure => omega
      case rel => exact ⟨j, rfl, rfl, by omega, fun i hi => by
        rcases Nat.eq_or_lt_of_le hi with e | e
        · rw [← e]; exact HZ0.out
        · exact HZ.out i (by omega), rfl⟩
    · have hlenk := HEND.out k hk HZ.out (hend.imp_right And.right)
      have HLK := Lib.hid hlenk
      have HTK2 := Lib.hid HTK.out
      rw [hlenk] at HTK2 NA CA NB CB HST ⊢
      clear hlenk
      rcases hend with rfl | ⟨hk0, hend⟩
      · obtain ⟨fCA, _⟩ := cell_facts CA.out
        obtain ⟨fCB, _⟩ := cell_facts CB.out
        go_wp2_with fail
        clear fCA fCB
        refine (limbs_any _ a _ (NA.out) (by have := HL.out; omega)).mono ?_
        rintro e W5 ⟨AM, cM, rfl, hcM, hn, hb⟩
        replace HB := Lib.hid (HB.out.trans (hb.mono HB.out.size))
        replace HS := Lib.hid (HS.out.below hb (Nat.le_refl _))
        replace NA := Lib.hid (NA.out.below hb (Nat.le_refl _))
        replace CA := Lib.hid (blk_below hb (blk_lt CA.out) CA.out)
        replace NB := Lib.hid (NB.out.below hb (Nat.le_refl _))
        replace CB := Lib.hid (blk_below hb (blk_lt CB.out) CB.out)
        rw [HTK2.out] at hn
        rw [HLK.out] at hcM ⊢
        have HM := Lib.hid hn
        clear hn hb
        obtain ⟨fCA, _⟩ := cell_facts CA.out
        obtain ⟨fCB, _⟩ := cell_facts CB.out
        go_wp2_with fail
        clear fCA fCB
        refine (HST.out _ NA.out).mono ?_
        rintro e W6 ⟨rfl, hb⟩
        replace HB := Lib.hid (HB.out.trans (hb.mono HB.out.size))
        replace HS := Lib.hid (HS.out.below hb (Nat.le_refl _))
        replace NA := Lib.hid (NA.out.below hb (Nat.le_refl _))
        replace CA := Lib.hid (blk_below hb (blk_lt CA.out) CA.out)
        replace NB := Lib.hid (NB.out.below hb (Nat.le_refl _))
        replace CB := Lib.hid (blk_below hb (blk_lt CB.out) CB.out)
        replace HM := Lib.hid (HM.out.below hb (Nat.le_refl _))
        clear hb
        obtain ⟨fCA, _⟩ := cell_facts CA.out
        obtain ⟨fCB, _⟩ := cell_facts CB.out
        go_wp2_with fail
        clear fCA fCB
        refine (compare_any _ _ a a _ NB.out NA.out (by have := HL.out; omega) (by have := HL.out; omega)).mono ?_
        rintro e W7 ⟨rfl, hb⟩
        replace HB := Lib.hid (HB.out.trans (hb.mono HB.out.size))
        replace HS := Lib.hid (HS.out.below hb (Nat.le_refl _))
        replace NA := Lib.hid (NA.out.below hb (Nat.le_refl _))
        replace CA := Lib.hid (blk_below hb (blk_lt CA.out) CA.out)
        replace NB := Lib.hid (NB.out.below hb (Nat.le_refl _))
        replace CB := Lib.hid (blk_below hb (blk_lt CB.out) CB.out)
        replace HM := Lib.hid (HM.out.below hb (Nat.le_refl _))
        rw [show cmpN a a = 0 by unfold cmpN; rw [if_neg (by omega), if_neg (by omega)]]
        clear hb
        have HZ2 : Hid (decide (a = 0) = decide (0 = 0)) := Lib.hid (by
          have h1 := dg_len_zero (b := B32) (n := a) (by decide)
          rw [HLK.out] at h1
          exact decide_eq_decide.2 h1.symm)
        obtain ⟨fCA, _⟩ := cell_facts CA.out
        obtain ⟨fCB, _⟩ := cell_facts CB.out
        go_wp2_with fail
        clear fCA fCB
        refine (zero_any _ a _ NA.out).mono ?_
        rintro e W8 ⟨rfl, hb⟩
        replace HB := Lib.hid (HB.out.trans (hb.mono HB.out.size))
        replace HS := Lib.hid (HS.out.below hb (Nat.le_refl _))
        replace NA := Lib.hid (NA.out.below hb (Nat.le_refl _))
        replace CA := Lib.hid (blk_below hb (blk_lt CA.out) CA.out)
        replace NB := Lib.hid (NB.out.below hb (Nat.le_refl _))
        replace CB := Lib.hid (blk_below hb (blk_lt CB.out) CB.out)
        replace HM := Lib.hid (HM.out.below hb (Nat.le_refl _))
        rw [HZ2.out]
        clear hb
        obtain ⟨fCA, _⟩ := cell_facts CA.out
        obtain ⟨fCB, _⟩ := cell_facts CB.out
        go_wp2_with fail
        clear fCA fCB
        clear HST HTK2 HTK HEND
        go_loopg [9] 0 (fun m v V => v = .int .i64 0 ∧ V = W8)
        case atStart => exact ⟨rfl, rfl⟩
        case round =>
          obtain ⟨rfl, rfl⟩ := hrel
          go_wp2_with fail
          refine (awake_any _).mono ?_
          rintro e W10 ⟨rfl, hb⟩
          replace HB := Lib.hid (HB.out.trans (hb.mono HB.out.size))
          clear hb
          go_wp2_with fail
          go_ret
          exact ⟨by simp, HB.out⟩
      · obtain ⟨j, rfl⟩ : ∃ j, k = j + 1 := ⟨k - 1, by omega⟩
        rw [Nat.add_sub_cancel] at hend
        obtain ⟨b, o, rfl, hcell⟩ := HS.out.at j (by omega)
        have j0 : (0 : Int) ≤ (j : Int) := by omega
        have j1 : (j : Int) < (l.length : Int) := by omega
        have wk : IntKind.i64.wrap ((j : Int) + 1 - 1) = (j : Int) := by rw [IntWalk.i64_in _ (by omega)]; omega
        have hxz : ¬ l[j] = 0 := by rw [← atL_get (by omega)]; exact hend
        generalize l[j] = x at *
        have hxz' : ¬ (x : Int) = 0 := by omega
        unfold u32V at hcell
        obtain ⟨fCA, _⟩ := cell_facts CA.out
        obtain ⟨fCB, _⟩ := cell_facts CB.out
        go_wp2_with fail
        clear fCA fCB
        refine (limbs_any _ a _ (NA.out) (by have := HL.out; omega)).mono ?_
        rintro e W5 ⟨AM, cM, rfl, hcM, hn, hb⟩
        replace HB := Lib.hid (HB.out.trans (hb.mono HB.out.size))
        replace HS := Lib.hid (HS.out.below hb (Nat.le_refl _))
        replace NA := Lib.hid (NA.out.below hb (Nat.le_refl _))
        replace CA := Lib.hid (blk_below hb (blk_lt CA.out) CA.out)
        replace NB := Lib.hid (NB.out.below hb (Nat.le_refl _))
        replace CB := Lib.hid (blk_below hb (blk_lt CB.out) CB.out)
        rw [HTK2.out] at hn
        rw [HLK.out] at hcM ⊢
        have HM := Lib.hid hn
        clear hn hb
        obtain ⟨fCA, _⟩ := cell_facts CA.out
        obtain ⟨fCB, _⟩ := cell_facts CB.out
        go_wp2_with fail
        clear fCA fCB
        refine (HST.out _ NA.out).mono ?_
        rintro e W6 ⟨rfl, hb⟩
        replace HB := Lib.hid (HB.out.trans (hb.mono HB.out.size))
        replace HS := Lib.hid (HS.out.below hb (Nat.le_refl _))
        replace NA := Lib.hid (NA.out.below hb (Nat.le_refl _))
        replace CA := Lib.hid (blk_below hb (blk_lt CA.out) CA.out)
        replace NB := Lib.hid (NB.out.below hb (Nat.le_refl _))
        replace CB := Lib.hid (blk_below hb (blk_lt CB.out) CB.out)
        replace HM := Lib.hid (HM.out.below hb (Nat.le_refl _))
        clear hb
        obtain ⟨fCA, _⟩ := cell_facts CA.out
        obtain ⟨fCB, _⟩ := cell_facts CB.out
        go_wp2_with fail
        clear fCA fCB
        refine (compare_any _ _ a a _ NB.out NA.out (by have := HL.out; omega) (by have := HL.out; omega)).mono ?_
        rintro e W7 ⟨rfl, hb⟩
        replace HB := Lib.hid (HB.out.trans (hb.mono HB.out.size))
        replace HS := Lib.hid (HS.out.below hb (Nat.le_refl _))
        replace NA := Lib.hid (NA.out.below hb (Nat.le_refl _))
        replace CA := Lib.hid (blk_below hb (blk_lt CA.out) CA.out)
        replace NB := Lib.hid (NB.out.below hb (Nat.le_refl _))
        replace CB := Lib.hid (blk_below hb (blk_lt CB.out) CB.out)
        replace HM := Lib.hid (HM.out.below hb (Nat.le_refl _))
        rw [show cmpN a a = 0 by unfold cmpN; rw [if_neg (by omega), if_neg (by omega)]]
        clear hb
        have HZ2 : Hid (decide (a = 0) = decide ((j + 1) = 0)) := Lib.hid (by
          have h1 := dg_len_zero (b := B32) (n := a) (by decide)
          rw [HLK.out] at h1
          exact decide_eq_decide.2 h1.symm)
        obtain ⟨fCA, _⟩ := cell_facts CA.out
        obtain ⟨fCB, _⟩ := cell_facts CB.out
        go_wp2_with fail
        clear fCA fCB
        refine (zero_any _ a _ NA.out).mono ?_
        rintro e W8 ⟨rfl, hb⟩
        replace HB := Lib.hid (HB.out.trans (hb.mono HB.out.size))
        replace HS := Lib.hid (HS.out.below hb (Nat.le_refl _))
        replace NA := Lib.hid (NA.out.below hb (Nat.le_refl _))
        replace CA := Lib.hid (blk_below hb (blk_lt CA.out) CA.out)
        replace NB := Lib.hid (NB.out.below hb (Nat.le_refl _))
        replace CB := Lib.hid (blk_below hb (blk_lt CB.out) CB.out)
        replace HM := Lib.hid (HM.out.below hb (Nat.le_refl _))
        rw [HZ2.out]
        clear hb
        obtain ⟨fCA, _⟩ := cell_facts CA.out
        obtain ⟨fCB, _⟩ := cell_facts CB.out
        go_wp2_with fail
        clear fCA fCB
        have HLM : Hid ((l.take (j + 1)).length = j + 1) := Lib.hid (by rw [List.length_take, Nat.min_eq_left hk])
        clear HST HTK2 HTK HEND hcell wk
        go_loopg [9] (j + 1) (fun m v V => ∃ (i d : Nat), i + m = j + 1 ∧ v = .int .i64 (i : Int) ∧ V = W8.drewN d)
        case atStart => exact ⟨0, 0, by omega, rfl, rfl⟩
        case round =>
          obtain ⟨i, d, hi, rfl, rfl⟩ := hrel
          by_cases hlt : i < j + 1
          · have hlt1 : (i : Int) < (j : Int) + 1 := by omega
            have i0 : (0 : Int) ≤ (i : Int) := by omega
            have i1 : (i : Int) < (l.length : Int) := by omega
            obtain ⟨bm, om, hAM, hm⟩ := HM.out.at i (by rw [HLM.out]; exact hlt)
            obtain ⟨bl, ol, hAl, hl⟩ := HS.out.at i (by omega)
            rw [List.getElem_take] at hm
            simp only [Option.some.injEq, Addr.mk.injEq, and_true] at hAl
            obtain ⟨rfl, rfl⟩ := hAl
            subst hAM
            generalize l[i] = xi at *
            unfold u32V at hm hl
            have HF := Lib.hid (show ∀ d, (W8.drewN d).cell? ⟨bm, om + i, none⟩ = some (.int .u32 (xi : Int)) ∧ (W8.drewN d).cell? ⟨b, o + i, none⟩ = some (.int .u32 (xi : Int)) from fun d => ⟨hm, hl⟩)
            clear hm hl
            have wk2 : IntKind.i64.wrap ((i : Int) + 1) = (i : Int) + 1 := IntWalk.i64_in _ (by omega)
            go_wp2_with fail
            refine wp_region_held_drew (S := fun V => V.cell? ⟨bm, om + i, none⟩ = some (.int .u32 (xi : Int)) ∧ V.cell? ⟨b, o + i, none⟩ = some (.int .u32 (xi : Int))) (by kernel_rfl) (by exact HF.out (d + 1)) (fun hHeld => ?_)
            refine wpAnyH_takeD (i := 0) (oi := { dst := some 73, op := Op.move (Operand.tmp 8), type := 22, pos := "law.go:43", after := #[], guard := none }) (d := 73) (v := ?_) rfl rfl (by kernel_rfl) (by kernel_rfl) (by kernel_rfl) (fun _ _ _ h => h) (Or.inl ⟨by rfl, ?_⟩) hHeld ?_
            rotate_left
            · (intro w' hSw; (try dsimp only at hSw); go_simp; (try with_reducible rfl))
            simp only [List.setIfInBounds_toArray, List.set_cons_zero, List.set_cons_succ]
            refine wpAnyH_takeD (i := 1) (oi := { dst := some 74, op := Op.move (Operand.tmp 9), type := 3, pos := "law.go:43", after := #[], guard := none }) (d := 74) (v := ?_) rfl rfl (by kernel_rfl) (by kernel_rfl) (by kernel_rfl) (fun _ _ _ h => h) (Or.inl ⟨by rfl, ?_⟩) hHeld ?_
            rotate_left
            · (intro w' hSw; (try dsimp only at hSw); go_simp; (try with_reducible rfl))
            simp only [List.setIfInBounds_toArray, List.set_cons_zero, List.set_cons_succ]
            refine wpAnyH_takeD (i := 2) (oi := { dst := some 75, op := Op.indexAddr 22 (Operand.tmp 73) (Operand.tmp 74), type := 0, pos := "law.go:43", after := #[{ on := 0, ground := Ground.data }, { on := 1, ground := Ground.data }], guard := none }) (d := 75) (v := ?_) rfl rfl (by kernel_rfl) (by kernel_rfl) (by kernel_rfl) (fun _ _ _ h => h) (Or.inl ⟨by rfl, ?_⟩) hHeld ?_
            rotate_left
            · (intro w' hSw; (try dsimp only at hSw); go_simp; (try with_reducible rfl))
            simp only [List.setIfInBounds_toArray, List.set_cons_zero, List.set_cons_succ]
            refine wpAnyH_takeD (i := 3) (oi := { dst := some 76, op := Op.load 50 (Operand.tmp 75), type := 50, pos := "law.go:43", after := #[{ on := 2, ground := Ground.data }], guard := none }) (d := 76) (v := ?_) rfl rfl (by kernel_rfl) (by kernel_rfl) (by kernel_rfl) (fun _ _ _ h => h) (Or.inl ⟨by rfl, ?_⟩) hHeld ?_
            rotate_left
            · (intro w' hSw; (try dsimp only at hSw); go_simp; (try with_reducible rfl))
            simp only [List.setIfInBounds_toArray, List.set_cons_zero, List.set_cons_succ]
            refine wpAnyH_takeD (i := 4) (oi := { dst := some 77, op := Op.move (Operand.tmp 0), type := 22, pos := "law.go:43", after := #[], guard := none }) (d := 77) (v := ?_) rfl rfl (by kernel_rfl) (by kernel_rfl) (by kernel_rfl) (fun _ _ _ h => h) (Or.inl ⟨by rfl, ?_⟩) hHeld ?_
            rotate_left
            · (intro w' hSw; (try dsimp only at hSw); go_simp; (try with_reducible rfl))
            simp only [List.setIfInBounds_toArray, List.set_cons_zero, List.set_cons_succ]
            refine wpAnyH_takeD (i := 5) (oi := { dst := some 78, op := Op.move (Operand.tmp 9), type := 3, pos := "law.go:43", after := #[], guard := none }) (d := 78) (v := ?_) rfl rfl (by kernel_rfl) (by kernel_rfl) (by kernel_rfl) (fun _ _ _ h => h) (Or.inl ⟨by rfl, ?_⟩) hHeld ?_
            rotate_left
            · (intro w' hSw; (try dsimp only at hSw); go_simp; (try with_reducible rfl))
            simp only [List.setIfInBounds_toArray, List.set_cons_zero, List.set_cons_succ]
            refine wpAnyH_takeD (i := 6) (oi := { dst := some 79, op := Op.indexAddr 22 (Operand.tmp 77) (Operand.tmp 78), type := 0, pos := "law.go:43", after := #[{ on := 4, ground := Ground.data }, { on := 5, ground := Ground.data }], guard := none }) (d := 79) (v := ?_) rfl rfl (by kernel_rfl) (by kernel_rfl) (by kernel_rfl) (fun _ _ _ h => h) (Or.inl ⟨by rfl, ?_⟩) hHeld ?_
            rotate_left
            · (intro w' hSw; (try dsimp only at hSw); go_simp; (try with_reducible rfl))
            simp only [List.setIfInBounds_toArray, List.set_cons_zero, List.set_cons_succ]
            refine wpAnyH_takeD (i := 7) (oi := { dst := some 80, op := Op.load 50 (Operand.tmp 79), type := 50, pos := "law.go:43", after := #[{ on := 6, ground := Ground.data }], guard := none }) (d := 80) (v := ?_) rfl rfl (by kernel_rfl) (by kernel_rfl) (by kernel_rfl) (fun _ _ _ h => h) (Or.inl ⟨by rfl, ?_⟩) hHeld ?_
            rotate_left
            · (intro w' hSw; (try dsimp only at hSw); go_simp; (try with_reducible rfl))
            simp only [List.setIfInBounds_toArray, List.set_cons_zero, List.set_cons_succ]
            refine wpAnyH_takeD (i := 8) (oi := { dst := some 81, op := Op.binOp BinOp.neq 50 (Operand.tmp 76) (Operand.tmp 80) 50, type := 4, pos := "law.go:43", after := #[{ on := 3, ground := Ground.data }, { on := 7, ground := Ground.data }], guard := none }) (d := 81) (v := ?_) rfl rfl (by kernel_rfl) (by kernel_rfl) (by kernel_rfl) (fun _ _ _ h => h) (Or.inl ⟨by rfl, ?_⟩) hHeld ?_
            rotate_left
            · (intro w' hSw; (try dsimp only at hSw); go_simp; (try with_reducible rfl))
            simp only [List.setIfInBounds_toArray, List.set_cons_zero, List.set_cons_succ]
            refine wpAnyH_done (by kernel_rfl) ?_ _
            go_wp2_with fail
            go_roundg (gk - 1)
            case measure => omega
            case rel => exact ⟨i + 1, d + 1, by omega, by simp, rfl⟩
          · have hlt1 : ¬ (i : Int) < (j : Int) + 1 := by omega
            go_wp2_with fail
            refine (awake_any _).mono ?_
            rintro e W10 ⟨rfl, hb⟩
            have hb0 : Below W8.heap.size W8 (W8.drewN d) := below_drewN (Below.refl _ _) d
            have hb1 := hb0.trans (hb.mono hb0.size)
            replace HB := Lib.hid (HB.out.trans (hb1.mono HB.out.size))
            clear hb hb0 hb1
            go_wp2_with fail
            go_ret
            exact ⟨by simp, HB.out⟩

theorem prints_law (x1 : List Int) (A1 : Option Addr) (c1 : Nat) (w : World) (_ : x1.length ≤ c1) (_ : c1 ≤ maxLen) (h1 : ∀ y ∈ x1, (Lit.int .u32 y).wf = true) (s1 : Sl1 w A1 (Value.int .u32) x1) :
    Calls Try.prog 8 #[.slice A1 x1.length c1] w (RetTrue w) := by
  obtain ⟨p1, q1⟩ := sl_u32 s1 h1
  have e1 : x1.length = (x1.map Int.toNat).length := by simp
  rw [e1]
  by_cases h : (x1.map Int.toNat).length ≤ 20
  · exact prints_small _ A1 c1 w p1 q1 h
  · exact prints_big _ A1 c1 w h
end Go.Proofs.Ytnfehhblmoliaaa
