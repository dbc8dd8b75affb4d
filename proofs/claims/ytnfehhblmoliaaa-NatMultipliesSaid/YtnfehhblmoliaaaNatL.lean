/- Layer 1 (nat): few, awake. -/
import Derived.Test.YtnfehhblmoliaaaNatK
namespace Go.Proofs.Ytnfehhblmoliaaa
open Go.RowKit Go.Maps Go.WideMaps
set_option maxRecDepth 100000
set_option linter.unusedVariables false
set_option linter.unusedSimpArgs false

theorem few_any (ns : List Nat) (A : Option Addr) (c : Nat) (w : World) (b : Bool) (hb : b = ns.all (fun n => decide (n ≤ 20))) (h : ∀ i n, ns[i]? = some n → ∃ g o A' c', A = some ⟨g, o, none⟩ ∧ w.cell? ⟨g, o + i, none⟩ = some (.slice A' n c')) (hlen : ns.length ≤ 1000) :
    Calls Try.prog 10 #[.slice A ns.length c] w fun e w' => e = .returned (.bool b) ∧ w' = w := by
  have HB := Lib.hid hb
  have HC := Lib.hid h
  clear hb h
  go_enter Try.func10, Try.ntmps10
  go_wp2_with fail
  go_loopg [3] ns.length (fun m v W => ∃ k : Nat, k + m = ns.length ∧ v = .int .i64 (k : Int) ∧ (∀ n ∈ ns.take k, n ≤ 20) ∧ W = w)
  case atStart => exact ⟨0, by omega, rfl, by simp, rfl⟩
  case round =>
    obtain ⟨k, hk, rfl, hal, rfl⟩ := hrel
    rename World => W
    have HAL := Lib.hid hal
    clear hal
    by_cases hlt : k < ns.length
    · have hlt' : (k : Int) < (ns.length : Int) := by omega
      have k0 : (0 : Int) ≤ (k : Int) := by omega
      obtain ⟨g, o, A', c', rfl, hc⟩ := HC.out k ns[k] (by simp [hlt])
      have HMEM : Hid (ns[k] ∈ ns) := Lib.hid (List.getElem_mem _)
      have HTK := Lib.hid (take_snoc hlt)
      generalize ns[k] = n at *
      by_cases hn : n ≤ 20
      · have hn' : ¬ (20 : Int) < (n : Int) := by omega
        have wk : IntKind.i64.wrap ((k : Int) + 1) = (k : Int) + 1 := IntWalk.i64_in _ (by omega)
        have HAL2 : Hid (∀ m ∈ ns.take (k + 1), m ≤ 20) := Lib.hid (by
          rw [HTK.out]
          intro m hm
          rcases List.mem_append.1 hm with hm | hm
          · exact HAL.out m hm
          · simp at hm; subst hm; exact hn)
        go_wp2_with fail
        go_roundg (gk - 1)
        case measure => omega
        case rel => exact ⟨k + 1, by omega, by simp, HAL2.out, rfl⟩
      · have hn' : (20 : Int) < (n : Int) := by omega
        have HBF : Hid (b = false) := Lib.hid (by
          rw [HB.out]
          cases ha : ns.all (fun n => decide (n ≤ 20)) with
          | false => rfl
          | true => exact absurd (by simpa using List.all_eq_true.1 ha n HMEM.out) hn)
        go_wp2_with fail
        go_ret
        exact ⟨by rw [HBF.out]; rfl, rfl⟩
    · have hlt' : ¬ (k : Int) < (ns.length : Int) := by omega
      have HBT : Hid (b = true) := Lib.hid (by
        rw [HB.out]
        refine List.all_eq_true.2 (fun n hn => ?_)
        have := HAL.out n (by rw [List.take_of_length_le (by omega)]; exact hn)
        simpa using this)
      go_wp2_with fail
      go_ret
      exact ⟨by rw [HBT.out]; rfl, rfl⟩

theorem dg_of (l : List Nat) (h : ∀ x ∈ l, x < 10) (h2 : l ≠ [] ∧ atL l (l.length - 1) ≠ 0) : dg 10 (vl 10 l) = l := by
  have := trim_dg (b := 10) (by decide) l h l.length (Nat.le_refl _) (fun i hi => atL_ge hi) (Or.inr h2.2)
  rwa [List.take_length] at this
theorem dec_aw1 : decS 4294967296 = ⟨#[52, 50, 57, 52, 57, 54, 55, 50, 57, 54]⟩ := by
  have h := dg_of [6, 9, 2, 7, 6, 9, 4, 9, 2, 4] (by decide) (by decide)
  rw [show vl 10 [6, 9, 2, 7, 6, 9, 4, 9, 2, 4] = 4294967296 by decide] at h
  unfold decS decB
  rw [if_neg (by decide), h]
  rfl
theorem dec_aw2 : decS 42949672959 = ⟨#[52, 50, 57, 52, 57, 54, 55, 50, 57, 53, 57]⟩ := by
  have h := dg_of [9, 5, 9, 2, 7, 6, 9, 4, 9, 2, 4] (by decide) (by decide)
  rw [show vl 10 [9, 5, 9, 2, 7, 6, 9, 4, 9, 2, 4] = 42949672959 by decide] at h
  unfold decS decB
  rw [if_neg (by decide), h]
  rfl
theorem small_dg {n : Nat} (h : n < 18446744073709551616) : (dg B32 n).length ≤ 2 := dg_len_le (by decide) (show n < B32 ^ 2 from h)
theorem small_d10 {n : Nat} (h : n < 18446744073709551616) : (dg 10 n).length ≤ 20 := dg_len_le (by decide) (Nat.lt_trans h (by decide))

set_option maxHeartbeats 2000000 in
theorem awake_any (w : World) : Calls Try.prog 11 #[] w fun e w' => e = .returned (.bool true) ∧ Below w.heap.size w w' := by
  have hb0 := (Below.refl w.heap.size w).alloc (Nat.le_refl _) (.cells #[.int .u32 0, .int .u32 1] 50)
  have h1 : Sl1 (w.alloc (.cells #[.int .u32 0, .int .u32 1] 50)) (some ⟨w.heap.size, 0, none⟩) u32V [0, 1] := by
    intro i x hx
    have hcell := blk_cell (blk_new w (.cells #[.int .u32 0, .int .u32 1] 50)) i
    refine ⟨_, _, rfl, ?_⟩
    rw [Nat.zero_add, hcell]
    rcases i with _ | _ | i <;> simp at hx <;> subst hx <;> rfl
  have HB := Lib.hid hb0
  have HS := Lib.hid h1
  have HOF := Lib.hid (of_any [0, 1] (some ⟨w.heap.size, 0, none⟩) 2 _ h1 (by decide) (by decide))
  have e1 : vl B32 [0, 1] = 4294967296 := rfl
  rw [e1] at HOF
  clear hb0 h1 e1
  go_enter Try.func11, Try.ntmps11
  go_wp2_with fail
  refine HOF.out.mono ?_
  rintro e W ⟨v, rfl, hn, hb⟩
  have HB := Lib.hid (HB.out.trans (hb.mono HB.out.size))
  obtain ⟨A, c, rfl, hn1, hn2⟩ := hn
  have hb := (Below.refl W.heap.size W).alloc (Nat.le_refl _) (.cells #[.slice A (dg B32 4294967296).length c] 26)
  have HN := Lib.hid (NatIs.below ⟨A, c, rfl, hn1, hn2⟩ hb (Nat.le_refl _))
  have HB := Lib.hid (HB.out.trans (hb.mono HB.out.size))
  have HC := Lib.hid (blk_new W (.cells #[.slice A (dg B32 4294967296).length c] 26))
  obtain ⟨f0, _⟩ := cell_facts HC.out
  clear hn1 hn2 hb
  go_wp2_with fail
  generalize W.alloc (.cells #[.slice A (dg B32 4294967296).length c] 26) = W1 at *
  generalize W.heap.size = r1 at *
  refine (times_any _ 4294967296 10 W1 HN.out (by decide) (Nat.le_trans (small_dg (by decide)) (by decide))).mono ?_
  rintro e W2 ⟨v2, rfl, hn2, hb⟩
  have HN := Lib.hid (HN.out.below hb (Nat.le_refl _))
  have HB := Lib.hid (HB.out.trans (hb.mono HB.out.size))
  have HC := Lib.hid (blk_below hb (blk_lt HC.out) HC.out)
  have HT := Lib.hid hn2
  clear f0 hb hn2
  go_wp2_with fail
  refine (int_any 1 W2 (by decide)).mono ?_
  rintro e W3 ⟨v3, rfl, hn3, hb⟩
  have HN := Lib.hid (HN.out.below hb (Nat.le_refl _))
  have HT := Lib.hid (HT.out.below hb (Nat.le_refl _))
  have HB := Lib.hid (HB.out.trans (hb.mono HB.out.size))
  have HC := Lib.hid (blk_below hb (blk_lt HC.out) HC.out)
  have HO := Lib.hid hn3
  clear hb hn3
  go_wp2_with fail
  refine (sub_any v2 v3 (10 * 4294967296) 1 W3 HT.out HO.out (Nat.le_trans (small_dg (by decide)) (by decide)) (Nat.le_trans (small_dg (by decide)) (by decide))).mono ?_
  rintro e W4 ⟨v4, rfl, hn4, hb⟩
  have HN := Lib.hid (HN.out.below hb (Nat.le_refl _))
  have HB := Lib.hid (HB.out.trans (hb.mono HB.out.size))
  have HC := Lib.hid (blk_below hb (blk_lt HC.out) HC.out)
  rw [show 10 * 4294967296 - 1 = 42949672959 by decide] at hn4
  rw [show decide (1 ≤ 10 * 4294967296) = true by decide]
  obtain ⟨A4, c4, rfl, hn1, hn2⟩ := hn4
  have hb := (Below.refl W4.heap.size W4).alloc (Nat.le_refl _) (.cells #[.slice A4 (dg B32 42949672959).length c4] 26)
  have HD := Lib.hid (NatIs.below ⟨A4, c4, rfl, hn1, hn2⟩ hb (Nat.le_refl _))
  have HN := Lib.hid (HN.out.below hb (Nat.le_refl _))
  have HB := Lib.hid (HB.out.trans (hb.mono HB.out.size))
  have HC := Lib.hid (blk_below hb (blk_lt HC.out) HC.out)
  have HE := Lib.hid (blk_new W4 (.cells #[.slice A4 (dg B32 42949672959).length c4] 26))
  obtain ⟨f0, _⟩ := cell_facts HC.out
  obtain ⟨f1, _⟩ := cell_facts HE.out
  clear hn1 hn2 hb
  go_wp2_with fail
  generalize W4.alloc (.cells #[.slice A4 (dg B32 42949672959).length c4] 26) = W5 at *
  generalize W4.heap.size = r2 at *
  refine (string_any _ 4294967296 W5 HN.out (Nat.le_trans (small_dg (by decide)) (by decide)) (Nat.le_trans (small_d10 (by decide)) (by decide))).mono ?_
  rintro e W6 ⟨rfl, hb⟩
  have HD := Lib.hid (HD.out.below hb (Nat.le_refl _))
  have HB := Lib.hid (HB.out.trans (hb.mono HB.out.size))
  have HE := Lib.hid (blk_below hb (blk_lt HE.out) HE.out)
  clear f0 f1
  obtain ⟨f1, _⟩ := cell_facts HE.out
  rw [dec_aw1]
  clear hb
  go_wp2_with fail
  refine (string_any _ 42949672959 W6 HD.out (Nat.le_trans (small_dg (by decide)) (by decide)) (Nat.le_trans (small_d10 (by decide)) (by decide))).mono ?_
  rintro e W7 ⟨rfl, hb⟩
  have HB := Lib.hid (HB.out.trans (hb.mono HB.out.size))
  rw [dec_aw2]
  clear hb
  go_wp2_with fail
  go_ret
  exact ⟨rfl, HB.out⟩
end Go.Proofs.Ytnfehhblmoliaaa
