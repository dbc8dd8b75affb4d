/- Layer 1 (nat): NatSmalls. -/
import Derived.Test.YtnfehhblmoliaaaNatM
namespace Go.Proofs.Ytnfehhblmoliaaa
open Go.RowKit Go.Maps Go.WideMaps
set_option maxRecDepth 100000
set_option linter.unusedVariables false
set_option linter.unusedSimpArgs false

theorem smalls_big (n : Nat) (l : List Nat) (A : Option Addr) (c : Nat) (w : World) (hlen : ¬ l.length ≤ 20) :
    Calls Try.prog 4 #[.int .u64 (n : Int), .slice A l.length c] w (RetTrue w) := by
  have HF := Lib.hid (few_any [l.length] (some ⟨w.heap.size, 0, none⟩) 1 _ false (by simp [hlen]) (few_cells1 w A l.length c) (by simp))
  have HB := Lib.hid ((Below.refl w.heap.size w).alloc (Nat.le_refl _) (.cells #[.slice A l.length c] 22))
  go_enter Try.func4, Try.ntmps4
  go_wp2_with fail
  refine HF.out.mono ?_
  rintro e W1 ⟨rfl, rfl⟩
  go_wp2_with fail
  refine (awake_any _).mono ?_
  rintro e W2 ⟨rfl, hb⟩
  go_wp2_with fail
  go_ret
  exact ⟨rfl, HB.out.trans (hb.mono HB.out.size)⟩
theorem cmpN_le (a b : Nat) : (cmpN a b ≤ 0) ↔ a ≤ b := by unfold cmpN; split <;> (try split) <;> omega

set_option maxHeartbeats 16000000 in
theorem smalls_small (n : Nat) (l : List Nat) (A : Option Addr) (c : Nat) (w : World) (hn64 : n < 18446744073709551616) (hS : Sl1 w A u32V l) (hx : ∀ x ∈ l, x < B32) (hlen : l.length ≤ 20) :
    Calls Try.prog 4 #[.int .u64 (n : Int), .slice A l.length c] w (RetTrue w) := by
  have HF := Lib.hid (few_any [l.length] (some ⟨w.heap.size, 0, none⟩) 1 _ true (by simp [hlen]) (few_cells1 w A l.length c) (by simp))
  have hb0 := (Below.refl w.heap.size w).alloc (Nat.le_refl _) (.cells #[.slice A l.length c] 22)
  have HB := Lib.hid hb0
  have HS := Lib.hid (hS.below hb0 (Nat.le_refl _))
  have HX := Lib.hid hx
  clear hS hb0
  obtain ⟨a, ha⟩ : ∃ a, vl B32 l = a := ⟨_, rfl⟩
  have HA := Lib.hid ha
  have HL := Lib.hid (show (dg B32 a).length ≤ 20 ∧ (dg 10 a).length ≤ 1000 ∧ (dg B32 n).length ≤ 2 ∧ (dg 10 n).length ≤ 20 from by
    rw [← ha]; exact ⟨dg32_le l hx 20 hlen, dec10_le l hx (by omega), small_dg hn64, small_d10 hn64⟩)
  clear ha hx
  go_enter Try.func4, Try.ntmps4
  go_wp2_with fail
  refine HF.out.mono ?_
  rintro e W0 ⟨rfl, rfl⟩
  clear HF
  go_wp2_with fail
  refine (int_any n _ hn64).mono ?_
  rintro e W1 ⟨v1, rfl, hn, hb⟩
  have HB := Lib.hid (HB.out.trans (hb.mono HB.out.size))
  have HS := Lib.hid (HS.out.below hb (Nat.le_refl _))
  have N1 := Lib.hid hn
  clear hb hn
  go_wp2_with fail
  refine (uint64_any v1 n _ N1.out (by have := HL.out; omega)).mono ?_
  rintro e W2 ⟨rfl, hb⟩
  have HB := Lib.hid (HB.out.trans (hb.mono HB.out.size))
  have HS := Lib.hid (HS.out.below hb (Nat.le_refl _))
  have N1 := Lib.hid (N1.out.below hb (Nat.le_refl _))
  rw [if_pos hn64, decide_eq_true hn64]
  clear hb
  go_wp2_with fail
  refine (of_any l A c _ HS.out HX.out (by omega)).mono ?_
  rintro e W3 ⟨v2, rfl, hn, hb⟩
  have HB := Lib.hid (HB.out.trans (hb.mono HB.out.size))
  have HS := Lib.hid (HS.out.below hb (Nat.le_refl _))
  rw [HA.out] at hn
  have N2 := Lib.hid hn
  clear hb hn
  go_wp2_with fail
  refine (uint64_any v2 a _ N2.out (by have := HL.out; omega)).mono ?_
  rintro e W4 ⟨rfl, hb⟩
  have HB := Lib.hid (HB.out.trans (hb.mono HB.out.size))
  have HS := Lib.hid (HS.out.below hb (Nat.le_refl _))
  have N2 := Lib.hid (N2.out.below hb (Nat.le_refl _))
  clear hb
  obtain ⟨kz, hkz⟩ : ∃ kz : Nat, (if a < 18446744073709551616 then a else 0) = kz := ⟨_, rfl⟩
  have hkz2 : (if a < 18446744073709551616 then (a : Int) else 0) = (kz : Int) := by rw [← hkz]; split <;> rfl
  rw [hkz2]
  obtain ⟨is, his⟩ : ∃ is, decide (a < 18446744073709551616) = is := ⟨_, rfl⟩
  rw [his]
  have HK := Lib.hid hkz
  have HIS := Lib.hid his
  clear hkz hkz2 his
  go_wp2_with fail
  refine (rof_any l A c _ HS.out HX.out (by omega)).mono ?_
  rintro e W5 ⟨v3, rfl, hn, hb⟩
  have HB := Lib.hid (HB.out.trans (hb.mono HB.out.size))
  have HS := Lib.hid (HS.out.below hb (Nat.le_refl _))
  rw [HA.out] at hn
  have D1 := Lib.hid hn
  clear hb hn
  go_wp2_with fail
  refine (small_any 18446744073709551615 _ (by decide)).mono ?_
  rintro e W6 ⟨v4, rfl, hn, hb⟩
  have HB := Lib.hid (HB.out.trans (hb.mono HB.out.size))
  have HS := Lib.hid (HS.out.below hb (Nat.le_refl _))
  have D1 := Lib.hid (D1.out.below hb (Nat.le_refl _))
  have D2 := Lib.hid hn
  clear hb hn
  go_wp2_with fail
  refine (rcompare_any v3 v4 a 18446744073709551615 _ D1.out D2.out (by have := HL.out; omega) (Nat.le_trans (small_d10 (by decide)) (by decide))).mono ?_
  rintro e W7 ⟨rfl, m5, rfl⟩
  have hbd : Below W6.heap.size W6 (W6.drewN m5) := below_drewN (Below.refl _ _) m5
  have HB := Lib.hid (HB.out.trans (hbd.mono HB.out.size))
  have HS := Lib.hid (HS.out.below hbd (Nat.le_refl _))
  clear hbd
  generalize W6.drewN m5 = W7 at *
  obtain ⟨z, hz⟩ : ∃ z, cmpN a 18446744073709551615 = z := ⟨_, rfl⟩
  have HZ : Hid (z ≤ 0 ↔ a ≤ 18446744073709551615) := Lib.hid (by rw [← hz]; exact cmpN_le a _)
  rw [hz]
  clear hz
  by_cases hab : a < 18446744073709551616
  · have hzz : z ≤ 0 := HZ.out.2 (by omega)
    have hk : kz = a := by rw [← HK.out, if_pos hab]
    subst hk
    have hi : is = true := by rw [← HIS.out]; exact decide_eq_true hab
    subst hi
    go_wp2_with fail
    refine (int_any n _ hn64).mono ?_
    rintro e W8 ⟨v5, rfl, hn, hb⟩
    have HB := Lib.hid (HB.out.trans (hb.mono HB.out.size))
    have HS := Lib.hid (HS.out.below hb (Nat.le_refl _))
    have N3 := Lib.hid hn
    clear hb hn
    go_wp2_with fail
    refine (string_any v5 n _ N3.out (by have := HL.out; omega) (by have := HL.out; omega)).mono ?_
    rintro e W9 ⟨rfl, hb⟩
    have HB := Lib.hid (HB.out.trans (hb.mono HB.out.size))
    have HS := Lib.hid (HS.out.below hb (Nat.le_refl _))
    have N3 := Lib.hid (N3.out.below hb (Nat.le_refl _))
    clear hb
    go_wp2_with fail
    refine (small_any n _ hn64).mono ?_
    rintro e W10 ⟨v6, rfl, hn, hb⟩
    have HB := Lib.hid (HB.out.trans (hb.mono HB.out.size))
    have HS := Lib.hid (HS.out.below hb (Nat.le_refl _))
    have D3 := Lib.hid hn
    clear hb hn
    go_wp2_with fail
    refine (print_any v6 n _ D3.out (by have := HL.out; omega)).mono ?_
    rintro e W11 ⟨rfl, hb⟩
    have HB := Lib.hid (HB.out.trans (hb.mono HB.out.size))
    have HS := Lib.hid (HS.out.below hb (Nat.le_refl _))
    have D3 := Lib.hid (D3.out.below hb (Nat.le_refl _))
    clear hb
    generalize decS n = t0 at *
    go_wp2_with fail
    refine (small_any kz _ hab).mono ?_
    rintro e W12 ⟨v7, rfl, hn, hb⟩
    have HB := Lib.hid (HB.out.trans (hb.mono HB.out.size))
    have HS := Lib.hid (HS.out.below hb (Nat.le_refl _))
    have D4 := Lib.hid hn
    clear hb hn
    go_wp2_with fail
    refine (print_any v7 kz _ D4.out (by have := HL.out; omega)).mono ?_
    rintro e W13 ⟨rfl, hb⟩
    have HB := Lib.hid (HB.out.trans (hb.mono HB.out.size))
    have HS := Lib.hid (HS.out.below hb (Nat.le_refl _))
    have D4 := Lib.hid (D4.out.below hb (Nat.le_refl _))
    clear hb
    go_wp2_with fail
    refine (rof_any l A c _ HS.out HX.out (by omega)).mono ?_
    rintro e W14 ⟨v8, rfl, hn, hb⟩
    have HB := Lib.hid (HB.out.trans (hb.mono HB.out.size))
    have HS := Lib.hid (HS.out.below hb (Nat.le_refl _))
    rw [HA.out] at hn
    have D5 := Lib.hid hn
    clear hb hn
    go_wp2_with fail
    refine (print_any v8 kz _ D5.out (by have := HL.out; omega)).mono ?_
    rintro e W15 ⟨rfl, hb⟩
    have HB := Lib.hid (HB.out.trans (hb.mono HB.out.size))
    have HS := Lib.hid (HS.out.below hb (Nat.le_refl _))
    have D5 := Lib.hid (D5.out.below hb (Nat.le_refl _))
    clear hb
    generalize decS kz = t1 at *
    go_wp2_with fail
    refine (awake_any _).mono ?_
    rintro e W16 ⟨rfl, hb⟩
    have HB := Lib.hid (HB.out.trans (hb.mono HB.out.size))
    have HS := Lib.hid (HS.out.below hb (Nat.le_refl _))
    clear hb
    go_wp2_with fail
    go_ret
    exact ⟨by simp, HB.out⟩
  · have hzz : ¬ z ≤ 0 := fun h => hab (by have := HZ.out.1 h; omega)
    have hk : kz = 0 := by rw [← HK.out, if_neg hab]
    subst hk
    have hi : is = false := by rw [← HIS.out]; exact decide_eq_false hab
    subst hi
    go_wp2_with fail
    refine (int_any n _ hn64).mono ?_
    rintro e W8 ⟨v5, rfl, hn, hb⟩
    have HB := Lib.hid (HB.out.trans (hb.mono HB.out.size))
    have HS := Lib.hid (HS.out.below hb (Nat.le_refl _))
    have N3 := Lib.hid hn
    clear hb hn
    go_wp2_with fail
    refine (string_any v5 n _ N3.out (by have := HL.out; omega) (by have := HL.out; omega)).mono ?_
    rintro e W9 ⟨rfl, hb⟩
    have HB := Lib.hid (HB.out.trans (hb.mono HB.out.size))
    have HS := Lib.hid (HS.out.below hb (Nat.le_refl _))
    have N3 := Lib.hid (N3.out.below hb (Nat.le_refl _))
    clear hb
    go_wp2_with fail
    refine (small_any n _ hn64).mono ?_
    rintro e W10 ⟨v6, rfl, hn, hb⟩
    have HB := Lib.hid (HB.out.trans (hb.mono HB.out.size))
    have HS := Lib.hid (HS.out.below hb (Nat.le_refl _))
    have D3 := Lib.hid hn
    clear hb hn
    go_wp2_with fail
    refine (print_any v6 n _ D3.out (by have := HL.out; omega)).mono ?_
    rintro e W11 ⟨rfl, hb⟩
    have HB := Lib.hid (HB.out.trans (hb.mono HB.out.size))
    have HS := Lib.hid (HS.out.below hb (Nat.le_refl _))
    have D3 := Lib.hid (D3.out.below hb (Nat.le_refl _))
    clear hb
    generalize decS n = t0 at *
    go_wp2_with fail
    refine (awake_any _).mono ?_
    rintro e W12 ⟨rfl, hb⟩
    have HB := Lib.hid (HB.out.trans (hb.mono HB.out.size))
    have HS := Lib.hid (HS.out.below hb (Nat.le_refl _))
    clear hb
    go_wp2_with fail
    go_ret
    exact ⟨by simp, HB.out⟩

theorem wf_u64' {n : Int} (h : (Lit.int .u64 n).wf = true) : 0 ≤ n ∧ n ≤ 18446744073709551615 := by simpa [Lit.wf, IntKind.min, IntKind.max, IntKind.bits, IntKind.signed] using h
theorem smalls_law (a0 : Int) (x1 : List Int) (A1 : Option Addr) (c1 : Nat) (w : World) (h0 : (Lit.int .u64 a0).wf = true) (_ : x1.length ≤ c1) (_ : c1 ≤ maxLen) (h1 : ∀ y ∈ x1, (Lit.int .u32 y).wf = true) (s1 : Sl1 w A1 (Value.int .u32) x1) :
    Calls Try.prog 4 #[.int .u64 a0, .slice A1 x1.length c1] w (RetTrue w) := by
  obtain ⟨p1, q1⟩ := sl_u32 s1 h1
  have e1 : x1.length = (x1.map Int.toNat).length := by simp
  rw [e1]
  obtain ⟨k1, k2⟩ := wf_u64' h0
  obtain ⟨m, hm⟩ : ∃ m : Nat, a0 = (m : Int) := ⟨a0.toNat, by omega⟩
  subst hm
  by_cases h : (x1.map Int.toNat).length ≤ 20
  · exact smalls_small m _ A1 c1 w (by omega) p1 q1 h
  · exact smalls_big m _ A1 c1 w h
end Go.Proofs.Ytnfehhblmoliaaa
