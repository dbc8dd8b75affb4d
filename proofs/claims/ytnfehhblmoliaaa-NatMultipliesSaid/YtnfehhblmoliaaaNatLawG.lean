/- Layer 1 (nat): NatMultiplies. -/
import Derived.Test.YtnfehhblmoliaaaNatN
namespace Go.Proofs.Ytnfehhblmoliaaa
open Go.RowKit Go.Maps Go.WideMaps
set_option maxRecDepth 100000
set_option linter.unusedVariables false
set_option linter.unusedSimpArgs false

theorem mult_big (l l2 l3 : List Nat) (A A2 A3 : Option Addr) (c c2 c3 : Nat) (w : World) (hlen : ¬ (l.length ≤ 8 ∧ l2.length ≤ 8 ∧ l3.length ≤ 20)) :
    Calls Try.prog 9 #[.slice A l.length c, .slice A2 l2.length c2, .slice A3 l3.length c3] w (RetTrue w) := by
  have HB := Lib.hid ((Below.refl w.heap.size w).alloc (Nat.le_refl _) (.cells #[.slice A l.length c, .slice A2 l2.length c2, .slice A3 l3.length c3] 22))
  have hfb : ∃ fb, fb = [l.length, l2.length, l3.length].all (fun n => decide (n ≤ 20)) := ⟨_, rfl⟩
  obtain ⟨fb, hfb⟩ := hfb
  have HF := Lib.hid (few_any [l.length, l2.length, l3.length] (some ⟨w.heap.size, 0, none⟩) 3 _ fb hfb (few_cells3 w A A2 A3 l.length l2.length l3.length c c2 c3) (by simp))
  have hcase : fb = false ∨ (fb = true ∧ (8 : Int) < (l.length : Int)) ∨ (fb = true ∧ ¬ (8 : Int) < (l.length : Int) ∧ (8 : Int) < (l2.length : Int)) := by
    cases hf : fb with
    | false => exact Or.inl rfl
    | true =>
      rw [hf] at hfb
      simp at hfb
      right
      by_cases h1 : (8 : Int) < (l.length : Int)
      · exact Or.inl ⟨rfl, h1⟩
      · exact Or.inr ⟨rfl, h1, by omega⟩
  clear hfb
  go_enter Try.func9, Try.ntmps9
  go_wp2_with fail
  refine HF.out.mono ?_
  rintro e W1 ⟨rfl, rfl⟩
  rcases hcase with rfl | ⟨rfl, h1⟩ | ⟨rfl, h1, h2⟩
  · go_wp2_with fail
    refine (awake_any _).mono ?_
    rintro e W2 ⟨rfl, hb⟩
    go_wp2_with fail
    go_ret
    exact ⟨rfl, HB.out.trans (hb.mono HB.out.size)⟩
  · go_wp2_with fail
    refine (awake_any _).mono ?_
    rintro e W2 ⟨rfl, hb⟩
    go_wp2_with fail
    go_ret
    exact ⟨rfl, HB.out.trans (hb.mono HB.out.size)⟩
  · go_wp2_with fail
    refine (awake_any _).mono ?_
    rintro e W2 ⟨rfl, hb⟩
    go_wp2_with fail
    go_ret
    exact ⟨rfl, HB.out.trans (hb.mono HB.out.size)⟩
theorem one_prod {n m : Nat} (h1 : (dg B32 n).length ≤ 100000) (h2 : (dg B32 (n * m)).length ≤ 100000) : ∀ k, k ≤ [m].length → (dg B32 (n * prodL ([m].take k))).length ≤ 100000 := by
  intro k _
  rcases k with _ | k
  · simpa [prodL] using h1
  · simpa [prodL] using h2
theorem one_sum {n m : Nat} (h2 : (dg B32 (n + m)).length ≤ 100000) : ∀ k, k ≤ [m].length → (dg B32 (n + sumL ([m].take k))).length ≤ 100000 := by
  intro k _
  refine Nat.le_trans (dg_len_mono (by decide) (show _ ≤ n + m from ?_)) h2
  rcases k with _ | k <;> simp [sumL]
theorem one_mem {m : Nat} (h : (dg B32 m).length ≤ 100000) : ∀ x ∈ [m], (dg B32 x).length ≤ 100000 := by
  intro x hx; simp at hx; subst hx; exact h
theorem lt_of_dg {n k : Nat} (h : (dg B32 n).length ≤ k) : n < B32 ^ k := Nat.lt_of_lt_of_le (lt_pow_dg (b := B32) (by decide) n) (Nat.pow_le_pow_right (by decide) h)
theorem mult_sizes {a b c : Nat} (ha : a < B32 ^ 8) (hb : b < B32 ^ 8) (hc : c < B32 ^ 20) : ∀ z, z ≤ a * b + a * c + a + b + c → (dg B32 z).length ≤ 29 := by
  intro z hz
  have h1 : a * b < B32 ^ 16 := by rw [show 16 = 8 + 8 by rfl, Nat.pow_add]; exact Nat.mul_lt_mul_of_lt_of_lt ha hb
  have h2 : a * c < B32 ^ 28 := by rw [show 28 = 8 + 20 by rfl, Nat.pow_add]; exact Nat.mul_lt_mul_of_lt_of_lt ha hc
  have h3 : B32 ^ 16 + B32 ^ 28 + B32 ^ 8 + B32 ^ 8 + B32 ^ 20 < B32 ^ 29 := by decide
  exact dg_len_le (by decide) (by omega)
theorem dec_of_dg (n k : Nat) (h : (dg B32 n).length ≤ k) : (dg 10 n).length ≤ 10 * k := by
  refine dg_len_le (by decide) (Nat.lt_of_lt_of_le (lt_of_dg h) ?_)
  rw [Nat.pow_mul]
  exact Nat.pow_le_pow_left (by decide) _

set_option maxHeartbeats 64000000 in
theorem mult_small (l l2 l3 : List Nat) (A A2 A3 : Option Addr) (c c2 c3 : Nat) (w : World) (hS : Sl1 w A u32V l) (hS2 : Sl1 w A2 u32V l2) (hS3 : Sl1 w A3 u32V l3) (hx : ∀ x ∈ l, x < B32) (hx2 : ∀ x ∈ l2, x < B32) (hx3 : ∀ x ∈ l3, x < B32) (hlen : l.length ≤ 8) (hlen2 : l2.length ≤ 8) (hlen3 : l3.length ≤ 20) :
    Calls Try.prog 9 #[.slice A l.length c, .slice A2 l2.length c2, .slice A3 l3.length c3] w (RetTrue w) := by
  have HF := Lib.hid (few_any [l.length, l2.length, l3.length] (some ⟨w.heap.size, 0, none⟩) 3 _ true (by simp; omega) (few_cells3 w A A2 A3 l.length l2.length l3.length c c2 c3) (by simp))
  have hb0 := (Below.refl w.heap.size w).alloc (Nat.le_refl _) (.cells #[.slice A l.length c, .slice A2 l2.length c2, .slice A3 l3.length c3] 22)
  have HB := Lib.hid hb0
  have HS := Lib.hid (hS.below hb0 (Nat.le_refl _))
  have HT := Lib.hid (hS2.below hb0 (Nat.le_refl _))
  have HU := Lib.hid (hS3.below hb0 (Nat.le_refl _))
  have HX := Lib.hid hx
  have HX2 := Lib.hid hx2
  have HX3 := Lib.hid hx3
  clear hS hS2 hS3 hb0
  obtain ⟨a, ha⟩ : ∃ a, vl B32 l = a := ⟨_, rfl⟩
  obtain ⟨b, hb⟩ : ∃ b, vl B32 l2 = b := ⟨_, rfl⟩
  obtain ⟨d, hd⟩ : ∃ d, vl B32 l3 = d := ⟨_, rfl⟩
  have HA := Lib.hid ha
  have HA2 := Lib.hid hb
  have HA3 := Lib.hid hd
  have hsz := mult_sizes (lt_of_dg (show (dg B32 a).length ≤ 8 by rw [← ha]; exact dg32_le l hx 8 hlen)) (lt_of_dg (show (dg B32 b).length ≤ 8 by rw [← hb]; exact dg32_le l2 hx2 8 hlen2)) (lt_of_dg (show (dg B32 d).length ≤ 20 by rw [← hd]; exact dg32_le l3 hx3 20 hlen3))
  obtain ⟨ab, hab⟩ : ∃ ab, a * b = ab := ⟨_, rfl⟩
  obtain ⟨ad, had⟩ : ∃ ad, a * d = ad := ⟨_, rfl⟩
  obtain ⟨bd, hbd⟩ : ∃ bd, b + d = bd := ⟨_, rfl⟩
  obtain ⟨s, hs⟩ : ∃ s, ab + ad = s := ⟨_, rfl⟩
  rw [hab, had] at hsz
  have HL := Lib.hid (fun z (h : z ≤ ab + ad + a + b + d) => Nat.le_trans (hsz z h) (show 29 ≤ 100000 by decide))
  have HT10 := Lib.hid (fun z (h : z ≤ ab + ad + a + b + d) => Nat.le_trans (dec_of_dg z 29 (hsz z h)) (show 10 * 29 ≤ 1000 by decide))
  have HBA : Hid (b * prodL [a] = ab ∧ b * a = ab) := Lib.hid ⟨by simp [prodL]; rw [← hab, Nat.mul_comm], by rw [← hab, Nat.mul_comm]⟩
  have HAB : Hid (a * prodL [b] = ab ∧ a * b = ab) := Lib.hid ⟨by simp [prodL]; exact hab, hab⟩
  have HYZ : Hid (b + sumL [d] = bd ∧ b + d = bd) := Lib.hid ⟨by simp [sumL]; exact hbd, hbd⟩
  have hxyz : a * bd = s := by rw [← hbd, Nat.mul_add, hab, had]; exact hs
  have HXYZ : Hid (a * prodL [bd] = s ∧ a * bd = s) := Lib.hid ⟨by simp [prodL]; exact hxyz, hxyz⟩
  have HXZ : Hid (a * prodL [d] = ad ∧ a * d = ad) := Lib.hid ⟨by simp [prodL]; exact had, had⟩
  have HSM : Hid (ab + sumL [ad] = s ∧ ab + ad = s) := Lib.hid ⟨by simp [sumL]; exact hs, hs⟩
  have HX1 : Hid (a * prodL [] = a) := Lib.hid (by simp [prodL])
  have Lq : Hid ((dg B32 a).length ≤ 100000 ∧ (dg B32 b).length ≤ 100000 ∧ (dg B32 d).length ≤ 100000 ∧ (dg B32 ab).length ≤ 100000 ∧ (dg B32 ad).length ≤ 100000 ∧ (dg B32 bd).length ≤ 100000 ∧ (dg B32 s).length ≤ 100000) := Lib.hid ⟨HL.out _ (by omega), HL.out _ (by omega), HL.out _ (by omega), HL.out _ (by omega), HL.out _ (by omega), HL.out _ (by omega), HL.out _ (by omega)⟩
  have LT : Hid ((dg 10 a).length ≤ 1000 ∧ (dg 10 ab).length ≤ 1000) := Lib.hid ⟨HT10.out _ (by omega), HT10.out _ (by omega)⟩
  have HDT := Lib.hid (fun z (h : z ≤ ab) => HT10.out z (by omega))
  clear ha hb hd hx hx2 hx3 hsz hab had hbd hs hxyz HL HT10
  have g1 : ¬ (8 : Int) < (l.length : Int) := by omega
  have g2 : ¬ (8 : Int) < (l2.length : Int) := by omega
  go_enter Try.func9, Try.ntmps9
  go_wp2_with fail
  refine HF.out.mono ?_
  rintro e W0 ⟨rfl, rfl⟩
  clear HF
  go_wp2_with fail
  refine (of_any l A c _ HS.out HX.out (by omega)).mono ?_
  rintro e W1 ⟨v1, rfl, hn, hb⟩
  replace HB := Lib.hid (HB.out.trans (hb.mono HB.out.size))
  replace HS := Lib.hid (HS.out.below hb (Nat.le_refl _))
  replace HT := Lib.hid (HT.out.below hb (Nat.le_refl _))
  replace HU := Lib.hid (HU.out.below hb (Nat.le_refl _))
  rw [HA.out] at hn
  have NX := Lib.hid hn
  clear hb hn
  go_wp2_with fail
  refine (of_any l2 A2 c2 _ HT.out HX2.out (by omega)).mono ?_
  rintro e W2 ⟨v2, rfl, hn, hb⟩
  replace HB := Lib.hid (HB.out.trans (hb.mono HB.out.size))
  replace HS := Lib.hid (HS.out.below hb (Nat.le_refl _))
  replace HT := Lib.hid (HT.out.below hb (Nat.le_refl _))
  replace HU := Lib.hid (HU.out.below hb (Nat.le_refl _))
  replace NX := Lib.hid (NX.out.below hb (Nat.le_refl _))
  rw [HA2.out] at hn
  have NY := Lib.hid hn
  clear hb hn
  go_wp2_with fail
  refine (of_any l3 A3 c3 _ HU.out HX3.out (by omega)).mono ?_
  rintro e W3 ⟨v3, rfl, hn, hb⟩
  replace HB := Lib.hid (HB.out.trans (hb.mono HB.out.size))
  replace HS := Lib.hid (HS.out.below hb (Nat.le_refl _))
  replace HT := Lib.hid (HT.out.below hb (Nat.le_refl _))
  replace HU := Lib.hid (HU.out.below hb (Nat.le_refl _))
  replace NX := Lib.hid (NX.out.below hb (Nat.le_refl _))
  replace NY := Lib.hid (NY.out.below hb (Nat.le_refl _))
  rw [HA3.out] at hn
  have NZ := Lib.hid hn
  clear hb hn
  obtain ⟨AX, cX, rfl, hq1, hq2⟩ := NX.out
  obtain ⟨AY, cY, rfl, hq3, hq4⟩ := NY.out
  obtain ⟨AZ, cZ, rfl, hq5, hq6⟩ := NZ.out
  clear hq1 hq2 hq3 hq4 hq5 hq6
  have hcs := three_cells W3 (.cells #[.slice AX (dg B32 (a)).length cX] 26) (.cells #[.slice AY (dg B32 (b)).length cY] 26) (.cells #[.slice AZ (dg B32 (d)).length cZ] 26)
  replace HB := Lib.hid (HB.out.trans ((hcs.2.2.2.1).mono HB.out.size))
  replace HS := Lib.hid (HS.out.below (hcs.2.2.2.1) (Nat.le_refl _))
  replace HT := Lib.hid (HT.out.below (hcs.2.2.2.1) (Nat.le_refl _))
  replace HU := Lib.hid (HU.out.below (hcs.2.2.2.1) (Nat.le_refl _))
  replace NX := Lib.hid (NX.out.below (hcs.2.2.2.1) (Nat.le_refl _))
  replace NY := Lib.hid (NY.out.below (hcs.2.2.2.1) (Nat.le_refl _))
  replace NZ := Lib.hid (NZ.out.below (hcs.2.2.2.1) (Nat.le_refl _))
  have CX := Lib.hid hcs.1
  have CY := Lib.hid hcs.2.1
  have CZ := Lib.hid hcs.2.2.1
  clear hcs
  obtain ⟨fCX, _⟩ := cell_facts CX.out
  obtain ⟨fCY, _⟩ := cell_facts CY.out
  obtain ⟨fCZ, _⟩ := cell_facts CZ.out
  go_wp2_with fail
  clear fCX fCY fCZ
  generalize ((W3.alloc (.cells #[.slice AX (dg B32 (a)).length cX] 26)).alloc (.cells #[.slice AY (dg B32 (b)).length cY] 26)).alloc (.cells #[.slice AZ (dg B32 (d)).length cZ] 26) = W1x at *
  generalize W3.heap.size = rX at *
  have HBL := Lib.hid (Below.refl W1x.heap.size W1x)
  go_loopg [10, 11] l2.length (fun m v10 v11 W => ∃ (j : Nat) (i : Int) (AW : Option Addr) (lW cW : Nat), j = m ∧ v11 = .int .i64 i ∧ i = (j : Int) - 1 ∧ j ≤ l2.length ∧ v10 = .slice AW lW cW ∧ DecIs W (.slice AW lW cW) (a * vl B32 (l2.drop j)) ∧ Below W1x.heap.size W1x W)
  case atStart => exact ⟨l2.length, _, none, 0, 0, rfl, rfl, rfl, Nat.le_refl _, rfl, by rw [List.drop_length]; exact DecIs.zero _, HBL.out⟩
  case round =>
    obtain ⟨j, i, AW, lW, cW, rfl, rfl, hi, hj, rfl, hD, hbb⟩ := hrel
    rename World => W
    have HD := Lib.hid hD
    have HBB := Lib.hid hbb
    clear hD HBL
    rcases Nat.eq_zero_or_pos j with rfl | hj0
    · replace HS := Lib.hid (HS.out.below hbb (Nat.le_refl _))
      replace HT := Lib.hid (HT.out.below hbb (Nat.le_refl _))
      replace HU := Lib.hid (HU.out.below hbb (Nat.le_refl _))
      replace NX := Lib.hid (NX.out.below hbb (Nat.le_refl _))
      replace NY := Lib.hid (NY.out.below hbb (Nat.le_refl _))
      replace NZ := Lib.hid (NZ.out.below hbb (Nat.le_refl _))
      replace CX := Lib.hid (blk_below hbb (blk_lt CX.out) CX.out)
      replace CY := Lib.hid (blk_below hbb (blk_lt CY.out) CY.out)
      replace CZ := Lib.hid (blk_below hbb (blk_lt CZ.out) CZ.out)
      replace HB := Lib.hid (HB.out.trans (hbb.mono HB.out.size))
      obtain rfl : i = -1 := by omega
      clear hi
      rw [List.drop_zero, HA2.out, HAB.out.2] at HD
      clear hbb HBB
      have hbn := (Below.refl W.heap.size W).alloc (Nat.le_refl _) (.cells #[.slice AY (dg B32 b).length cY] 26)
      have hcn := blk_new W (.cells #[.slice AY (dg B32 b).length cY] 26)
      have HPR := Lib.hid (product_any _ a [b] (some ⟨W.heap.size, 0, none⟩) 1 _ (NX.out.below hbn (Nat.le_refl _)) (nats_one (NY.out.below hbn (Nat.le_refl _)) hcn) (by simp) (one_prod Lq.out.1 (by rw [HAB.out.2]; exact Lq.out.2.2.2.1)) (one_mem Lq.out.2.1))
      rw [HAB.out.1] at HPR
      have HBN := Lib.hid hbn
      obtain ⟨fX, _⟩ := cell_facts CX.out
      obtain ⟨fY, _⟩ := cell_facts CY.out
      clear hbn hcn
      go_wp2_with fail
      clear fX fY
      refine HPR.out.mono ?_
      rintro e Wp ⟨vp, rfl, hn, hb⟩
      replace hb := HBN.out.trans (hb.mono HBN.out.size)
      replace HB := Lib.hid (HB.out.trans (hb.mono HB.out.size))
      replace HS := Lib.hid (HS.out.below hb (Nat.le_refl _))
      replace NX := Lib.hid (NX.out.below hb (Nat.le_refl _))
      replace NY := Lib.hid (NY.out.below hb (Nat.le_refl _))
      replace NZ := Lib.hid (NZ.out.below hb (Nat.le_refl _))
      replace CX := Lib.hid (blk_below hb (blk_lt CX.out) CX.out)
      replace CY := Lib.hid (blk_below hb (blk_lt CY.out) CY.out)
      replace CZ := Lib.hid (blk_below hb (blk_lt CZ.out) CZ.out)
      replace HD := Lib.hid (HD.out.below hb (Nat.le_refl _))
      obtain ⟨ACP, cCP, rfl, hq1, hq2⟩ := hn
      have hb := (Below.refl Wp.heap.size Wp).alloc (Nat.le_refl _) (.cells #[.slice ACP (dg B32 (ab)).length cCP] 26)
      have NP := Lib.hid (NatIs.below ⟨ACP, cCP, rfl, hq1, hq2⟩ hb (Nat.le_refl _))
      replace HB := Lib.hid (HB.out.trans (hb.mono HB.out.size))
      replace HS := Lib.hid (HS.out.below hb (Nat.le_refl _))
      replace NX := Lib.hid (NX.out.below hb (Nat.le_refl _))
      replace NY := Lib.hid (NY.out.below hb (Nat.le_refl _))
      replace NZ := Lib.hid (NZ.out.below hb (Nat.le_refl _))
      replace CX := Lib.hid (blk_below hb (blk_lt CX.out) CX.out)
      replace CY := Lib.hid (blk_below hb (blk_lt CY.out) CY.out)
      replace CZ := Lib.hid (blk_below hb (blk_lt CZ.out) CZ.out)
      replace HD := Lib.hid (HD.out.below hb (Nat.le_refl _))
      have CP := Lib.hid (blk_new Wp (.cells #[.slice ACP (dg B32 (ab)).length cCP] 26))
      clear hq1 hq2 hb
      obtain ⟨fCX, _⟩ := cell_facts CX.out
      obtain ⟨fCY, _⟩ := cell_facts CY.out
      obtain ⟨fCZ, _⟩ := cell_facts CZ.out
      obtain ⟨fCP, _⟩ := cell_facts CP.out
      go_wp2_with fail
      clear fCX fCY fCZ fCP
      generalize Wp.alloc (.cells #[.slice ACP (dg B32 (ab)).length cCP] 26) = W21x at *
      generalize Wp.heap.size = rCP at *
      have HST := Lib.hid (fun V (h : NatIs V (.agg #[.slice ACP (dg B32 ab).length cCP]) ab) => string_any _ ab V h Lq.out.2.2.2.1 (Nat.le_trans LT.out.2 (by decide)))
      have HPRT := Lib.hid (fun V (h : DecIs V (.slice AW lW cW) ab) => print_any _ ab V h (Nat.le_trans LT.out.2 (by decide)))
      generalize decS ab = t0 at HST HPRT
      have HBV := Lib.hid (Below.refl W21x.drew.heap.size W21x.drew)
      have HNX := Lib.hid (fun V (hV : Below W21x.drew.heap.size W21x.drew V) => (show NatIs W21x.drew _ a from NX.out).below hV (Nat.le_refl _))
      have HNY := Lib.hid (fun V (hV : Below W21x.drew.heap.size W21x.drew V) => (show NatIs W21x.drew _ b from NY.out).below hV (Nat.le_refl _))
      have HNZ := Lib.hid (fun V (hV : Below W21x.drew.heap.size W21x.drew V) => (show NatIs W21x.drew _ d from NZ.out).below hV (Nat.le_refl _))
      have HNP := Lib.hid (fun V (hV : Below W21x.drew.heap.size W21x.drew V) => (show NatIs W21x.drew _ ab from NP.out).below hV (Nat.le_refl _))
      have HNW := Lib.hid (fun V (hV : Below W21x.drew.heap.size W21x.drew V) => (show DecIs W21x.drew (.slice AW lW cW) ab from HD.out).below hV (Nat.le_refl _))
      have HF := Lib.hid (fun V (hV : Below W21x.drew.heap.size W21x.drew V) => And.intro (cell_facts (blk_below hV (blk_lt (blk_drew CX.out)) (blk_drew CX.out))).1 (And.intro (cell_facts (blk_below hV (blk_lt (blk_drew CY.out)) (blk_drew CY.out))).1 (And.intro (cell_facts (blk_below hV (blk_lt (blk_drew CZ.out)) (blk_drew CZ.out))).1 (cell_facts (blk_below hV (blk_lt (blk_drew CP.out)) (blk_drew CP.out))).1)))
      have HBD : Hid (Below w.heap.size w W21x.drew) := Lib.hid HB.out.drew
      clear NX NY NZ NP CX CY CZ CP HB HD HS
      refine wp_region_D (Ds := []) (S := fun V => V.cell? ⟨rX, 0, none⟩ = some (.slice AX (dg B32 a).length cX) ∧ V.cell? ⟨rX + 1, 0, none⟩ = some (.slice AY (dg B32 b).length cY) ∧ V.cell? ⟨rX + 2, 0, none⟩ = some (.slice AZ (dg B32 d).length cZ) ∧ V.cell? ⟨rCP, 0, none⟩ = some (.slice ACP (dg B32 ab).length cCP)) (by kernel_rfl) (by exact HF.out _ HBV.out) (fun hHeld => ?_)
      generalize W21x.drew = W7 at *
      refine wpAnyD_takeP (i := 2) (oi := { dst := some 60, op := Op.move (Operand.tmp 10), type := 30, pos := "law.go:148", after := #[], guard := none }) (d := 60) (v := ?_) rfl rfl (by kernel_rfl) (by kernel_rfl) (by kernel_rfl) (fun _ _ _ h => h) (Or.inl ⟨by rfl, ?_⟩) ?_
      rotate_left
      · (intro w' _; go_simp; (try with_reducible rfl))
      simp only [List.setIfInBounds_toArray, List.set_cons_zero, List.set_cons_succ]
      refine wpAnyD_takeD (i := 0) (oi := { dst := some 58, op := Op.load 26 (Operand.tmp 12), type := 26, pos := "law.go:148", after := #[], guard := none }) (d := 58) (v := ?_) rfl rfl (by kernel_rfl) (by kernel_rfl) (by kernel_rfl) (by kernel_rfl) (fun _ _ _ h => h) (Or.inl ⟨by rfl, ?_⟩) hHeld ?_
      rotate_left
      · (intro w' hSw; (try dsimp only at hSw); go_simp; (try with_reducible rfl))
      simp only [List.setIfInBounds_toArray, List.set_cons_zero, List.set_cons_succ]
      refine wpAnyD_one (i := 1) (o := { dst := some 59, op := Op.call { callee := Callee.value (Operand.func 24), args := #[Operand.tmp 58], argTypes := #[26] }, type := 9, pos := "law.go:148", after := #[{ on := 0, ground := Ground.data }], guard := none }) (by kernel_rfl) rfl (by rfl) (fun K hK => ?_)
      go_simp; refine (HST.out _ (HNP.out _ HBV.out)).mono ?_; rintro e V1 ⟨rfl, hb⟩; replace HBV := Lib.hid (HBV.out.trans (hb.mono HBV.out.size)); (try (replace PYX := Lib.hid (PYX.out.below hb (Nat.le_refl _)))); (try (replace C8 := Lib.hid (blk_below hb (blk_lt C8.out) C8.out))); (try (replace C18 := Lib.hid (blk_below hb (blk_lt C18.out) C18.out))); (try (replace PYZ := Lib.hid (PYZ.out.below hb (Nat.le_refl _)))); (try (replace C20 := Lib.hid (blk_below hb (blk_lt C20.out) C20.out))); (try (replace PXYZ := Lib.hid (PXYZ.out.below hb (Nat.le_refl _)))); (try (replace C25 := Lib.hid (blk_below hb (blk_lt C25.out) C25.out))); (try (replace PXZ := Lib.hid (PXZ.out.below hb (Nat.le_refl _)))); (try (replace C27 := Lib.hid (blk_below hb (blk_lt C27.out) C27.out))); (try (replace PS := Lib.hid (PS.out.below hb (Nat.le_refl _)))); (try (replace PX1 := Lib.hid (PX1.out.below hb (Nat.le_refl _)))); have h := HF.out _ HBV.out; clear hb
      refine hK.out _ _ h (fun hHeld => ?_)
      clear hK K
      try simp only [Act.put, List.setIfInBounds_toArray, List.set_cons_zero, List.set_cons_succ]
      refine wpAnyD_one (i := 3) (o := { dst := some 61, op := Op.call { callee := Callee.value (Operand.func 18), args := #[Operand.tmp 60], argTypes := #[30] }, type := 9, pos := "law.go:148", after := #[{ on := 2, ground := Ground.data }, { on := 1, ground := Ground.chain }], guard := none }) (by kernel_rfl) rfl (by rfl) (fun K hK => ?_)
      go_simp; refine (HPRT.out _ (HNW.out _ HBV.out)).mono ?_; rintro e V1 ⟨rfl, hb⟩; replace HBV := Lib.hid (HBV.out.trans (hb.mono HBV.out.size)); (try (replace PYX := Lib.hid (PYX.out.below hb (Nat.le_refl _)))); (try (replace C8 := Lib.hid (blk_below hb (blk_lt C8.out) C8.out))); (try (replace C18 := Lib.hid (blk_below hb (blk_lt C18.out) C18.out))); (try (replace PYZ := Lib.hid (PYZ.out.below hb (Nat.le_refl _)))); (try (replace C20 := Lib.hid (blk_below hb (blk_lt C20.out) C20.out))); (try (replace PXYZ := Lib.hid (PXYZ.out.below hb (Nat.le_refl _)))); (try (replace C25 := Lib.hid (blk_below hb (blk_lt C25.out) C25.out))); (try (replace PXZ := Lib.hid (PXZ.out.below hb (Nat.le_refl _)))); (try (replace C27 := Lib.hid (blk_below hb (blk_lt C27.out) C27.out))); (try (replace PS := Lib.hid (PS.out.below hb (Nat.le_refl _)))); (try (replace PX1 := Lib.hid (PX1.out.below hb (Nat.le_refl _)))); have h := HF.out _ HBV.out; clear hb
      refine hK.out _ _ h (fun hHeld => ?_)
      clear hK K
      try simp only [Act.put, List.setIfInBounds_toArray, List.set_cons_zero, List.set_cons_succ]
      refine wpAnyD_takeP (i := 4) (oi := { dst := some 62, op := Op.binOp BinOp.eql 9 (Operand.tmp 59) (Operand.tmp 61) 9, type := 4, pos := "law.go:148", after := #[{ on := 1, ground := Ground.data }, { on := 3, ground := Ground.data }], guard := none }) (d := 62) (v := ?_) rfl rfl (by kernel_rfl) (by kernel_rfl) (by kernel_rfl) (fun _ _ _ h => h) (Or.inl ⟨by rfl, ?_⟩) ?_
      rotate_left
      · (intro w' _; go_simp; (try with_reducible rfl))
      simp only [List.setIfInBounds_toArray, List.set_cons_zero, List.set_cons_succ]
      refine wpAnyD_takeP (i := 5) (oi := { dst := some 63, op := Op.move (Operand.tmp 62), type := 4, pos := "law.go:148", after := #[{ on := 4, ground := Ground.data }, { on := 3, ground := Ground.chain }], guard := none }) (d := 63) (v := ?_) rfl rfl (by kernel_rfl) (by kernel_rfl) (by kernel_rfl) (fun _ _ _ h => h) (Or.inl ⟨by rfl, ?_⟩) ?_
      rotate_left
      · (intro w' _; go_simp; (try with_reducible rfl))
      simp only [List.setIfInBounds_toArray, List.set_cons_zero, List.set_cons_succ]
      refine wpAnyD_takeD (i := 6) (oi := { dst := some 64, op := Op.load 26 (Operand.tmp 8), type := 26, pos := "law.go:148", after := #[{ on := 5, ground := Ground.guard }], guard := some (5, true) }) (d := 64) (v := ?_) rfl rfl (by kernel_rfl) (by kernel_rfl) (by kernel_rfl) (by kernel_rfl) (fun _ _ _ h => h) (Or.inl ⟨by rfl, ?_⟩) hHeld ?_
      rotate_left
      · (intro w' hSw; (try dsimp only at hSw); go_simp; (try with_reducible rfl))
      simp only [List.setIfInBounds_toArray, List.set_cons_zero, List.set_cons_succ]
      refine wpAnyD_takeD (i := 7) (oi := { dst := some 65, op := Op.load 26 (Operand.tmp 7), type := 26, pos := "law.go:148", after := #[{ on := 5, ground := Ground.guard }], guard := some (5, true) }) (d := 65) (v := ?_) rfl rfl (by kernel_rfl) (by kernel_rfl) (by kernel_rfl) (by kernel_rfl) (fun _ _ _ h => h) (Or.inl ⟨by rfl, ?_⟩) hHeld ?_
      rotate_left
      · (intro w' hSw; (try dsimp only at hSw); go_simp; (try with_reducible rfl))
      simp only [List.setIfInBounds_toArray, List.set_cons_zero, List.set_cons_succ]
      refine wpAnyD_takeD (i := 10) (oi := { dst := some 68, op := Op.load 26 (Operand.tmp 12), type := 26, pos := "law.go:148", after := #[{ on := 5, ground := Ground.guard }], guard := some (5, true) }) (d := 68) (v := ?_) rfl rfl (by kernel_rfl) (by kernel_rfl) (by kernel_rfl) (by kernel_rfl) (fun _ _ _ h => h) (Or.inl ⟨by rfl, ?_⟩) hHeld ?_
      rotate_left
      · (intro w' hSw; (try dsimp only at hSw); go_simp; (try with_reducible rfl))
      simp only [List.setIfInBounds_toArray, List.set_cons_zero, List.set_cons_succ]
      refine wpAnyD_one (i := 8) (o := { dst := some 66, op := Op.buildSlice 47 1 #[(0, Operand.tmp 65)], type := 47, pos := "law.go:148", after := #[{ on := 7, ground := Ground.data }, { on := 5, ground := Ground.guard }], guard := some (5, true) }) (by kernel_rfl) rfl (by rfl) (fun K hK => ?_)
      go_simp; refine gen_alloc HBV.out (fun V5 hb hci => ?_); replace HBV := Lib.hid (HBV.out.trans (hb.mono HBV.out.size)); (try (replace PYX := Lib.hid (PYX.out.below hb (Nat.le_refl _)))); (try (replace C8 := Lib.hid (blk_below hb (blk_lt C8.out) C8.out))); (try (replace C18 := Lib.hid (blk_below hb (blk_lt C18.out) C18.out))); (try (replace PYZ := Lib.hid (PYZ.out.below hb (Nat.le_refl _)))); (try (replace C20 := Lib.hid (blk_below hb (blk_lt C20.out) C20.out))); (try (replace PXYZ := Lib.hid (PXYZ.out.below hb (Nat.le_refl _)))); (try (replace C25 := Lib.hid (blk_below hb (blk_lt C25.out) C25.out))); (try (replace PXZ := Lib.hid (PXZ.out.below hb (Nat.le_refl _)))); (try (replace C27 := Lib.hid (blk_below hb (blk_lt C27.out) C27.out))); (try (replace PS := Lib.hid (PS.out.below hb (Nat.le_refl _)))); (try (replace PX1 := Lib.hid (PX1.out.below hb (Nat.le_refl _)))); have C8 := Lib.hid hci; have h := HF.out _ HBV.out; clear hb hci
      refine hK.out _ _ h (fun hHeld => ?_)
      clear hK K
      try simp only [Act.put, List.setIfInBounds_toArray, List.set_cons_zero, List.set_cons_succ]
      refine wpAnyD_one (i := 9) (o := { dst := some 67, op := Op.call { callee := Callee.value (Operand.func 31), args := #[Operand.tmp 64, Operand.tmp 66], argTypes := #[26, 47] }, type := 26, pos := "law.go:148", after := #[{ on := 6, ground := Ground.data }, { on := 8, ground := Ground.data }, { on := 5, ground := Ground.chain }, { on := 5, ground := Ground.guard }], guard := some (5, true) }) (by kernel_rfl) rfl (by rfl) (fun K hK => ?_)
      go_simp; refine (product_any _ b [a] _ 1 _ (HNY.out _ HBV.out) (nats_one (HNX.out _ HBV.out) C8.out) (by simp) (one_prod Lq.out.2.1 (by rw [HBA.out.2]; exact Lq.out.2.2.2.1)) (one_mem Lq.out.1)).mono ?_; rintro e V1 ⟨u1, rfl, hn, hb⟩; replace HBV := Lib.hid (HBV.out.trans (hb.mono HBV.out.size)); (try (replace PYX := Lib.hid (PYX.out.below hb (Nat.le_refl _)))); (try (replace C8 := Lib.hid (blk_below hb (blk_lt C8.out) C8.out))); (try (replace C18 := Lib.hid (blk_below hb (blk_lt C18.out) C18.out))); (try (replace PYZ := Lib.hid (PYZ.out.below hb (Nat.le_refl _)))); (try (replace C20 := Lib.hid (blk_below hb (blk_lt C20.out) C20.out))); (try (replace PXYZ := Lib.hid (PXYZ.out.below hb (Nat.le_refl _)))); (try (replace C25 := Lib.hid (blk_below hb (blk_lt C25.out) C25.out))); (try (replace PXZ := Lib.hid (PXZ.out.below hb (Nat.le_refl _)))); (try (replace C27 := Lib.hid (blk_below hb (blk_lt C27.out) C27.out))); (try (replace PS := Lib.hid (PS.out.below hb (Nat.le_refl _)))); (try (replace PX1 := Lib.hid (PX1.out.below hb (Nat.le_refl _)))); rw [HBA.out.1] at hn; have PYX := Lib.hid hn; clear hn; have h := HF.out _ HBV.out; clear hb
      refine hK.out _ _ h (fun hHeld => ?_)
      clear hK K
      try simp only [Act.put, List.setIfInBounds_toArray, List.set_cons_zero, List.set_cons_succ]
      refine wpAnyD_one (i := 11) (o := { dst := some 69, op := Op.call { callee := Callee.value (Operand.func 16), args := #[Operand.tmp 67, Operand.tmp 68], argTypes := #[26, 26] }, type := 3, pos := "law.go:148", after := #[{ on := 9, ground := Ground.data }, { on := 10, ground := Ground.data }, { on := 9, ground := Ground.chain }, { on := 5, ground := Ground.guard }], guard := some (5, true) }) (by kernel_rfl) rfl (by rfl) (fun K hK => ?_)
      go_simp; refine (compare_any u1 _ ab ab _ PYX.out (HNP.out _ HBV.out) Lq.out.2.2.2.1 Lq.out.2.2.2.1).mono ?_; rintro e V1 ⟨rfl, hb⟩; replace HBV := Lib.hid (HBV.out.trans (hb.mono HBV.out.size)); (try (replace PYX := Lib.hid (PYX.out.below hb (Nat.le_refl _)))); (try (replace C8 := Lib.hid (blk_below hb (blk_lt C8.out) C8.out))); (try (replace C18 := Lib.hid (blk_below hb (blk_lt C18.out) C18.out))); (try (replace PYZ := Lib.hid (PYZ.out.below hb (Nat.le_refl _)))); (try (replace C20 := Lib.hid (blk_below hb (blk_lt C20.out) C20.out))); (try (replace PXYZ := Lib.hid (PXYZ.out.below hb (Nat.le_refl _)))); (try (replace C25 := Lib.hid (blk_below hb (blk_lt C25.out) C25.out))); (try (replace PXZ := Lib.hid (PXZ.out.below hb (Nat.le_refl _)))); (try (replace C27 := Lib.hid (blk_below hb (blk_lt C27.out) C27.out))); (try (replace PS := Lib.hid (PS.out.below hb (Nat.le_refl _)))); (try (replace PX1 := Lib.hid (PX1.out.below hb (Nat.le_refl _)))); rw [show cmpN ab ab = 0 by unfold cmpN; rw [if_neg (by omega), if_neg (by omega)]]; have h := HF.out _ HBV.out; clear hb
      refine hK.out _ _ h (fun hHeld => ?_)
      clear hK K
      try simp only [Act.put, List.setIfInBounds_toArray, List.set_cons_zero, List.set_cons_succ]
      refine wpAnyD_takeP (i := 12) (oi := { dst := some 70, op := Op.binOp BinOp.eql 3 (Operand.tmp 69) (Operand.const (Value.int IntKind.i64 0)) 3, type := 4, pos := "law.go:148", after := #[{ on := 11, ground := Ground.data }, { on := 5, ground := Ground.guard }], guard := some (5, true) }) (d := 70) (v := ?_) rfl rfl (by kernel_rfl) (by kernel_rfl) (by kernel_rfl) (fun _ _ _ h => h) (Or.inl ⟨by rfl, ?_⟩) ?_
      rotate_left
      · (intro w' _; go_simp; (try with_reducible rfl))
      simp only [List.setIfInBounds_toArray, List.set_cons_zero, List.set_cons_succ]
      refine wpAnyD_takeP (i := 13) (oi := { dst := some 71, op := Op.pick (Operand.tmp 63) (Operand.tmp 70) (Operand.const (Value.bool false)), type := 4, pos := "law.go:148", after := #[{ on := 5, ground := Ground.data }, { on := 12, ground := Ground.data }], guard := none }) (d := 71) (v := ?_) rfl rfl (by kernel_rfl) (by kernel_rfl) (by kernel_rfl) (fun _ _ _ h => h) (Or.inl ⟨by rfl, ?_⟩) ?_
      rotate_left
      · (intro w' _; go_simp; (try with_reducible rfl))
      simp only [List.setIfInBounds_toArray, List.set_cons_zero, List.set_cons_succ]
      refine wpAnyD_takeP (i := 14) (oi := { dst := some 72, op := Op.move (Operand.tmp 71), type := 4, pos := "law.go:148", after := #[{ on := 13, ground := Ground.data }, { on := 11, ground := Ground.chain }], guard := none }) (d := 72) (v := ?_) rfl rfl (by kernel_rfl) (by kernel_rfl) (by kernel_rfl) (fun _ _ _ h => h) (Or.inl ⟨by rfl, ?_⟩) ?_
      rotate_left
      · (intro w' _; go_simp; (try with_reducible rfl))
      simp only [List.setIfInBounds_toArray, List.set_cons_zero, List.set_cons_succ]
      refine wpAnyD_takeD (i := 15) (oi := { dst := some 73, op := Op.load 26 (Operand.tmp 7), type := 26, pos := "law.go:148", after := #[{ on := 14, ground := Ground.guard }], guard := some (14, true) }) (d := 73) (v := ?_) rfl rfl (by kernel_rfl) (by kernel_rfl) (by kernel_rfl) (by kernel_rfl) (fun _ _ _ h => h) (Or.inl ⟨by rfl, ?_⟩) hHeld ?_
      rotate_left
      · (intro w' hSw; (try dsimp only at hSw); go_simp; (try with_reducible rfl))
      simp only [List.setIfInBounds_toArray, List.set_cons_zero, List.set_cons_succ]
      refine wpAnyD_takeD (i := 16) (oi := { dst := some 74, op := Op.load 26 (Operand.tmp 8), type := 26, pos := "law.go:148", after := #[{ on := 14, ground := Ground.guard }], guard := some (14, true) }) (d := 74) (v := ?_) rfl rfl (by kernel_rfl) (by kernel_rfl) (by kernel_rfl) (by kernel_rfl) (fun _ _ _ h => h) (Or.inl ⟨by rfl, ?_⟩) hHeld ?_
      rotate_left
      · (intro w' hSw; (try dsimp only at hSw); go_simp; (try with_reducible rfl))
      simp only [List.setIfInBounds_toArray, List.set_cons_zero, List.set_cons_succ]
      refine wpAnyD_takeD (i := 17) (oi := { dst := some 75, op := Op.load 26 (Operand.tmp 9), type := 26, pos := "law.go:148", after := #[{ on := 14, ground := Ground.guard }], guard := some (14, true) }) (d := 75) (v := ?_) rfl rfl (by kernel_rfl) (by kernel_rfl) (by kernel_rfl) (by kernel_rfl) (fun _ _ _ h => h) (Or.inl ⟨by rfl, ?_⟩) hHeld ?_
      rotate_left
      · (intro w' hSw; (try dsimp only at hSw); go_simp; (try with_reducible rfl))
      simp only [List.setIfInBounds_toArray, List.set_cons_zero, List.set_cons_succ]
      refine wpAnyD_takeD (i := 22) (oi := { dst := some 80, op := Op.load 26 (Operand.tmp 12), type := 26, pos := "law.go:148", after := #[{ on := 14, ground := Ground.guard }], guard := some (14, true) }) (d := 80) (v := ?_) rfl rfl (by kernel_rfl) (by kernel_rfl) (by kernel_rfl) (by kernel_rfl) (fun _ _ _ h => h) (Or.inl ⟨by rfl, ?_⟩) hHeld ?_
      rotate_left
      · (intro w' hSw; (try dsimp only at hSw); go_simp; (try with_reducible rfl))
      simp only [List.setIfInBounds_toArray, List.set_cons_zero, List.set_cons_succ]
      refine wpAnyD_takeD (i := 23) (oi := { dst := some 81, op := Op.load 26 (Operand.tmp 7), type := 26, pos := "law.go:148", after := #[{ on := 14, ground := Ground.guard }], guard := some (14, true) }) (d := 81) (v := ?_) rfl rfl (by kernel_rfl) (by kernel_rfl) (by kernel_rfl) (by kernel_rfl) (fun _ _ _ h => h) (Or.inl ⟨by rfl, ?_⟩) hHeld ?_
      rotate_left
      · (intro w' hSw; (try dsimp only at hSw); go_simp; (try with_reducible rfl))
      simp only [List.setIfInBounds_toArray, List.set_cons_zero, List.set_cons_succ]
      refine wpAnyD_takeD (i := 24) (oi := { dst := some 82, op := Op.load 26 (Operand.tmp 9), type := 26, pos := "law.go:148", after := #[{ on := 14, ground := Ground.guard }], guard := some (14, true) }) (d := 82) (v := ?_) rfl rfl (by kernel_rfl) (by kernel_rfl) (by kernel_rfl) (by kernel_rfl) (fun _ _ _ h => h) (Or.inl ⟨by rfl, ?_⟩) hHeld ?_
      rotate_left
      · (intro w' hSw; (try dsimp only at hSw); go_simp; (try with_reducible rfl))
      simp only [List.setIfInBounds_toArray, List.set_cons_zero, List.set_cons_succ]
      refine wpAnyD_two (i := 18) (j := 25) (oi := { dst := some 76, op := Op.buildSlice 47 1 #[(0, Operand.tmp 75)], type := 47, pos := "law.go:148", after := #[{ on := 17, ground := Ground.data }, { on := 14, ground := Ground.guard }], guard := some (14, true) }) (oj := { dst := some 83, op := Op.buildSlice 47 1 #[(0, Operand.tmp 82)], type := 47, pos := "law.go:148", after := #[{ on := 24, ground := Ground.data }, { on := 14, ground := Ground.guard }], guard := some (14, true) }) (by kernel_rfl) rfl rfl (by rfl) (by rfl) (fun K hK => ?_) (fun K hK => ?_)
      ·
        go_simp; refine gen_alloc HBV.out (fun V5 hb hci => ?_); replace HBV := Lib.hid (HBV.out.trans (hb.mono HBV.out.size)); (try (replace PYX := Lib.hid (PYX.out.below hb (Nat.le_refl _)))); (try (replace C8 := Lib.hid (blk_below hb (blk_lt C8.out) C8.out))); (try (replace C18 := Lib.hid (blk_below hb (blk_lt C18.out) C18.out))); (try (replace PYZ := Lib.hid (PYZ.out.below hb (Nat.le_refl _)))); (try (replace C20 := Lib.hid (blk_below hb (blk_lt C20.out) C20.out))); (try (replace PXYZ := Lib.hid (PXYZ.out.below hb (Nat.le_refl _)))); (try (replace C25 := Lib.hid (blk_below hb (blk_lt C25.out) C25.out))); (try (replace PXZ := Lib.hid (PXZ.out.below hb (Nat.le_refl _)))); (try (replace C27 := Lib.hid (blk_below hb (blk_lt C27.out) C27.out))); (try (replace PS := Lib.hid (PS.out.below hb (Nat.le_refl _)))); (try (replace PX1 := Lib.hid (PX1.out.below hb (Nat.le_refl _)))); have C18 := Lib.hid hci; have h := HF.out _ HBV.out; clear hb hci
        refine hK.out _ _ h (fun hHeld => ?_)
        clear hK K
        try simp only [Act.put, List.setIfInBounds_toArray, List.set_cons_zero, List.set_cons_succ]
        refine wpAnyD_two (i := 19) (j := 25) (oi := { dst := some 77, op := Op.call { callee := Callee.value (Operand.func 25), args := #[Operand.tmp 74, Operand.tmp 76], argTypes := #[26, 47] }, type := 26, pos := "law.go:148", after := #[{ on := 16, ground := Ground.data }, { on := 18, ground := Ground.data }, { on := 14, ground := Ground.chain }, { on := 14, ground := Ground.guard }], guard := some (14, true) }) (oj := { dst := some 83, op := Op.buildSlice 47 1 #[(0, Operand.tmp 82)], type := 47, pos := "law.go:148", after := #[{ on := 24, ground := Ground.data }, { on := 14, ground := Ground.guard }], guard := some (14, true) }) (by kernel_rfl) rfl rfl (by rfl) (by rfl) (fun K hK => ?_) (fun K hK => ?_)
        ·
          go_simp; refine (add_any _ b [d] _ 1 _ (HNY.out _ HBV.out) (nats_one (HNZ.out _ HBV.out) C18.out) (by simp) (one_sum (by rw [HYZ.out.2]; exact Lq.out.2.2.2.2.2.1)) (one_mem Lq.out.2.2.1)).mono ?_; rintro e V1 ⟨u2, rfl, hn, hb⟩; replace HBV := Lib.hid (HBV.out.trans (hb.mono HBV.out.size)); (try (replace PYX := Lib.hid (PYX.out.below hb (Nat.le_refl _)))); (try (replace C8 := Lib.hid (blk_below hb (blk_lt C8.out) C8.out))); (try (replace C18 := Lib.hid (blk_below hb (blk_lt C18.out) C18.out))); (try (replace PYZ := Lib.hid (PYZ.out.below hb (Nat.le_refl _)))); (try (replace C20 := Lib.hid (blk_below hb (blk_lt C20.out) C20.out))); (try (replace PXYZ := Lib.hid (PXYZ.out.below hb (Nat.le_refl _)))); (try (replace C25 := Lib.hid (blk_below hb (blk_lt C25.out) C25.out))); (try (replace PXZ := Lib.hid (PXZ.out.below hb (Nat.le_refl _)))); (try (replace C27 := Lib.hid (blk_below hb (blk_lt C27.out) C27.out))); (try (replace PS := Lib.hid (PS.out.below hb (Nat.le_refl _)))); (try (replace PX1 := Lib.hid (PX1.out.below hb (Nat.le_refl _)))); rw [HYZ.out.1] at hn; obtain ⟨AYZ, cYZ, rfl, hq1, hq2⟩ := hn; have PYZ := Lib.hid (show NatIs V1 _ bd from ⟨AYZ, cYZ, rfl, hq1, hq2⟩); clear hq1 hq2; have h := HF.out _ HBV.out; clear hb
          refine hK.out _ _ h (fun hHeld => ?_)
          clear hK K
          try simp only [Act.put, List.setIfInBounds_toArray, List.set_cons_zero, List.set_cons_succ]
          refine wpAnyD_two (i := 20) (j := 25) (oi := { dst := some 78, op := Op.buildSlice 47 1 #[(0, Operand.tmp 77)], type := 47, pos := "law.go:148", after := #[{ on := 19, ground := Ground.data }, { on := 14, ground := Ground.guard }], guard := some (14, true) }) (oj := { dst := some 83, op := Op.buildSlice 47 1 #[(0, Operand.tmp 82)], type := 47, pos := "law.go:148", after := #[{ on := 24, ground := Ground.data }, { on := 14, ground := Ground.guard }], guard := some (14, true) }) (by kernel_rfl) rfl rfl (by rfl) (by rfl) (fun K hK => ?_) (fun K hK => ?_)
          ·
            go_simp; refine gen_alloc HBV.out (fun V5 hb hci => ?_); replace HBV := Lib.hid (HBV.out.trans (hb.mono HBV.out.size)); (try (replace PYX := Lib.hid (PYX.out.below hb (Nat.le_refl _)))); (try (replace C8 := Lib.hid (blk_below hb (blk_lt C8.out) C8.out))); (try (replace C18 := Lib.hid (blk_below hb (blk_lt C18.out) C18.out))); (try (replace PYZ := Lib.hid (PYZ.out.below hb (Nat.le_refl _)))); (try (replace C20 := Lib.hid (blk_below hb (blk_lt C20.out) C20.out))); (try (replace PXYZ := Lib.hid (PXYZ.out.below hb (Nat.le_refl _)))); (try (replace C25 := Lib.hid (blk_below hb (blk_lt C25.out) C25.out))); (try (replace PXZ := Lib.hid (PXZ.out.below hb (Nat.le_refl _)))); (try (replace C27 := Lib.hid (blk_below hb (blk_lt C27.out) C27.out))); (try (replace PS := Lib.hid (PS.out.below hb (Nat.le_refl _)))); (try (replace PX1 := Lib.hid (PX1.out.below hb (Nat.le_refl _)))); have C20 := Lib.hid hci; have h := HF.out _ HBV.out; clear hb hci
            refine hK.out _ _ h (fun hHeld => ?_)
            clear hK K
            try simp only [Act.put, List.setIfInBounds_toArray, List.set_cons_zero, List.set_cons_succ]
            refine wpAnyD_two (i := 21) (j := 25) (oi := { dst := some 79, op := Op.call { callee := Callee.value (Operand.func 31), args := #[Operand.tmp 73, Operand.tmp 78], argTypes := #[26, 47] }, type := 26, pos := "law.go:148", after := #[{ on := 15, ground := Ground.data }, { on := 20, ground := Ground.data }, { on := 19, ground := Ground.chain }, { on := 14, ground := Ground.guard }], guard := some (14, true) }) (oj := { dst := some 83, op := Op.buildSlice 47 1 #[(0, Operand.tmp 82)], type := 47, pos := "law.go:148", after := #[{ on := 24, ground := Ground.data }, { on := 14, ground := Ground.guard }], guard := some (14, true) }) (by kernel_rfl) rfl rfl (by rfl) (by rfl) (fun K hK => ?_) (fun K hK => ?_)
            ·
              go_simp; refine (product_any _ a [bd] _ 1 _ (HNX.out _ HBV.out) (nats_one PYZ.out C20.out) (by simp) (one_prod Lq.out.1 (by rw [HXYZ.out.2]; exact Lq.out.2.2.2.2.2.2)) (one_mem Lq.out.2.2.2.2.2.1)).mono ?_; rintro e V1 ⟨u3, rfl, hn, hb⟩; replace HBV := Lib.hid (HBV.out.trans (hb.mono HBV.out.size)); (try (replace PYX := Lib.hid (PYX.out.below hb (Nat.le_refl _)))); (try (replace C8 := Lib.hid (blk_below hb (blk_lt C8.out) C8.out))); (try (replace C18 := Lib.hid (blk_below hb (blk_lt C18.out) C18.out))); (try (replace PYZ := Lib.hid (PYZ.out.below hb (Nat.le_refl _)))); (try (replace C20 := Lib.hid (blk_below hb (blk_lt C20.out) C20.out))); (try (replace PXYZ := Lib.hid (PXYZ.out.below hb (Nat.le_refl _)))); (try (replace C25 := Lib.hid (blk_below hb (blk_lt C25.out) C25.out))); (try (replace PXZ := Lib.hid (PXZ.out.below hb (Nat.le_refl _)))); (try (replace C27 := Lib.hid (blk_below hb (blk_lt C27.out) C27.out))); (try (replace PS := Lib.hid (PS.out.below hb (Nat.le_refl _)))); (try (replace PX1 := Lib.hid (PX1.out.below hb (Nat.le_refl _)))); rw [HXYZ.out.1] at hn; have PXYZ := Lib.hid hn; clear hn; have h := HF.out _ HBV.out; clear hb
              refine hK.out _ _ h (fun hHeld => ?_)
              clear hK K
              try simp only [Act.put, List.setIfInBounds_toArray, List.set_cons_zero, List.set_cons_succ]
              refine wpAnyD_one (i := 25) (o := { dst := some 83, op := Op.buildSlice 47 1 #[(0, Operand.tmp 82)], type := 47, pos := "law.go:148", after := #[{ on := 24, ground := Ground.data }, { on := 14, ground := Ground.guard }], guard := some (14, true) }) (by kernel_rfl) rfl (by rfl) (fun K hK => ?_)
              go_simp; refine gen_alloc HBV.out (fun V5 hb hci => ?_); replace HBV := Lib.hid (HBV.out.trans (hb.mono HBV.out.size)); (try (replace PYX := Lib.hid (PYX.out.below hb (Nat.le_refl _)))); (try (replace C8 := Lib.hid (blk_below hb (blk_lt C8.out) C8.out))); (try (replace C18 := Lib.hid (blk_below hb (blk_lt C18.out) C18.out))); (try (replace PYZ := Lib.hid (PYZ.out.below hb (Nat.le_refl _)))); (try (replace C20 := Lib.hid (blk_below hb (blk_lt C20.out) C20.out))); (try (replace PXYZ := Lib.hid (PXYZ.out.below hb (Nat.le_refl _)))); (try (replace C25 := Lib.hid (blk_below hb (blk_lt C25.out) C25.out))); (try (replace PXZ := Lib.hid (PXZ.out.below hb (Nat.le_refl _)))); (try (replace C27 := Lib.hid (blk_below hb (blk_lt C27.out) C27.out))); (try (replace PS := Lib.hid (PS.out.below hb (Nat.le_refl _)))); (try (replace PX1 := Lib.hid (PX1.out.below hb (Nat.le_refl _)))); have C25 := Lib.hid hci; have h := HF.out _ HBV.out; clear hb hci
              refine hK.out _ _ h (fun hHeld => ?_)
              clear hK K
              try simp only [Act.put, List.setIfInBounds_toArray, List.set_cons_zero, List.set_cons_succ]
              refine wpAnyD_one (i := 26) (o := { dst := some 84, op := Op.call { callee := Callee.value (Operand.func 31), args := #[Operand.tmp 81, Operand.tmp 83], argTypes := #[26, 47] }, type := 26, pos := "law.go:148", after := #[{ on := 23, ground := Ground.data }, { on := 25, ground := Ground.data }, { on := 21, ground := Ground.chain }, { on := 14, ground := Ground.guard }], guard := some (14, true) }) (by kernel_rfl) rfl (by rfl) (fun K hK => ?_)
              go_simp; refine (product_any _ a [d] _ 1 _ (HNX.out _ HBV.out) (nats_one (HNZ.out _ HBV.out) C25.out) (by simp) (one_prod Lq.out.1 (by rw [HXZ.out.2]; exact Lq.out.2.2.2.2.1)) (one_mem Lq.out.2.2.1)).mono ?_; rintro e V1 ⟨u4, rfl, hn, hb⟩; replace HBV := Lib.hid (HBV.out.trans (hb.mono HBV.out.size)); (try (replace PYX := Lib.hid (PYX.out.below hb (Nat.le_refl _)))); (try (replace C8 := Lib.hid (blk_below hb (blk_lt C8.out) C8.out))); (try (replace C18 := Lib.hid (blk_below hb (blk_lt C18.out) C18.out))); (try (replace PYZ := Lib.hid (PYZ.out.below hb (Nat.le_refl _)))); (try (replace C20 := Lib.hid (blk_below hb (blk_lt C20.out) C20.out))); (try (replace PXYZ := Lib.hid (PXYZ.out.below hb (Nat.le_refl _)))); (try (replace C25 := Lib.hid (blk_below hb (blk_lt C25.out) C25.out))); (try (replace PXZ := Lib.hid (PXZ.out.below hb (Nat.le_refl _)))); (try (replace C27 := Lib.hid (blk_below hb (blk_lt C27.out) C27.out))); (try (replace PS := Lib.hid (PS.out.below hb (Nat.le_refl _)))); (try (replace PX1 := Lib.hid (PX1.out.below hb (Nat.le_refl _)))); rw [HXZ.out.1] at hn; obtain ⟨AXZ, cXZ, rfl, hq1, hq2⟩ := hn; have PXZ := Lib.hid (show NatIs V1 _ ad from ⟨AXZ, cXZ, rfl, hq1, hq2⟩); clear hq1 hq2; have h := HF.out _ HBV.out; clear hb
              refine hK.out _ _ h (fun hHeld => ?_)
              clear hK K
              try simp only [Act.put, List.setIfInBounds_toArray, List.set_cons_zero, List.set_cons_succ]
              refine wpAnyD_one (i := 27) (o := { dst := some 85, op := Op.buildSlice 47 1 #[(0, Operand.tmp 84)], type := 47, pos := "law.go:148", after := #[{ on := 26, ground := Ground.data }, { on := 14, ground := Ground.guard }], guard := some (14, true) }) (by kernel_rfl) rfl (by rfl) (fun K hK => ?_)
              go_simp; refine gen_alloc HBV.out (fun V5 hb hci => ?_); replace HBV := Lib.hid (HBV.out.trans (hb.mono HBV.out.size)); (try (replace PYX := Lib.hid (PYX.out.below hb (Nat.le_refl _)))); (try (replace C8 := Lib.hid (blk_below hb (blk_lt C8.out) C8.out))); (try (replace C18 := Lib.hid (blk_below hb (blk_lt C18.out) C18.out))); (try (replace PYZ := Lib.hid (PYZ.out.below hb (Nat.le_refl _)))); (try (replace C20 := Lib.hid (blk_below hb (blk_lt C20.out) C20.out))); (try (replace PXYZ := Lib.hid (PXYZ.out.below hb (Nat.le_refl _)))); (try (replace C25 := Lib.hid (blk_below hb (blk_lt C25.out) C25.out))); (try (replace PXZ := Lib.hid (PXZ.out.below hb (Nat.le_refl _)))); (try (replace C27 := Lib.hid (blk_below hb (blk_lt C27.out) C27.out))); (try (replace PS := Lib.hid (PS.out.below hb (Nat.le_refl _)))); (try (replace PX1 := Lib.hid (PX1.out.below hb (Nat.le_refl _)))); have C27 := Lib.hid hci; have h := HF.out _ HBV.out; clear hb hci
              refine hK.out _ _ h (fun hHeld => ?_)
              clear hK K
              try simp only [Act.put, List.setIfInBounds_toArray, List.set_cons_zero, List.set_cons_succ]
              refine wpAnyD_one (i := 28) (o := { dst := some 86, op := Op.call { callee := Callee.value (Operand.func 25), args := #[Operand.tmp 80, Operand.tmp 85], argTypes := #[26, 47] }, type := 26, pos := "law.go:148", after := #[{ on := 22, ground := Ground.data }, { on := 27, ground := Ground.data }, { on := 26, ground := Ground.chain }, { on := 14, ground := Ground.guard }], guard := some (14, true) }) (by kernel_rfl) rfl (by rfl) (fun K hK => ?_)
              go_simp; refine (add_any _ ab [ad] _ 1 _ (HNP.out _ HBV.out) (nats_one PXZ.out C27.out) (by simp) (one_sum (by rw [HSM.out.2]; exact Lq.out.2.2.2.2.2.2)) (one_mem Lq.out.2.2.2.2.1)).mono ?_; rintro e V1 ⟨u5, rfl, hn, hb⟩; replace HBV := Lib.hid (HBV.out.trans (hb.mono HBV.out.size)); (try (replace PYX := Lib.hid (PYX.out.below hb (Nat.le_refl _)))); (try (replace C8 := Lib.hid (blk_below hb (blk_lt C8.out) C8.out))); (try (replace C18 := Lib.hid (blk_below hb (blk_lt C18.out) C18.out))); (try (replace PYZ := Lib.hid (PYZ.out.below hb (Nat.le_refl _)))); (try (replace C20 := Lib.hid (blk_below hb (blk_lt C20.out) C20.out))); (try (replace PXYZ := Lib.hid (PXYZ.out.below hb (Nat.le_refl _)))); (try (replace C25 := Lib.hid (blk_below hb (blk_lt C25.out) C25.out))); (try (replace PXZ := Lib.hid (PXZ.out.below hb (Nat.le_refl _)))); (try (replace C27 := Lib.hid (blk_below hb (blk_lt C27.out) C27.out))); (try (replace PS := Lib.hid (PS.out.below hb (Nat.le_refl _)))); (try (replace PX1 := Lib.hid (PX1.out.below hb (Nat.le_refl _)))); rw [HSM.out.1] at hn; have PS := Lib.hid hn; clear hn; have h := HF.out _ HBV.out; clear hb
              refine hK.out _ _ h (fun hHeld => ?_)
              clear hK K
              try simp only [Act.put, List.setIfInBounds_toArray, List.set_cons_zero, List.set_cons_succ]
              refine wpAnyD_one (i := 29) (o := { dst := some 87, op := Op.call { callee := Callee.value (Operand.func 16), args := #[Operand.tmp 79, Operand.tmp 86], argTypes := #[26, 26] }, type := 3, pos := "law.go:148", after := #[{ on := 21, ground := Ground.data }, { on := 28, ground := Ground.data }, { on := 28, ground := Ground.chain }, { on := 14, ground := Ground.guard }], guard := some (14, true) }) (by kernel_rfl) rfl (by rfl) (fun K hK => ?_)
              go_simp; refine (compare_any u3 u5 s s _ PXYZ.out PS.out Lq.out.2.2.2.2.2.2 Lq.out.2.2.2.2.2.2).mono ?_; rintro e V1 ⟨rfl, hb⟩; replace HBV := Lib.hid (HBV.out.trans (hb.mono HBV.out.size)); (try (replace PYX := Lib.hid (PYX.out.below hb (Nat.le_refl _)))); (try (replace C8 := Lib.hid (blk_below hb (blk_lt C8.out) C8.out))); (try (replace C18 := Lib.hid (blk_below hb (blk_lt C18.out) C18.out))); (try (replace PYZ := Lib.hid (PYZ.out.below hb (Nat.le_refl _)))); (try (replace C20 := Lib.hid (blk_below hb (blk_lt C20.out) C20.out))); (try (replace PXYZ := Lib.hid (PXYZ.out.below hb (Nat.le_refl _)))); (try (replace C25 := Lib.hid (blk_below hb (blk_lt C25.out) C25.out))); (try (replace PXZ := Lib.hid (PXZ.out.below hb (Nat.le_refl _)))); (try (replace C27 := Lib.hid (blk_below hb (blk_lt C27.out) C27.out))); (try (replace PS := Lib.hid (PS.out.below hb (Nat.le_refl _)))); (try (replace PX1 := Lib.hid (PX1.out.below hb (Nat.le_refl _)))); rw [show cmpN s s = 0 by unfold cmpN; rw [if_neg (by omega), if_neg (by omega)]]; have h := HF.out _ HBV.out; clear hb
              refine hK.out _ _ h (fun hHeld => ?_)
              clear hK K
              try simp only [Act.put, List.setIfInBounds_toArray, List.set_cons_zero, List.set_cons_succ]
              refine wpAnyD_takeP (i := 30) (oi := { dst := some 88, op := Op.binOp BinOp.eql 3 (Operand.tmp 87) (Operand.const (Value.int IntKind.i64 0)) 3, type := 4, pos := "law.go:148", after := #[{ on := 29, ground := Ground.data }, { on := 14, ground := Ground.guard }], guard := some (14, true) }) (d := 88) (v := ?_) rfl rfl (by kernel_rfl) (by kernel_rfl) (by kernel_rfl) (fun _ _ _ h => h) (Or.inl ⟨by rfl, ?_⟩) ?_
              rotate_left
              · (intro w' _; go_simp; (try with_reducible rfl))
              simp only [List.setIfInBounds_toArray, List.set_cons_zero, List.set_cons_succ]
              refine wpAnyD_takeP (i := 31) (oi := { dst := some 89, op := Op.pick (Operand.tmp 72) (Operand.tmp 88) (Operand.const (Value.bool false)), type := 4, pos := "law.go:148", after := #[{ on := 14, ground := Ground.data }, { on := 30, ground := Ground.data }], guard := none }) (d := 89) (v := ?_) rfl rfl (by kernel_rfl) (by kernel_rfl) (by kernel_rfl) (fun _ _ _ h => h) (Or.inl ⟨by rfl, ?_⟩) ?_
              rotate_left
              · (intro w' _; go_simp; (try with_reducible rfl))
              simp only [List.setIfInBounds_toArray, List.set_cons_zero, List.set_cons_succ]
              refine wpAnyD_takeP (i := 32) (oi := { dst := some 90, op := Op.move (Operand.tmp 89), type := 4, pos := "law.go:148", after := #[{ on := 31, ground := Ground.data }, { on := 29, ground := Ground.chain }], guard := none }) (d := 90) (v := ?_) rfl rfl (by kernel_rfl) (by kernel_rfl) (by kernel_rfl) (fun _ _ _ h => h) (Or.inl ⟨by rfl, ?_⟩) ?_
              rotate_left
              · (intro w' _; go_simp; (try with_reducible rfl))
              simp only [List.setIfInBounds_toArray, List.set_cons_zero, List.set_cons_succ]
              refine wpAnyD_takeD (i := 33) (oi := { dst := some 91, op := Op.load 26 (Operand.tmp 7), type := 26, pos := "law.go:148", after := #[{ on := 32, ground := Ground.guard }], guard := some (32, true) }) (d := 91) (v := ?_) rfl rfl (by kernel_rfl) (by kernel_rfl) (by kernel_rfl) (by kernel_rfl) (fun _ _ _ h => h) (Or.inl ⟨by rfl, ?_⟩) hHeld ?_
              rotate_left
              · (intro w' hSw; (try dsimp only at hSw); go_simp; (try with_reducible rfl))
              simp only [List.setIfInBounds_toArray, List.set_cons_zero, List.set_cons_succ]
              refine wpAnyD_takeD (i := 35) (oi := { dst := some 93, op := Op.load 26 (Operand.tmp 7), type := 26, pos := "law.go:148", after := #[{ on := 32, ground := Ground.guard }], guard := some (32, true) }) (d := 93) (v := ?_) rfl rfl (by kernel_rfl) (by kernel_rfl) (by kernel_rfl) (by kernel_rfl) (fun _ _ _ h => h) (Or.inl ⟨by rfl, ?_⟩) hHeld ?_
              rotate_left
              · (intro w' hSw; (try dsimp only at hSw); go_simp; (try with_reducible rfl))
              simp only [List.setIfInBounds_toArray, List.set_cons_zero, List.set_cons_succ]
              refine wpAnyD_one (i := 34) (o := { dst := some 92, op := Op.call { callee := Callee.value (Operand.func 31), args := #[Operand.tmp 91, Operand.const (Value.slice none 0 0)], argTypes := #[26, 47] }, type := 26, pos := "law.go:148", after := #[{ on := 33, ground := Ground.data }, { on := 32, ground := Ground.chain }, { on := 32, ground := Ground.guard }], guard := some (32, true) }) (by kernel_rfl) rfl (by rfl) (fun K hK => ?_)
              go_simp; refine (product_any _ a [] none 0 _ (HNX.out _ HBV.out) (fun i n hi => by simp at hi) (by simp) (fun k hk => by simpa [prodL] using Lq.out.1) (by simp)).mono ?_; rintro e V1 ⟨u6, rfl, hn, hb⟩; replace HBV := Lib.hid (HBV.out.trans (hb.mono HBV.out.size)); (try (replace PYX := Lib.hid (PYX.out.below hb (Nat.le_refl _)))); (try (replace C8 := Lib.hid (blk_below hb (blk_lt C8.out) C8.out))); (try (replace C18 := Lib.hid (blk_below hb (blk_lt C18.out) C18.out))); (try (replace PYZ := Lib.hid (PYZ.out.below hb (Nat.le_refl _)))); (try (replace C20 := Lib.hid (blk_below hb (blk_lt C20.out) C20.out))); (try (replace PXYZ := Lib.hid (PXYZ.out.below hb (Nat.le_refl _)))); (try (replace C25 := Lib.hid (blk_below hb (blk_lt C25.out) C25.out))); (try (replace PXZ := Lib.hid (PXZ.out.below hb (Nat.le_refl _)))); (try (replace C27 := Lib.hid (blk_below hb (blk_lt C27.out) C27.out))); (try (replace PS := Lib.hid (PS.out.below hb (Nat.le_refl _)))); (try (replace PX1 := Lib.hid (PX1.out.below hb (Nat.le_refl _)))); rw [HX1.out] at hn; have PX1 := Lib.hid hn; clear hn; have h := HF.out _ HBV.out; clear hb
              refine hK.out _ _ h (fun hHeld => ?_)
              clear hK K
              try simp only [Act.put, List.setIfInBounds_toArray, List.set_cons_zero, List.set_cons_succ]
              refine wpAnyD_one (i := 36) (o := { dst := some 94, op := Op.call { callee := Callee.value (Operand.func 16), args := #[Operand.tmp 92, Operand.tmp 93], argTypes := #[26, 26] }, type := 3, pos := "law.go:148", after := #[{ on := 34, ground := Ground.data }, { on := 35, ground := Ground.data }, { on := 34, ground := Ground.chain }, { on := 32, ground := Ground.guard }], guard := some (32, true) }) (by kernel_rfl) rfl (by rfl) (fun K hK => ?_)
              go_simp; refine (compare_any u6 _ a a _ PX1.out (HNX.out _ HBV.out) Lq.out.1 Lq.out.1).mono ?_; rintro e V1 ⟨rfl, hb⟩; replace HBV := Lib.hid (HBV.out.trans (hb.mono HBV.out.size)); (try (replace PYX := Lib.hid (PYX.out.below hb (Nat.le_refl _)))); (try (replace C8 := Lib.hid (blk_below hb (blk_lt C8.out) C8.out))); (try (replace C18 := Lib.hid (blk_below hb (blk_lt C18.out) C18.out))); (try (replace PYZ := Lib.hid (PYZ.out.below hb (Nat.le_refl _)))); (try (replace C20 := Lib.hid (blk_below hb (blk_lt C20.out) C20.out))); (try (replace PXYZ := Lib.hid (PXYZ.out.below hb (Nat.le_refl _)))); (try (replace C25 := Lib.hid (blk_below hb (blk_lt C25.out) C25.out))); (try (replace PXZ := Lib.hid (PXZ.out.below hb (Nat.le_refl _)))); (try (replace C27 := Lib.hid (blk_below hb (blk_lt C27.out) C27.out))); (try (replace PS := Lib.hid (PS.out.below hb (Nat.le_refl _)))); (try (replace PX1 := Lib.hid (PX1.out.below hb (Nat.le_refl _)))); rw [show cmpN a a = 0 by unfold cmpN; rw [if_neg (by omega), if_neg (by omega)]]; have h := HF.out _ HBV.out; clear hb
              refine hK.out _ _ h (fun hHeld => ?_)
              clear hK K
              try simp only [Act.put, List.setIfInBounds_toArray, List.set_cons_zero, List.set_cons_succ]
              refine wpAnyD_takeP (i := 37) (oi := { dst := some 95, op := Op.binOp BinOp.eql 3 (Operand.tmp 94) (Operand.const (Value.int IntKind.i64 0)) 3, type := 4, pos := "law.go:148", after := #[{ on := 36, ground := Ground.data }, { on := 32, ground := Ground.guard }], guard := some (32, true) }) (d := 95) (v := ?_) rfl rfl (by kernel_rfl) (by kernel_rfl) (by kernel_rfl) (fun _ _ _ h => h) (Or.inl ⟨by rfl, ?_⟩) ?_
              rotate_left
              · (intro w' _; go_simp; (try with_reducible rfl))
              simp only [List.setIfInBounds_toArray, List.set_cons_zero, List.set_cons_succ]
              refine wpAnyD_takeP (i := 38) (oi := { dst := some 96, op := Op.pick (Operand.tmp 90) (Operand.tmp 95) (Operand.const (Value.bool false)), type := 4, pos := "law.go:148", after := #[{ on := 32, ground := Ground.data }, { on := 37, ground := Ground.data }], guard := none }) (d := 96) (v := ?_) rfl rfl (by kernel_rfl) (by kernel_rfl) (by kernel_rfl) (fun _ _ _ h => h) (Or.inl ⟨by rfl, ?_⟩) ?_
              rotate_left
              · (intro w' _; go_simp; (try with_reducible rfl))
              simp only [List.setIfInBounds_toArray, List.set_cons_zero, List.set_cons_succ]
              refine wpAnyD_takeP (i := 39) (oi := { dst := some 97, op := Op.move (Operand.tmp 96), type := 4, pos := "law.go:148", after := #[{ on := 38, ground := Ground.data }, { on := 36, ground := Ground.chain }], guard := none }) (d := 97) (v := ?_) rfl rfl (by kernel_rfl) (by kernel_rfl) (by kernel_rfl) (fun _ _ _ h => h) (Or.inl ⟨by rfl, ?_⟩) ?_
              rotate_left
              · (intro w' _; go_simp; (try with_reducible rfl))
              simp only [List.setIfInBounds_toArray, List.set_cons_zero, List.set_cons_succ]
              refine wpAnyD_one (i := 40) (o := { dst := some 98, op := Op.call { callee := Callee.value (Operand.func 11), args := #[], argTypes := #[] }, type := 4, pos := "law.go:148", after := #[{ on := 39, ground := Ground.chain }, { on := 39, ground := Ground.guard }], guard := some (39, true) }) (by kernel_rfl) rfl (by rfl) (fun K hK => ?_)
              go_simp; refine (awake_any _).mono ?_; rintro e V1 ⟨rfl, hb⟩; replace HBV := Lib.hid (HBV.out.trans (hb.mono HBV.out.size)); (try (replace PYX := Lib.hid (PYX.out.below hb (Nat.le_refl _)))); (try (replace C8 := Lib.hid (blk_below hb (blk_lt C8.out) C8.out))); (try (replace C18 := Lib.hid (blk_below hb (blk_lt C18.out) C18.out))); (try (replace PYZ := Lib.hid (PYZ.out.below hb (Nat.le_refl _)))); (try (replace C20 := Lib.hid (blk_below hb (blk_lt C20.out) C20.out))); (try (replace PXYZ := Lib.hid (PXYZ.out.below hb (Nat.le_refl _)))); (try (replace C25 := Lib.hid (blk_below hb (blk_lt C25.out) C25.out))); (try (replace PXZ := Lib.hid (PXZ.out.below hb (Nat.le_refl _)))); (try (replace C27 := Lib.hid (blk_below hb (blk_lt C27.out) C27.out))); (try (replace PS := Lib.hid (PS.out.below hb (Nat.le_refl _)))); (try (replace PX1 := Lib.hid (PX1.out.below hb (Nat.le_refl _)))); have h := HF.out _ HBV.out; clear hb
              refine hK.out _ _ h (fun hHeld => ?_)
              clear hK K
              try simp only [Act.put, List.setIfInBounds_toArray, List.set_cons_zero, List.set_cons_succ]
              refine wpAnyD_takeP (i := 41) (oi := { dst := some 99, op := Op.pick (Operand.tmp 97) (Operand.tmp 98) (Operand.const (Value.bool false)), type := 4, pos := "law.go:148", after := #[{ on := 39, ground := Ground.data }, { on := 40, ground := Ground.data }], guard := none }) (d := 99) (v := ?_) rfl rfl (by kernel_rfl) (by kernel_rfl) (by kernel_rfl) (fun _ _ _ h => h) (Or.inl ⟨by rfl, ?_⟩) ?_
              rotate_left
              · (intro w' _; go_simp; (try with_reducible rfl))
              simp only [List.setIfInBounds_toArray, List.set_cons_zero, List.set_cons_succ]
              refine wpAnyD_takeP (i := 42) (oi := { dst := some 6, op := Op.assign (Operand.tmp 99), type := 4, pos := "law.go:148", after := #[{ on := 41, ground := Ground.data }, { on := 40, ground := Ground.chain }, { on := 0, ground := Ground.phase }, { on := 1, ground := Ground.phase }, { on := 2, ground := Ground.phase }, { on := 3, ground := Ground.phase }, { on := 4, ground := Ground.phase }, { on := 5, ground := Ground.phase }, { on := 6, ground := Ground.phase }, { on := 7, ground := Ground.phase }, { on := 8, ground := Ground.phase }, { on := 9, ground := Ground.phase }, { on := 10, ground := Ground.phase }, { on := 11, ground := Ground.phase }, { on := 12, ground := Ground.phase }, { on := 13, ground := Ground.phase }, { on := 14, ground := Ground.phase }, { on := 15, ground := Ground.phase }, { on := 16, ground := Ground.phase }, { on := 17, ground := Ground.phase }, { on := 18, ground := Ground.phase }, { on := 19, ground := Ground.phase }, { on := 20, ground := Ground.phase }, { on := 21, ground := Ground.phase }, { on := 22, ground := Ground.phase }, { on := 23, ground := Ground.phase }, { on := 24, ground := Ground.phase }, { on := 25, ground := Ground.phase }, { on := 26, ground := Ground.phase }, { on := 27, ground := Ground.phase }, { on := 28, ground := Ground.phase }, { on := 29, ground := Ground.phase }, { on := 30, ground := Ground.phase }, { on := 31, ground := Ground.phase }, { on := 32, ground := Ground.phase }, { on := 33, ground := Ground.phase }, { on := 34, ground := Ground.phase }, { on := 35, ground := Ground.phase }, { on := 36, ground := Ground.phase }, { on := 37, ground := Ground.phase }, { on := 38, ground := Ground.phase }, { on := 39, ground := Ground.phase }, { on := 40, ground := Ground.phase }, { on := 41, ground := Ground.phase }], guard := none }) (d := 6) (v := ?_) rfl rfl (by kernel_rfl) (by kernel_rfl) (by kernel_rfl) (fun _ _ _ h => h) (Or.inl ⟨by rfl, ?_⟩) ?_
              rotate_left
              · (intro w' _; go_simp; (try with_reducible rfl))
              simp only [List.setIfInBounds_toArray, List.set_cons_zero, List.set_cons_succ]
              refine wpAnyD_done (by kernel_rfl) ?_ _
              go_wp2_with fail
              go_ret
              exact ⟨by simp, HBD.out.trans (HBV.out.mono HBD.out.size)⟩
            ·
              go_simp; refine gen_alloc HBV.out (fun V5 hb hci => ?_); replace HBV := Lib.hid (HBV.out.trans (hb.mono HBV.out.size)); (try (replace PYX := Lib.hid (PYX.out.below hb (Nat.le_refl _)))); (try (replace C8 := Lib.hid (blk_below hb (blk_lt C8.out) C8.out))); (try (replace C18 := Lib.hid (blk_below hb (blk_lt C18.out) C18.out))); (try (replace PYZ := Lib.hid (PYZ.out.below hb (Nat.le_refl _)))); (try (replace C20 := Lib.hid (blk_below hb (blk_lt C20.out) C20.out))); (try (replace PXYZ := Lib.hid (PXYZ.out.below hb (Nat.le_refl _)))); (try (replace C25 := Lib.hid (blk_below hb (blk_lt C25.out) C25.out))); (try (replace PXZ := Lib.hid (PXZ.out.below hb (Nat.le_refl _)))); (try (replace C27 := Lib.hid (blk_below hb (blk_lt C27.out) C27.out))); (try (replace PS := Lib.hid (PS.out.below hb (Nat.le_refl _)))); (try (replace PX1 := Lib.hid (PX1.out.below hb (Nat.le_refl _)))); have C25 := Lib.hid hci; have h := HF.out _ HBV.out; clear hb hci
              refine hK.out _ _ h (fun hHeld => ?_)
              clear hK K
              try simp only [Act.put, List.setIfInBounds_toArray, List.set_cons_zero, List.set_cons_succ]
              refine wpAnyD_one (i := 21) (o := { dst := some 79, op := Op.call { callee := Callee.value (Operand.func 31), args := #[Operand.tmp 73, Operand.tmp 78], argTypes := #[26, 47] }, type := 26, pos := "law.go:148", after := #[{ on := 15, ground := Ground.data }, { on := 20, ground := Ground.data }, { on := 19, ground := Ground.chain }, { on := 14, ground := Ground.guard }], guard := some (14, true) }) (by kernel_rfl) rfl (by rfl) (fun K hK => ?_)
              go_simp; refine (product_any _ a [bd] _ 1 _ (HNX.out _ HBV.out) (nats_one PYZ.out C20.out) (by simp) (one_prod Lq.out.1 (by rw [HXYZ.out.2]; exact Lq.out.2.2.2.2.2.2)) (one_mem Lq.out.2.2.2.2.2.1)).mono ?_; rintro e V1 ⟨u3, rfl, hn, hb⟩; replace HBV := Lib.hid (HBV.out.trans (hb.mono HBV.out.size)); (try (replace PYX := Lib.hid (PYX.out.below hb (Nat.le_refl _)))); (try (replace C8 := Lib.hid (blk_below hb (blk_lt C8.out) C8.out))); (try (replace C18 := Lib.hid (blk_below hb (blk_lt C18.out) C18.out))); (try (replace PYZ := Lib.hid (PYZ.out.below hb (Nat.le_refl _)))); (try (replace C20 := Lib.hid (blk_below hb (blk_lt C20.out) C20.out))); (try (replace PXYZ := Lib.hid (PXYZ.out.below hb (Nat.le_refl _)))); (try (replace C25 := Lib.hid (blk_below hb (blk_lt C25.out) C25.out))); (try (replace PXZ := Lib.hid (PXZ.out.below hb (Nat.le_refl _)))); (try (replace C27 := Lib.hid (blk_below hb (blk_lt C27.out) C27.out))); (try (replace PS := Lib.hid (PS.out.below hb (Nat.le_refl _)))); (try (replace PX1 := Lib.hid (PX1.out.below hb (Nat.le_refl _)))); rw [HXYZ.out.1] at hn; have PXYZ := Lib.hid hn; clear hn; have h := HF.out _ HBV.out; clear hb
              refine hK.out _ _ h (fun hHeld => ?_)
              clear hK K
              try simp only [Act.put, List.setIfInBounds_toArray, List.set_cons_zero, List.set_cons_succ]
              refine wpAnyD_one (i := 26) (o := { dst := some 84, op := Op.call { callee := Callee.value (Operand.func 31), args := #[Operand.tmp 81, Operand.tmp 83], argTypes := #[26, 47] }, type := 26, pos := "law.go:148", after := #[{ on := 23, ground := Ground.data }, { on := 25, ground := Ground.data }, { on := 21, ground := Ground.chain }, { on := 14, ground := Ground.guard }], guard := some (14, true) }) (by kernel_rfl) rfl (by rfl) (fun K hK => ?_)
              go_simp; refine (product_any _ a [d] _ 1 _ (HNX.out _ HBV.out) (nats_one (HNZ.out _ HBV.out) C25.out) (by simp) (one_prod Lq.out.1 (by rw [HXZ.out.2]; exact Lq.out.2.2.2.2.1)) (one_mem Lq.out.2.2.1)).mono ?_; rintro e V1 ⟨u4, rfl, hn, hb⟩; replace HBV := Lib.hid (HBV.out.trans (hb.mono HBV.out.size)); (try (replace PYX := Lib.hid (PYX.out.below hb (Nat.le_refl _)))); (try (replace C8 := Lib.hid (blk_below hb (blk_lt C8.out) C8.out))); (try (replace C18 := Lib.hid (blk_below hb (blk_lt C18.out) C18.out))); (try (replace PYZ := Lib.hid (PYZ.out.below hb (Nat.le_refl _)))); (try (replace C20 := Lib.hid (blk_below hb (blk_lt C20.out) C20.out))); (try (replace PXYZ := Lib.hid (PXYZ.out.below hb (Nat.le_refl _)))); (try (replace C25 := Lib.hid (blk_below hb (blk_lt C25.out) C25.out))); (try (replace PXZ := Lib.hid (PXZ.out.below hb (Nat.le_refl _)))); (try (replace C27 := Lib.hid (blk_below hb (blk_lt C27.out) C27.out))); (try (replace PS := Lib.hid (PS.out.below hb (Nat.le_refl _)))); (try (replace PX1 := Lib.hid (PX1.out.below hb (Nat.le_refl _)))); rw [HXZ.out.1] at hn; obtain ⟨AXZ, cXZ, rfl, hq1, hq2⟩ := hn; have PXZ := Lib.hid (show NatIs V1 _ ad from ⟨AXZ, cXZ, rfl, hq1, hq2⟩); clear hq1 hq2; have h := HF.out _ HBV.out; clear hb
              refine hK.out _ _ h (fun hHeld => ?_)
              clear hK K
              try simp only [Act.put, List.setIfInBounds_toArray, List.set_cons_zero, List.set_cons_succ]
              refine wpAnyD_one (i := 27) (o := { dst := some 85, op := Op.buildSlice 47 1 #[(0, Operand.tmp 84)], type := 47, pos := "law.go:148", after := #[{ on := 26, ground := Ground.data }, { on := 14, ground := Ground.guard }], guard := some (14, true) }) (by kernel_rfl) rfl (by rfl) (fun K hK => ?_)
              go_simp; refine gen_alloc HBV.out (fun V5 hb hci => ?_); replace HBV := Lib.hid (HBV.out.trans (hb.mono HBV.out.size)); (try (replace PYX := Lib.hid (PYX.out.below hb (Nat.le_refl _)))); (try (replace C8 := Lib.hid (blk_below hb (blk_lt C8.out) C8.out))); (try (replace C18 := Lib.hid (blk_below hb (blk_lt C18.out) C18.out))); (try (replace PYZ := Lib.hid (PYZ.out.below hb (Nat.le_refl _)))); (try (replace C20 := Lib.hid (blk_below hb (blk_lt C20.out) C20.out))); (try (replace PXYZ := Lib.hid (PXYZ.out.below hb (Nat.le_refl _)))); (try (replace C25 := Lib.hid (blk_below hb (blk_lt C25.out) C25.out))); (try (replace PXZ := Lib.hid (PXZ.out.below hb (Nat.le_refl _)))); (try (replace C27 := Lib.hid (blk_below hb (blk_lt C27.out) C27.out))); (try (replace PS := Lib.hid (PS.out.below hb (Nat.le_refl _)))); (try (replace PX1 := Lib.hid (PX1.out.below hb (Nat.le_refl _)))); have C27 := Lib.hid hci; have h := HF.out _ HBV.out; clear hb hci
              refine hK.out _ _ h (fun hHeld => ?_)
              clear hK K
              try simp only [Act.put, List.setIfInBounds_toArray, List.set_cons_zero, List.set_cons_succ]
              refine wpAnyD_one (i := 28) (o := { dst := some 86, op := Op.call { callee := Callee.value (Operand.func 25), args := #[Operand.tmp 80, Operand.tmp 85], argTypes := #[26, 47] }, type := 26, pos := "law.go:148", after := #[{ on := 22, ground := Ground.data }, { on := 27, ground := Ground.data }, { on := 26, ground := Ground.chain }, { on := 14, ground := Ground.guard }], guard := some (14, true) }) (by kernel_rfl) rfl (by rfl) (fun K hK => ?_)
              go_simp; refine (add_any _ ab [ad] _ 1 _ (HNP.out _ HBV.out) (nats_one PXZ.out C27.out) (by simp) (one_sum (by rw [HSM.out.2]; exact Lq.out.2.2.2.2.2.2)) (one_mem Lq.out.2.2.2.2.1)).mono ?_; rintro e V1 ⟨u5, rfl, hn, hb⟩; replace HBV := Lib.hid (HBV.out.trans (hb.mono HBV.out.size)); (try (replace PYX := Lib.hid (PYX.out.below hb (Nat.le_refl _)))); (try (replace C8 := Lib.hid (blk_below hb (blk_lt C8.out) C8.out))); (try (replace C18 := Lib.hid (blk_below hb (blk_lt C18.out) C18.out))); (try (replace PYZ := Lib.hid (PYZ.out.below hb (Nat.le_refl _)))); (try (replace C20 := Lib.hid (blk_below hb (blk_lt C20.out) C20.out))); (try (replace PXYZ := Lib.hid (PXYZ.out.below hb (Nat.le_refl _)))); (try (replace C25 := Lib.hid (blk_below hb (blk_lt C25.out) C25.out))); (try (replace PXZ := Lib.hid (PXZ.out.below hb (Nat.le_refl _)))); (try (replace C27 := Lib.hid (blk_below hb (blk_lt C27.out) C27.out))); (try (replace PS := Lib.hid (PS.out.below hb (Nat.le_refl _)))); (try (replace PX1 := Lib.hid (PX1.out.below hb (Nat.le_refl _)))); rw [HSM.out.1] at hn; have PS := Lib.hid hn; clear hn; have h := HF.out _ HBV.out; clear hb
              refine hK.out _ _ h (fun hHeld => ?_)
              clear hK K
              try simp only [Act.put, List.setIfInBounds_toArray, List.set_cons_zero, List.set_cons_succ]
              refine wpAnyD_one (i := 29) (o := { dst := some 87, op := Op.call { callee := Callee.value (Operand.func 16), args := #[Operand.tmp 79, Operand.tmp 86], argTypes := #[26, 26] }, type := 3, pos := "law.go:148", after := #[{ on := 21, ground := Ground.data }, { on := 28, ground := Ground.data }, { on := 28, ground := Ground.chain }, { on := 14, ground := Ground.guard }], guard := some (14, true) }) (by kernel_rfl) rfl (by rfl) (fun K hK => ?_)
              go_simp; refine (compare_any u3 u5 s s _ PXYZ.out PS.out Lq.out.2.2.2.2.2.2 Lq.out.2.2.2.2.2.2).mono ?_; rintro e V1 ⟨rfl, hb⟩; replace HBV := Lib.hid (HBV.out.trans (hb.mono HBV.out.size)); (try (replace PYX := Lib.hid (PYX.out.below hb (Nat.le_refl _)))); (try (replace C8 := Lib.hid (blk_below hb (blk_lt C8.out) C8.out))); (try (replace C18 := Lib.hid (blk_below hb (blk_lt C18.out) C18.out))); (try (replace PYZ := Lib.hid (PYZ.out.below hb (Nat.le_refl _)))); (try (replace C20 := Lib.hid (blk_below hb (blk_lt C20.out) C20.out))); (try (replace PXYZ := Lib.hid (PXYZ.out.below hb (Nat.le_refl _)))); (try (replace C25 := Lib.hid (blk_below hb (blk_lt C25.out) C25.out))); (try (replace PXZ := Lib.hid (PXZ.out.below hb (Nat.le_refl _)))); (try (replace C27 := Lib.hid (blk_below hb (blk_lt C27.out) C27.out))); (try (replace PS := Lib.hid (PS.out.below hb (Nat.le_refl _)))); (try (replace PX1 := Lib.hid (PX1.out.below hb (Nat.le_refl _)))); rw [show cmpN s s = 0 by unfold cmpN; rw [if_neg (by omega), if_neg (by omega)]]; have h := HF.out _ HBV.out; clear hb
              refine hK.out _ _ h (fun hHeld => ?_)
              clear hK K
              try simp only [Act.put, List.setIfInBounds_toArray, List.set_cons_zero, List.set_cons_succ]
              refine wpAnyD_takeP (i := 30) (oi := { dst := some 88, op := Op.binOp BinOp.eql 3 (Operand.tmp 87) (Operand.const (Value.int IntKind.i64 0)) 3, type := 4, pos := "law.go:148", after := #[{ on := 29, ground := Ground.data }, { on := 14, ground := Ground.guard }], guard := some (14, true) }) (d := 88) (v := ?_) rfl rfl (by kernel_rfl) (by kernel_rfl) (by kernel_rfl) (fun _ _ _ h => h) (Or.inl ⟨by rfl, ?_⟩) ?_
              rotate_left
              · (intro w' _; go_simp; (try with_reducible rfl))
              simp only [List.setIfInBounds_toArray, List.set_cons_zero, List.set_cons_succ]
              refine wpAnyD_takeP (i := 31) (oi := { dst := some 89, op := Op.pick (Operand.tmp 72) (Operand.tmp 88) (Operand.const (Value.bool false)), type := 4, pos := "law.go:148", after := #[{ on := 14, ground := Ground.data }, { on := 30, ground := Ground.data }], guard := none }) (d := 89) (v := ?_) rfl rfl (by kernel_rfl) (by kernel_rfl) (by kernel_rfl) (fun _ _ _ h => h) (Or.inl ⟨by rfl, ?_⟩) ?_
              rotate_left
              · (intro w' _; go_simp; (try with_reducible rfl))
              simp only [List.setIfInBounds_toArray, List.set_cons_zero, List.set_cons_succ]
              refine wpAnyD_takeP (i := 32) (oi := { dst := some 90, op := Op.move (Operand.tmp 89), type := 4, pos := "law.go:148", after := #[{ on := 31, ground := Ground.data }, { on := 29, ground := Ground.chain }], guard := none }) (d := 90) (v := ?_) rfl rfl (by kernel_rfl) (by kernel_rfl) (by kernel_rfl) (fun _ _ _ h => h) (Or.inl ⟨by rfl, ?_⟩) ?_
              rotate_left
              · (intro w' _; go_simp; (try with_reducible rfl))
              simp only [List.setIfInBounds_toArray, List.set_cons_zero, List.set_cons_succ]
              refine wpAnyD_takeD (i := 33) (oi := { dst := some 91, op := Op.load 26 (Operand.tmp 7), type := 26, pos := "law.go:148", after := #[{ on := 32, ground := Ground.guard }], guard := some (32, true) }) (d := 91) (v := ?_) rfl rfl (by kernel_rfl) (by kernel_rfl) (by kernel_rfl) (by kernel_rfl) (fun _ _ _ h => h) (Or.inl ⟨by rfl, ?_⟩) hHeld ?_
              rotate_left
              · (intro w' hSw; (try dsimp only at hSw); go_simp; (try with_reducible rfl))
              simp only [List.setIfInBounds_toArray, List.set_cons_zero, List.set_cons_succ]
              refine wpAnyD_takeD (i := 35) (oi := { dst := some 93, op := Op.load 26 (Operand.tmp 7), type := 26, pos := "law.go:148", after := #[{ on := 32, ground := Ground.guard }], guard := some (32, true) }) (d := 93) (v := ?_) rfl rfl (by kernel_rfl) (by kernel_rfl) (by kernel_rfl) (by kernel_rfl) (fun _ _ _ h => h) (Or.inl ⟨by rfl, ?_⟩) hHeld ?_
              rotate_left
              · (intro w' hSw; (try dsimp only at hSw); go_simp; (try with_reducible rfl))
              simp only [List.setIfInBounds_toArray, List.set_cons_zero, List.set_cons_succ]
              refine wpAnyD_one (i := 34) (o := { dst := some 92, op := Op.call { callee := Callee.value (Operand.func 31), args := #[Operand.tmp 91, Operand.const (Value.slice none 0 0)], argTypes := #[26, 47] }, type := 26, pos := "law.go:148", after := #[{ on := 33, ground := Ground.data }, { on := 32, ground := Ground.chain }, { on := 32, ground := Ground.guard }], guard := some (32, true) }) (by kernel_rfl) rfl (by rfl) (fun K hK => ?_)
              go_simp; refine (product_any _ a [] none 0 _ (HNX.out _ HBV.out) (fun i n hi => by simp at hi) (by simp) (fun k hk => by simpa [prodL] using Lq.out.1) (by simp)).mono ?_; rintro e V1 ⟨u6, rfl, hn, hb⟩; replace HBV := Lib.hid (HBV.out.trans (hb.mono HBV.out.size)); (try (replace PYX := Lib.hid (PYX.out.below hb (Nat.le_refl _)))); (try (replace C8 := Lib.hid (blk_below hb (blk_lt C8.out) C8.out))); (try (replace C18 := Lib.hid (blk_below hb (blk_lt C18.out) C18.out))); (try (replace PYZ := Lib.hid (PYZ.out.below hb (Nat.le_refl _)))); (try (replace C20 := Lib.hid (blk_below hb (blk_lt C20.out) C20.out))); (try (replace PXYZ := Lib.hid (PXYZ.out.below hb (Nat.le_refl _)))); (try (replace C25 := Lib.hid (blk_below hb (blk_lt C25.out) C25.out))); (try (replace PXZ := Lib.hid (PXZ.out.below hb (Nat.le_refl _)))); (try (replace C27 := Lib.hid (blk_below hb (blk_lt C27.out) C27.out))); (try (replace PS := Lib.hid (PS.out.below hb (Nat.le_refl _)))); (try (replace PX1 := Lib.hid (PX1.out.below hb (Nat.le_refl _)))); rw [HX1.out] at hn; have PX1 := Lib.hid hn; clear hn; have h := HF.out _ HBV.out; clear hb
              refine hK.out _ _ h (fun hHeld => ?_)
              clear hK K
              try simp only [Act.put, List.setIfInBounds_toArray, List.set_cons_zero, List.set_cons_succ]
              refine wpAnyD_one (i := 36) (o := { dst := some 94, op := Op.call { callee := Callee.value (Operand.func 16), args := #[Operand.tmp 92, Operand.tmp 93], argTypes := #[26, 26] }, type := 3, pos := "law.go:148", after := #[{ on := 34, ground := Ground.data }, { on := 35, ground := Ground.data }, { on := 34, ground := Ground.chain }, { on := 32, ground := Ground.guard }], guard := some (32, true) }) (by kernel_rfl) rfl (by rfl) (fun K hK => ?_)
              go_simp; refine (compare_any u6 _ a a _ PX1.out (HNX.out _ HBV.out) Lq.out.1 Lq.out.1).mono ?_; rintro e V1 ⟨rfl, hb⟩; replace HBV := Lib.hid (HBV.out.trans (hb.mono HBV.out.size)); (try (replace PYX := Lib.hid (PYX.out.below hb (Nat.le_refl _)))); (try (replace C8 := Lib.hid (blk_below hb (blk_lt C8.out) C8.out))); (try (replace C18 := Lib.hid (blk_below hb (blk_lt C18.out) C18.out))); (try (replace PYZ := Lib.hid (PYZ.out.below hb (Nat.le_refl _)))); (try (replace C20 := Lib.hid (blk_below hb (blk_lt C20.out) C20.out))); (try (replace PXYZ := Lib.hid (PXYZ.out.below hb (Nat.le_refl _)))); (try (replace C25 := Lib.hid (blk_below hb (blk_lt C25.out) C25.out))); (try (replace PXZ := Lib.hid (PXZ.out.below hb (Nat.le_refl _)))); (try (replace C27 := Lib.hid (blk_below hb (blk_lt C27.out) C27.out))); (try (replace PS := Lib.hid (PS.out.below hb (Nat.le_refl _)))); (try (replace PX1 := Lib.hid (PX1.out.below hb (Nat.le_refl _)))); rw [show cmpN a a = 0 by unfold cmpN; rw [if_neg (by omega), if_neg (by omega)]]; have h := HF.out _ HBV.out; clear hb
              refine hK.out _ _ h (fun hHeld => ?_)
              clear hK K
              try simp only [Act.put, List.setIfInBounds_toArray, List.set_cons_zero, List.set_cons_succ]
              refine wpAnyD_takeP (i := 37) (oi := { dst := some 95, op := Op.binOp BinOp.eql 3 (Operand.tmp 94) (Operand.const (Value.int IntKind.i64 0)) 3, type := 4, pos := "law.go:148", after := #[{ on := 36, ground := Ground.data }, { on := 32, ground := Ground.guard }], guard := some (32, true) }) (d := 95) (v := ?_) rfl rfl (by kernel_rfl) (by kernel_rfl) (by kernel_rfl) (fun _ _ _ h => h) (Or.inl ⟨by rfl, ?_⟩) ?_
              rotate_left
              · (intro w' _; go_simp; (try with_reducible rfl))
              simp only [List.setIfInBounds_toArray, List.set_cons_zero, List.set_cons_succ]
              refine wpAnyD_takeP (i := 38) (oi := { dst := some 96, op := Op.pick (Operand.tmp 90) (Operand.tmp 95) (Operand.const (Value.bool false)), type := 4, pos := "law.go:148", after := #[{ on := 32, ground := Ground.data }, { on := 37, ground := Ground.data }], guard := none }) (d := 96) (v := ?_) rfl rfl (by kernel_rfl) (by kernel_rfl) (by kernel_rfl) (fun _ _ _ h => h) (Or.inl ⟨by rfl, ?_⟩) ?_
              rotate_left
              · (intro w' _; go_simp; (try with_reducible rfl))
              simp only [List.setIfInBounds_toArray, List.set_cons_zero, List.set_cons_succ]
              refine wpAnyD_takeP (i := 39) (oi := { dst := some 97, op := Op.move (Operand.tmp 96), type := 4, pos := "law.go:148", after := #[{ on := 38, ground := Ground.data }, { on := 36, ground := Ground.chain }], guard := none }) (d := 97) (v := ?_) rfl rfl (by kernel_rfl) (by kernel_rfl) (by kernel_rfl) (fun _ _ _ h => h) (Or.inl ⟨by rfl, ?_⟩) ?_
              rotate_left
              · (intro w' _; go_simp; (try with_reducible rfl))
              simp only [List.setIfInBounds_toArray, List.set_cons_zero, List.set_cons_succ]
              refine wpAnyD_one (i := 40) (o := { dst := some 98, op := Op.call { callee := Callee.value (Operand.func 11), args := #[], argTypes := #[] }, type := 4, pos := "law.go:148", after := #[{ on := 39, ground := Ground.chain }, { on := 39, ground := Ground.guard }], guard := some (39, true) }) (by kernel_rfl) rfl (by rfl) (fun K hK => ?_)
              go_simp; refine (awake_any _).mono ?_; rintro e V1 ⟨rfl, hb⟩; replace HBV := Lib.hid (HBV.out.trans (hb.mono HBV.out.size)); (try (replace PYX := Lib.hid (PYX.out.below hb (Nat.le_refl _)))); (try (replace C8 := Lib.hid (blk_below hb (blk_lt C8.out) C8.out))); (try (replace C18 := Lib.hid (blk_below hb (blk_lt C18.out) C18.out))); (try (replace PYZ := Lib.hid (PYZ.out.below hb (Nat.le_refl _)))); (try (replace C20 := Lib.hid (blk_below hb (blk_lt C20.out) C20.out))); (try (replace PXYZ := Lib.hid (PXYZ.out.below hb (Nat.le_refl _)))); (try (replace C25 := Lib.hid (blk_below hb (blk_lt C25.out) C25.out))); (try (replace PXZ := Lib.hid (PXZ.out.below hb (Nat.le_refl _)))); (try (replace C27 := Lib.hid (blk_below hb (blk_lt C27.out) C27.out))); (try (replace PS := Lib.hid (PS.out.below hb (Nat.le_refl _)))); (try (replace PX1 := Lib.hid (PX1.out.below hb (Nat.le_refl _)))); have h := HF.out _ HBV.out; clear hb
              refine hK.out _ _ h (fun hHeld => ?_)
              clear hK K
              try simp only [Act.put, List.setIfInBounds_toArray, List.set_cons_zero, List.set_cons_succ]
              refine wpAnyD_takeP (i := 41) (oi := { dst := some 99, op := Op.pick (Operand.tmp 97) (Operand.tmp 98) (Operand.const (Value.bool false)), type := 4, pos := "law.go:148", after := #[{ on := 39, ground := Ground.data }, { on := 40, ground := Ground.data }], guard := none }) (d := 99) (v := ?_) rfl rfl (by kernel_rfl) (by kernel_rfl) (by kernel_rfl) (fun _ _ _ h => h) (Or.inl ⟨by rfl, ?_⟩) ?_
              rotate_left
              · (intro w' _; go_simp; (try with_reducible rfl))
              simp only [List.setIfInBounds_toArray, List.set_cons_zero, List.set_cons_succ]
              refine wpAnyD_takeP (i := 42) (oi := { dst := some 6, op := Op.assign (Operand.tmp 99), type := 4, pos := "law.go:148", after := #[{ on := 41, ground := Ground.data }, { on := 40, ground := Ground.chain }, { on := 0, ground := Ground.phase }, { on := 1, ground := Ground.phase }, { on := 2, ground := Ground.phase }, { on := 3, ground := Ground.phase }, { on := 4, ground := Ground.phase }, { on := 5, ground := Ground.phase }, { on := 6, ground := Ground.phase }, { on := 7, ground := Ground.phase }, { on := 8, ground := Ground.phase }, { on := 9, ground := Ground.phase }, { on := 10, ground := Ground.phase }, { on := 11, ground := Ground.phase }, { on := 12, ground := Ground.phase }, { on := 13, ground := Ground.phase }, { on := 14, ground := Ground.phase }, { on := 15, ground := Ground.phase }, { on := 16, ground := Ground.phase }, { on := 17, ground := Ground.phase }, { on := 18, ground := Ground.phase }, { on := 19, ground := Ground.phase }, { on := 20, ground := Ground.phase }, { on := 21, ground := Ground.phase }, { on := 22, ground := Ground.phase }, { on := 23, ground := Ground.phase }, { on := 24, ground := Ground.phase }, { on := 25, ground := Ground.phase }, { on := 26, ground := Ground.phase }, { on := 27, ground := Ground.phase }, { on := 28, ground := Ground.phase }, { on := 29, ground := Ground.phase }, { on := 30, ground := Ground.phase }, { on := 31, ground := Ground.phase }, { on := 32, ground := Ground.phase }, { on := 33, ground := Ground.phase }, { on := 34, ground := Ground.phase }, { on := 35, ground := Ground.phase }, { on := 36, ground := Ground.phase }, { on := 37, ground := Ground.phase }, { on := 38, ground := Ground.phase }, { on := 39, ground := Ground.phase }, { on := 40, ground := Ground.phase }, { on := 41, ground := Ground.phase }], guard := none }) (d := 6) (v := ?_) rfl rfl (by kernel_rfl) (by kernel_rfl) (by kernel_rfl) (fun _ _ _ h => h) (Or.inl ⟨by rfl, ?_⟩) ?_
              rotate_left
              · (intro w' _; go_simp; (try with_reducible rfl))
              simp only [List.setIfInBounds_toArray, List.set_cons_zero, List.set_cons_succ]
              refine wpAnyD_done (by kernel_rfl) ?_ _
              go_wp2_with fail
              go_ret
              exact ⟨by simp, HBD.out.trans (HBV.out.mono HBD.out.size)⟩
          ·
            go_simp; refine gen_alloc HBV.out (fun V5 hb hci => ?_); replace HBV := Lib.hid (HBV.out.trans (hb.mono HBV.out.size)); (try (replace PYX := Lib.hid (PYX.out.below hb (Nat.le_refl _)))); (try (replace C8 := Lib.hid (blk_below hb (blk_lt C8.out) C8.out))); (try (replace C18 := Lib.hid (blk_below hb (blk_lt C18.out) C18.out))); (try (replace PYZ := Lib.hid (PYZ.out.below hb (Nat.le_refl _)))); (try (replace C20 := Lib.hid (blk_below hb (blk_lt C20.out) C20.out))); (try (replace PXYZ := Lib.hid (PXYZ.out.below hb (Nat.le_refl _)))); (try (replace C25 := Lib.hid (blk_below hb (blk_lt C25.out) C25.out))); (try (replace PXZ := Lib.hid (PXZ.out.below hb (Nat.le_refl _)))); (try (replace C27 := Lib.hid (blk_below hb (blk_lt C27.out) C27.out))); (try (replace PS := Lib.hid (PS.out.below hb (Nat.le_refl _)))); (try (replace PX1 := Lib.hid (PX1.out.below hb (Nat.le_refl _)))); have C25 := Lib.hid hci; have h := HF.out _ HBV.out; clear hb hci
            refine hK.out _ _ h (fun hHeld => ?_)
            clear hK K
            try simp only [Act.put, List.setIfInBounds_toArray, List.set_cons_zero, List.set_cons_succ]
            refine wpAnyD_one (i := 20) (o := { dst := some 78, op := Op.buildSlice 47 1 #[(0, Operand.tmp 77)], type := 47, pos := "law.go:148", after := #[{ on := 19, ground := Ground.data }, { on := 14, ground := Ground.guard }], guard := some (14, true) }) (by kernel_rfl) rfl (by rfl) (fun K hK => ?_)
            go_simp; refine gen_alloc HBV.out (fun V5 hb hci => ?_); replace HBV := Lib.hid (HBV.out.trans (hb.mono HBV.out.size)); (try (replace PYX := Lib.hid (PYX.out.below hb (Nat.le_refl _)))); (try (replace C8 := Lib.hid (blk_below hb (blk_lt C8.out) C8.out))); (try (replace C18 := Lib.hid (blk_below hb (blk_lt C18.out) C18.out))); (try (replace PYZ := Lib.hid (PYZ.out.below hb (Nat.le_refl _)))); (try (replace C20 := Lib.hid (blk_below hb (blk_lt C20.out) C20.out))); (try (replace PXYZ := Lib.hid (PXYZ.out.below hb (Nat.le_refl _)))); (try (replace C25 := Lib.hid (blk_below hb (blk_lt C25.out) C25.out))); (try (replace PXZ := Lib.hid (PXZ.out.below hb (Nat.le_refl _)))); (try (replace C27 := Lib.hid (blk_below hb (blk_lt C27.out) C27.out))); (try (replace PS := Lib.hid (PS.out.below hb (Nat.le_refl _)))); (try (replace PX1 := Lib.hid (PX1.out.below hb (Nat.le_refl _)))); have C20 := Lib.hid hci; have h := HF.out _ HBV.out; clear hb hci
            refine hK.out _ _ h (fun hHeld => ?_)
            clear hK K
            try simp only [Act.put, List.setIfInBounds_toArray, List.set_cons_zero, List.set_cons_succ]
            refine wpAnyD_one (i := 21) (o := { dst := some 79, op := Op.call { callee := Callee.value (Operand.func 31), args := #[Operand.tmp 73, Operand.tmp 78], argTypes := #[26, 47] }, type := 26, pos := "law.go:148", after := #[{ on := 15, ground := Ground.data }, { on := 20, ground := Ground.data }, { on := 19, ground := Ground.chain }, { on := 14, ground := Ground.guard }], guard := some (14, true) }) (by kernel_rfl) rfl (by rfl) (fun K hK => ?_)
            go_simp; refine (product_any _ a [bd] _ 1 _ (HNX.out _ HBV.out) (nats_one PYZ.out C20.out) (by simp) (one_prod Lq.out.1 (by rw [HXYZ.out.2]; exact Lq.out.2.2.2.2.2.2)) (one_mem Lq.out.2.2.2.2.2.1)).mono ?_; rintro e V1 ⟨u3, rfl, hn, hb⟩; replace HBV := Lib.hid (HBV.out.trans (hb.mono HBV.out.size)); (try (replace PYX := Lib.hid (PYX.out.below hb (Nat.le_refl _)))); (try (replace C8 := Lib.hid (blk_below hb (blk_lt C8.out) C8.out))); (try (replace C18 := Lib.hid (blk_below hb (blk_lt C18.out) C18.out))); (try (replace PYZ := Lib.hid (PYZ.out.below hb (Nat.le_refl _)))); (try (replace C20 := Lib.hid (blk_below hb (blk_lt C20.out) C20.out))); (try (replace PXYZ := Lib.hid (PXYZ.out.below hb (Nat.le_refl _)))); (try (replace C25 := Lib.hid (blk_below hb (blk_lt C25.out) C25.out))); (try (replace PXZ := Lib.hid (PXZ.out.below hb (Nat.le_refl _)))); (try (replace C27 := Lib.hid (blk_below hb (blk_lt C27.out) C27.out))); (try (replace PS := Lib.hid (PS.out.below hb (Nat.le_refl _)))); (try (replace PX1 := Lib.hid (PX1.out.below hb (Nat.le_refl _)))); rw [HXYZ.out.1] at hn; have PXYZ := Lib.hid hn; clear hn; have h := HF.out _ HBV.out; clear hb
            refine hK.out _ _ h (fun hHeld => ?_)
            clear hK K
            try simp only [Act.put, List.setIfInBounds_toArray, List.set_cons_zero, List.set_cons_succ]
            refine wpAnyD_one (i := 26) (o := { dst := some 84, op := Op.call { callee := Callee.value (Operand.func 31), args := #[Operand.tmp 81, Operand.tmp 83], argTypes := #[26, 47] }, type := 26, pos := "law.go:148", after := #[{ on := 23, ground := Ground.data }, { on := 25, ground := Ground.data }, { on := 21, ground := Ground.chain }, { on := 14, ground := Ground.guard }], guard := some (14, true) }) (by kernel_rfl) rfl (by rfl) (fun K hK => ?_)
            go_simp; refine (product_any _ a [d] _ 1 _ (HNX.out _ HBV.out) (nats_one (HNZ.out _ HBV.out) C25.out) (by simp) (one_prod Lq.out.1 (by rw [HXZ.out.2]; exact Lq.out.2.2.2.2.1)) (one_mem Lq.out.2.2.1)).mono ?_; rintro e V1 ⟨u4, rfl, hn, hb⟩; replace HBV := Lib.hid (HBV.out.trans (hb.mono HBV.out.size)); (try (replace PYX := Lib.hid (PYX.out.below hb (Nat.le_refl _)))); (try (replace C8 := Lib.hid (blk_below hb (blk_lt C8.out) C8.out))); (try (replace C18 := Lib.hid (blk_below hb (blk_lt C18.out) C18.out))); (try (replace PYZ := Lib.hid (PYZ.out.below hb (Nat.le_refl _)))); (try (replace C20 := Lib.hid (blk_below hb (blk_lt C20.out) C20.out))); (try (replace PXYZ := Lib.hid (PXYZ.out.below hb (Nat.le_refl _)))); (try (replace C25 := Lib.hid (blk_below hb (blk_lt C25.out) C25.out))); (try (replace PXZ := Lib.hid (PXZ.out.below hb (Nat.le_refl _)))); (try (replace C27 := Lib.hid (blk_below hb (blk_lt C27.out) C27.out))); (try (replace PS := Lib.hid (PS.out.below hb (Nat.le_refl _)))); (try (replace PX1 := Lib.hid (PX1.out.below hb (Nat.le_refl _)))); rw [HXZ.out.1] at hn; obtain ⟨AXZ, cXZ, rfl, hq1, hq2⟩ := hn; have PXZ := Lib.hid (show NatIs V1 _ ad from ⟨AXZ, cXZ, rfl, hq1, hq2⟩); clear hq1 hq2; have h := HF.out _ HBV.out; clear hb
            refine hK.out _ _ h (fun hHeld => ?_)
            clear hK K
            try simp only [Act.put, List.setIfInBounds_toArray, List.set_cons_zero, List.set_cons_succ]
            refine wpAnyD_one (i := 27) (o := { dst := some 85, op := Op.buildSlice 47 1 #[(0, Operand.tmp 84)], type := 47, pos := "law.go:148", after := #[{ on := 26, ground := Ground.data }, { on := 14, ground := Ground.guard }], guard := some (14, true) }) (by kernel_rfl) rfl (by rfl) (fun K hK => ?_)
            go_simp; refine gen_alloc HBV.out (fun V5 hb hci => ?_); replace HBV := Lib.hid (HBV.out.trans (hb.mono HBV.out.size)); (try (replace PYX := Lib.hid (PYX.out.below hb (Nat.le_refl _)))); (try (replace C8 := Lib.hid (blk_below hb (blk_lt C8.out) C8.out))); (try (replace C18 := Lib.hid (blk_below hb (blk_lt C18.out) C18.out))); (try (replace PYZ := Lib.hid (PYZ.out.below hb (Nat.le_refl _)))); (try (replace C20 := Lib.hid (blk_below hb (blk_lt C20.out) C20.out))); (try (replace PXYZ := Lib.hid (PXYZ.out.below hb (Nat.le_refl _)))); (try (replace C25 := Lib.hid (blk_below hb (blk_lt C25.out) C25.out))); (try (replace PXZ := Lib.hid (PXZ.out.below hb (Nat.le_refl _)))); (try (replace C27 := Lib.hid (blk_below hb (blk_lt C27.out) C27.out))); (try (replace PS := Lib.hid (PS.out.below hb (Nat.le_refl _)))); (try (replace PX1 := Lib.hid (PX1.out.below hb (Nat.le_refl _)))); have C27 := Lib.hid hci; have h := HF.out _ HBV.out; clear hb hci
            refine hK.out _ _ h (fun hHeld => ?_)
            clear hK K
            try simp only [Act.put, List.setIfInBounds_toArray, List.set_cons_zero, List.set_cons_succ]
            refine wpAnyD_one (i := 28) (o := { dst := some 86, op := Op.call { callee := Callee.value (Operand.func 25), args := #[Operand.tmp 80, Operand.tmp 85], argTypes := #[26, 47] }, type := 26, pos := "law.go:148", after := #[{ on := 22, ground := Ground.data }, { on := 27, ground := Ground.data }, { on := 26, ground := Ground.chain }, { on := 14, ground := Ground.guard }], guard := some (14, true) }) (by kernel_rfl) rfl (by rfl) (fun K hK => ?_)
            go_simp; refine (add_any _ ab [ad] _ 1 _ (HNP.out _ HBV.out) (nats_one PXZ.out C27.out) (by simp) (one_sum (by rw [HSM.out.2]; exact Lq.out.2.2.2.2.2.2)) (one_mem Lq.out.2.2.2.2.1)).mono ?_; rintro e V1 ⟨u5, rfl, hn, hb⟩; replace HBV := Lib.hid (HBV.out.trans (hb.mono HBV.out.size)); (try (replace PYX := Lib.hid (PYX.out.below hb (Nat.le_refl _)))); (try (replace C8 := Lib.hid (blk_below hb (blk_lt C8.out) C8.out))); (try (replace C18 := Lib.hid (blk_below hb (blk_lt C18.out) C18.out))); (try (replace PYZ := Lib.hid (PYZ.out.below hb (Nat.le_refl _)))); (try (replace C20 := Lib.hid (blk_below hb (blk_lt C20.out) C20.out))); (try (replace PXYZ := Lib.hid (PXYZ.out.below hb (Nat.le_refl _)))); (try (replace C25 := Lib.hid (blk_below hb (blk_lt C25.out) C25.out))); (try (replace PXZ := Lib.hid (PXZ.out.below hb (Nat.le_refl _)))); (try (replace C27 := Lib.hid (blk_below hb (blk_lt C27.out) C27.out))); (try (replace PS := Lib.hid (PS.out.below hb (Nat.le_refl _)))); (try (replace PX1 := Lib.hid (PX1.out.below hb (Nat.le_refl _)))); rw [HSM.out.1] at hn; have PS := Lib.hid hn; clear hn; have h := HF.out _ HBV.out; clear hb
            refine hK.out _ _ h (fun hHeld => ?_)
            clear hK K
            try simp only [Act.put, List.setIfInBounds_toArray, List.set_cons_zero, List.set_cons_succ]
            refine wpAnyD_one (i := 29) (o := { dst := some 87, op := Op.call { callee := Callee.value (Operand.func 16), args := #[Operand.tmp 79, Operand.tmp 86], argTypes := #[26, 26] }, type := 3, pos := "law.go:148", after := #[{ on := 21, ground := Ground.data }, { on := 28, ground := Ground.data }, { on := 28, ground := Ground.chain }, { on := 14, ground := Ground.guard }], guard := some (14, true) }) (by kernel_rfl) rfl (by rfl) (fun K hK => ?_)
            go_simp; refine (compare_any u3 u5 s s _ PXYZ.out PS.out Lq.out.2.2.2.2.2.2 Lq.out.2.2.2.2.2.2).mono ?_; rintro e V1 ⟨rfl, hb⟩; replace HBV := Lib.hid (HBV.out.trans (hb.mono HBV.out.size)); (try (replace PYX := Lib.hid (PYX.out.below hb (Nat.le_refl _)))); (try (replace C8 := Lib.hid (blk_below hb (blk_lt C8.out) C8.out))); (try (replace C18 := Lib.hid (blk_below hb (blk_lt C18.out) C18.out))); (try (replace PYZ := Lib.hid (PYZ.out.below hb (Nat.le_refl _)))); (try (replace C20 := Lib.hid (blk_below hb (blk_lt C20.out) C20.out))); (try (replace PXYZ := Lib.hid (PXYZ.out.below hb (Nat.le_refl _)))); (try (replace C25 := Lib.hid (blk_below hb (blk_lt C25.out) C25.out))); (try (replace PXZ := Lib.hid (PXZ.out.below hb (Nat.le_refl _)))); (try (replace C27 := Lib.hid (blk_below hb (blk_lt C27.out) C27.out))); (try (replace PS := Lib.hid (PS.out.below hb (Nat.le_refl _)))); (try (replace PX1 := Lib.hid (PX1.out.below hb (Nat.le_refl _)))); rw [show cmpN s s = 0 by unfold cmpN; rw [if_neg (by omega), if_neg (by omega)]]; have h := HF.out _ HBV.out; clear hb
            refine hK.out _ _ h (fun hHeld => ?_)
            clear hK K
            try simp only [Act.put, List.setIfInBounds_toArray, List.set_cons_zero, List.set_cons_succ]
            refine wpAnyD_takeP (i := 30) (oi := { dst := some 88, op := Op.binOp BinOp.eql 3 (Operand.tmp 87) (Operand.const (Value.int IntKind.i64 0)) 3, type := 4, pos := "law.go:148", after := #[{ on := 29, ground := Ground.data }, { on := 14, ground := Ground.guard }], guard := some (14, true) }) (d := 88) (v := ?_) rfl rfl (by kernel_rfl) (by kernel_rfl) (by kernel_rfl) (fun _ _ _ h => h) (Or.inl ⟨by rfl, ?_⟩) ?_
            rotate_left
            · (intro w' _; go_simp; (try with_reducible rfl))
            simp only [List.setIfInBounds_toArray, List.set_cons_zero, List.set_cons_succ]
            refine wpAnyD_takeP (i := 31) (oi := { dst := some 89, op := Op.pick (Operand.tmp 72) (Operand.tmp 88) (Operand.const (Value.bool false)), type := 4, pos := "law.go:148", after := #[{ on := 14, ground := Ground.data }, { on := 30, ground := Ground.data }], guard := none }) (d := 89) (v := ?_) rfl rfl (by kernel_rfl) (by kernel_rfl) (by kernel_rfl) (fun _ _ _ h => h) (Or.inl ⟨by rfl, ?_⟩) ?_
            rotate_left
            · (intro w' _; go_simp; (try with_reducible rfl))
            simp only [List.setIfInBounds_toArray, List.set_cons_zero, List.set_cons_succ]
            refine wpAnyD_takeP (i := 32) (oi := { dst := some 90, op := Op.move (Operand.tmp 89), type := 4, pos := "law.go:148", after := #[{ on := 31, ground := Ground.data }, { on := 29, ground := Ground.chain }], guard := none }) (d := 90) (v := ?_) rfl rfl (by kernel_rfl) (by kernel_rfl) (by kernel_rfl) (fun _ _ _ h => h) (Or.inl ⟨by rfl, ?_⟩) ?_
            rotate_left
            · (intro w' _; go_simp; (try with_reducible rfl))
            simp only [List.setIfInBounds_toArray, List.set_cons_zero, List.set_cons_succ]
            refine wpAnyD_takeD (i := 33) (oi := { dst := some 91, op := Op.load 26 (Operand.tmp 7), type := 26, pos := "law.go:148", after := #[{ on := 32, ground := Ground.guard }], guard := some (32, true) }) (d := 91) (v := ?_) rfl rfl (by kernel_rfl) (by kernel_rfl) (by kernel_rfl) (by kernel_rfl) (fun _ _ _ h => h) (Or.inl ⟨by rfl, ?_⟩) hHeld ?_
            rotate_left
            · (intro w' hSw; (try dsimp only at hSw); go_simp; (try with_reducible rfl))
            simp only [List.setIfInBounds_toArray, List.set_cons_zero, List.set_cons_succ]
            refine wpAnyD_takeD (i := 35) (oi := { dst := some 93, op := Op.load 26 (Operand.tmp 7), type := 26, pos := "law.go:148", after := #[{ on := 32, ground := Ground.guard }], guard := some (32, true) }) (d := 93) (v := ?_) rfl rfl (by kernel_rfl) (by kernel_rfl) (by kernel_rfl) (by kernel_rfl) (fun _ _ _ h => h) (Or.inl ⟨by rfl, ?_⟩) hHeld ?_
            rotate_left
            · (intro w' hSw; (try dsimp only at hSw); go_simp; (try with_reducible rfl))
            simp only [List.setIfInBounds_toArray, List.set_cons_zero, List.set_cons_succ]
            refine wpAnyD_one (i := 34) (o := { dst := some 92, op := Op.call { callee := Callee.value (Operand.func 31), args := #[Operand.tmp 91, Operand.const (Value.slice none 0 0)], argTypes := #[26, 47] }, type := 26, pos := "law.go:148", after := #[{ on := 33, ground := Ground.data }, { on := 32, ground := Ground.chain }, { on := 32, ground := Ground.guard }], guard := some (32, true) }) (by kernel_rfl) rfl (by rfl) (fun K hK => ?_)
            go_simp; refine (product_any _ a [] none 0 _ (HNX.out _ HBV.out) (fun i n hi => by simp at hi) (by simp) (fun k hk => by simpa [prodL] using Lq.out.1) (by simp)).mono ?_; rintro e V1 ⟨u6, rfl, hn, hb⟩; replace HBV := Lib.hid (HBV.out.trans (hb.mono HBV.out.size)); (try (replace PYX := Lib.hid (PYX.out.below hb (Nat.le_refl _)))); (try (replace C8 := Lib.hid (blk_below hb (blk_lt C8.out) C8.out))); (try (replace C18 := Lib.hid (blk_below hb (blk_lt C18.out) C18.out))); (try (replace PYZ := Lib.hid (PYZ.out.below hb (Nat.le_refl _)))); (try (replace C20 := Lib.hid (blk_below hb (blk_lt C20.out) C20.out))); (try (replace PXYZ := Lib.hid (PXYZ.out.below hb (Nat.le_refl _)))); (try (replace C25 := Lib.hid (blk_below hb (blk_lt C25.out) C25.out))); (try (replace PXZ := Lib.hid (PXZ.out.below hb (Nat.le_refl _)))); (try (replace C27 := Lib.hid (blk_below hb (blk_lt C27.out) C27.out))); (try (replace PS := Lib.hid (PS.out.below hb (Nat.le_refl _)))); (try (replace PX1 := Lib.hid (PX1.out.below hb (Nat.le_refl _)))); rw [HX1.out] at hn; have PX1 := Lib.hid hn; clear hn; have h := HF.out _ HBV.out; clear hb
            refine hK.out _ _ h (fun hHeld => ?_)
            clear hK K
            try simp only [Act.put, List.setIfInBounds_toArray, List.set_cons_zero, List.set_cons_succ]
            refine wpAnyD_one (i := 36) (o := { dst := some 94, op := Op.call { callee := Callee.value (Operand.func 16), args := #[Operand.tmp 92, Operand.tmp 93], argTypes := #[26, 26] }, type := 3, pos := "law.go:148", after := #[{ on := 34, ground := Ground.data }, { on := 35, ground := Ground.data }, { on := 34, ground := Ground.chain }, { on := 32, ground := Ground.guard }], guard := some (32, true) }) (by kernel_rfl) rfl (by rfl) (fun K hK => ?_)
            go_simp; refine (compare_any u6 _ a a _ PX1.out (HNX.out _ HBV.out) Lq.out.1 Lq.out.1).mono ?_; rintro e V1 ⟨rfl, hb⟩; replace HBV := Lib.hid (HBV.out.trans (hb.mono HBV.out.size)); (try (replace PYX := Lib.hid (PYX.out.below hb (Nat.le_refl _)))); (try (replace C8 := Lib.hid (blk_below hb (blk_lt C8.out) C8.out))); (try (replace C18 := Lib.hid (blk_below hb (blk_lt C18.out) C18.out))); (try (replace PYZ := Lib.hid (PYZ.out.below hb (Nat.le_refl _)))); (try (replace C20 := Lib.hid (blk_below hb (blk_lt C20.out) C20.out))); (try (replace PXYZ := Lib.hid (PXYZ.out.below hb (Nat.le_refl _)))); (try (replace C25 := Lib.hid (blk_below hb (blk_lt C25.out) C25.out))); (try (replace PXZ := Lib.hid (PXZ.out.below hb (Nat.le_refl _)))); (try (replace C27 := Lib.hid (blk_below hb (blk_lt C27.out) C27.out))); (try (replace PS := Lib.hid (PS.out.below hb (Nat.le_refl _)))); (try (replace PX1 := Lib.hid (PX1.out.below hb (Nat.le_refl _)))); rw [show cmpN a a = 0 by unfold cmpN; rw [if_neg (by omega), if_neg (by omega)]]; have h := HF.out _ HBV.out; clear hb
            refine hK.out _ _ h (fun hHeld => ?_)
            clear hK K
            try simp only [Act.put, List.setIfInBounds_toArray, List.set_cons_zero, List.set_cons_succ]
            refine wpAnyD_takeP (i := 37) (oi := { dst := some 95, op := Op.binOp BinOp.eql 3 (Operand.tmp 94) (Operand.const (Value.int IntKind.i64 0)) 3, type := 4, pos := "law.go:148", after := #[{ on := 36, ground := Ground.data }, { on := 32, ground := Ground.guard }], guard := some (32, true) }) (d := 95) (v := ?_) rfl rfl (by kernel_rfl) (by kernel_rfl) (by kernel_rfl) (fun _ _ _ h => h) (Or.inl ⟨by rfl, ?_⟩) ?_
            rotate_left
            · (intro w' _; go_simp; (try with_reducible rfl))
            simp only [List.setIfInBounds_toArray, List.set_cons_zero, List.set_cons_succ]
            refine wpAnyD_takeP (i := 38) (oi := { dst := some 96, op := Op.pick (Operand.tmp 90) (Operand.tmp 95) (Operand.const (Value.bool false)), type := 4, pos := "law.go:148", after := #[{ on := 32, ground := Ground.data }, { on := 37, ground := Ground.data }], guard := none }) (d := 96) (v := ?_) rfl rfl (by kernel_rfl) (by kernel_rfl) (by kernel_rfl) (fun _ _ _ h => h) (Or.inl ⟨by rfl, ?_⟩) ?_
            rotate_left
            · (intro w' _; go_simp; (try with_reducible rfl))
            simp only [List.setIfInBounds_toArray, List.set_cons_zero, List.set_cons_succ]
            refine wpAnyD_takeP (i := 39) (oi := { dst := some 97, op := Op.move (Operand.tmp 96), type := 4, pos := "law.go:148", after := #[{ on := 38, ground := Ground.data }, { on := 36, ground := Ground.chain }], guard := none }) (d := 97) (v := ?_) rfl rfl (by kernel_rfl) (by kernel_rfl) (by kernel_rfl) (fun _ _ _ h => h) (Or.inl ⟨by rfl, ?_⟩) ?_
            rotate_left
            · (intro w' _; go_simp; (try with_reducible rfl))
            simp only [List.setIfInBounds_toArray, List.set_cons_zero, List.set_cons_succ]
            refine wpAnyD_one (i := 40) (o := { dst := some 98, op := Op.call { callee := Callee.value (Operand.func 11), args := #[], argTypes := #[] }, type := 4, pos := "law.go:148", after := #[{ on := 39, ground := Ground.chain }, { on := 39, ground := Ground.guard }], guard := some (39, true) }) (by kernel_rfl) rfl (by rfl) (fun K hK => ?_)
            go_simp; refine (awake_any _).mono ?_; rintro e V1 ⟨rfl, hb⟩; replace HBV := Lib.hid (HBV.out.trans (hb.mono HBV.out.size)); (try (replace PYX := Lib.hid (PYX.out.below hb (Nat.le_refl _)))); (try (replace C8 := Lib.hid (blk_below hb (blk_lt C8.out) C8.out))); (try (replace C18 := Lib.hid (blk_below hb (blk_lt C18.out) C18.out))); (try (replace PYZ := Lib.hid (PYZ.out.below hb (Nat.le_refl _)))); (try (replace C20 := Lib.hid (blk_below hb (blk_lt C20.out) C20.out))); (try (replace PXYZ := Lib.hid (PXYZ.out.below hb (Nat.le_refl _)))); (try (replace C25 := Lib.hid (blk_below hb (blk_lt C25.out) C25.out))); (try (replace PXZ := Lib.hid (PXZ.out.below hb (Nat.le_refl _)))); (try (replace C27 := Lib.hid (blk_below hb (blk_lt C27.out) C27.out))); (try (replace PS := Lib.hid (PS.out.below hb (Nat.le_refl _)))); (try (replace PX1 := Lib.hid (PX1.out.below hb (Nat.le_refl _)))); have h := HF.out _ HBV.out; clear hb
            refine hK.out _ _ h (fun hHeld => ?_)
            clear hK K
            try simp only [Act.put, List.setIfInBounds_toArray, List.set_cons_zero, List.set_cons_succ]
            refine wpAnyD_takeP (i := 41) (oi := { dst := some 99, op := Op.pick (Operand.tmp 97) (Operand.tmp 98) (Operand.const (Value.bool false)), type := 4, pos := "law.go:148", after := #[{ on := 39, ground := Ground.data }, { on := 40, ground := Ground.data }], guard := none }) (d := 99) (v := ?_) rfl rfl (by kernel_rfl) (by kernel_rfl) (by kernel_rfl) (fun _ _ _ h => h) (Or.inl ⟨by rfl, ?_⟩) ?_
            rotate_left
            · (intro w' _; go_simp; (try with_reducible rfl))
            simp only [List.setIfInBounds_toArray, List.set_cons_zero, List.set_cons_succ]
            refine wpAnyD_takeP (i := 42) (oi := { dst := some 6, op := Op.assign (Operand.tmp 99), type := 4, pos := "law.go:148", after := #[{ on := 41, ground := Ground.data }, { on := 40, ground := Ground.chain }, { on := 0, ground := Ground.phase }, { on := 1, ground := Ground.phase }, { on := 2, ground := Ground.phase }, { on := 3, ground := Ground.phase }, { on := 4, ground := Ground.phase }, { on := 5, ground := Ground.phase }, { on := 6, ground := Ground.phase }, { on := 7, ground := Ground.phase }, { on := 8, ground := Ground.phase }, { on := 9, ground := Ground.phase }, { on := 10, ground := Ground.phase }, { on := 11, ground := Ground.phase }, { on := 12, ground := Ground.phase }, { on := 13, ground := Ground.phase }, { on := 14, ground := Ground.phase }, { on := 15, ground := Ground.phase }, { on := 16, ground := Ground.phase }, { on := 17, ground := Ground.phase }, { on := 18, ground := Ground.phase }, { on := 19, ground := Ground.phase }, { on := 20, ground := Ground.phase }, { on := 21, ground := Ground.phase }, { on := 22, ground := Ground.phase }, { on := 23, ground := Ground.phase }, { on := 24, ground := Ground.phase }, { on := 25, ground := Ground.phase }, { on := 26, ground := Ground.phase }, { on := 27, ground := Ground.phase }, { on := 28, ground := Ground.phase }, { on := 29, ground := Ground.phase }, { on := 30, ground := Ground.phase }, { on := 31, ground := Ground.phase }, { on := 32, ground := Ground.phase }, { on := 33, ground := Ground.phase }, { on := 34, ground := Ground.phase }, { on := 35, ground := Ground.phase }, { on := 36, ground := Ground.phase }, { on := 37, ground := Ground.phase }, { on := 38, ground := Ground.phase }, { on := 39, ground := Ground.phase }, { on := 40, ground := Ground.phase }, { on := 41, ground := Ground.phase }], guard := none }) (d := 6) (v := ?_) rfl rfl (by kernel_rfl) (by kernel_rfl) (by kernel_rfl) (fun _ _ _ h => h) (Or.inl ⟨by rfl, ?_⟩) ?_
            rotate_left
            · (intro w' _; go_simp; (try with_reducible rfl))
            simp only [List.setIfInBounds_toArray, List.set_cons_zero, List.set_cons_succ]
            refine wpAnyD_done (by kernel_rfl) ?_ _
            go_wp2_with fail
            go_ret
            exact ⟨by simp, HBD.out.trans (HBV.out.mono HBD.out.size)⟩
        ·
          go_simp; refine gen_alloc HBV.out (fun V5 hb hci => ?_); replace HBV := Lib.hid (HBV.out.trans (hb.mono HBV.out.size)); (try (replace PYX := Lib.hid (PYX.out.below hb (Nat.le_refl _)))); (try (replace C8 := Lib.hid (blk_below hb (blk_lt C8.out) C8.out))); (try (replace C18 := Lib.hid (blk_below hb (blk_lt C18.out) C18.out))); (try (replace PYZ := Lib.hid (PYZ.out.below hb (Nat.le_refl _)))); (try (replace C20 := Lib.hid (blk_below hb (blk_lt C20.out) C20.out))); (try (replace PXYZ := Lib.hid (PXYZ.out.below hb (Nat.le_refl _)))); (try (replace C25 := Lib.hid (blk_below hb (blk_lt C25.out) C25.out))); (try (replace PXZ := Lib.hid (PXZ.out.below hb (Nat.le_refl _)))); (try (replace C27 := Lib.hid (blk_below hb (blk_lt C27.out) C27.out))); (try (replace PS := Lib.hid (PS.out.below hb (Nat.le_refl _)))); (try (replace PX1 := Lib.hid (PX1.out.below hb (Nat.le_refl _)))); have C25 := Lib.hid hci; have h := HF.out _ HBV.out; clear hb hci
          refine hK.out _ _ h (fun hHeld => ?_)
          clear hK K
          try simp only [Act.put, List.setIfInBounds_toArray, List.set_cons_zero, List.set_cons_succ]
          refine wpAnyD_one (i := 19) (o := { dst := some 77, op := Op.call { callee := Callee.value (Operand.func 25), args := #[Operand.tmp 74, Operand.tmp 76], argTypes := #[26, 47] }, type := 26, pos := "law.go:148", after := #[{ on := 16, ground := Ground.data }, { on := 18, ground := Ground.data }, { on := 14, ground := Ground.chain }, { on := 14, ground := Ground.guard }], guard := some (14, true) }) (by kernel_rfl) rfl (by rfl) (fun K hK => ?_)
          go_simp; refine (add_any _ b [d] _ 1 _ (HNY.out _ HBV.out) (nats_one (HNZ.out _ HBV.out) C18.out) (by simp) (one_sum (by rw [HYZ.out.2]; exact Lq.out.2.2.2.2.2.1)) (one_mem Lq.out.2.2.1)).mono ?_; rintro e V1 ⟨u2, rfl, hn, hb⟩; replace HBV := Lib.hid (HBV.out.trans (hb.mono HBV.out.size)); (try (replace PYX := Lib.hid (PYX.out.below hb (Nat.le_refl _)))); (try (replace C8 := Lib.hid (blk_below hb (blk_lt C8.out) C8.out))); (try (replace C18 := Lib.hid (blk_below hb (blk_lt C18.out) C18.out))); (try (replace PYZ := Lib.hid (PYZ.out.below hb (Nat.le_refl _)))); (try (replace C20 := Lib.hid (blk_below hb (blk_lt C20.out) C20.out))); (try (replace PXYZ := Lib.hid (PXYZ.out.below hb (Nat.le_refl _)))); (try (replace C25 := Lib.hid (blk_below hb (blk_lt C25.out) C25.out))); (try (replace PXZ := Lib.hid (PXZ.out.below hb (Nat.le_refl _)))); (try (replace C27 := Lib.hid (blk_below hb (blk_lt C27.out) C27.out))); (try (replace PS := Lib.hid (PS.out.below hb (Nat.le_refl _)))); (try (replace PX1 := Lib.hid (PX1.out.below hb (Nat.le_refl _)))); rw [HYZ.out.1] at hn; obtain ⟨AYZ, cYZ, rfl, hq1, hq2⟩ := hn; have PYZ := Lib.hid (show NatIs V1 _ bd from ⟨AYZ, cYZ, rfl, hq1, hq2⟩); clear hq1 hq2; have h := HF.out _ HBV.out; clear hb
          refine hK.out _ _ h (fun hHeld => ?_)
          clear hK K
          try simp only [Act.put, List.setIfInBounds_toArray, List.set_cons_zero, List.set_cons_succ]
          refine wpAnyD_one (i := 20) (o := { dst := some 78, op := Op.buildSlice 47 1 #[(0, Operand.tmp 77)], type := 47, pos := "law.go:148", after := #[{ on := 19, ground := Ground.data }, { on := 14, ground := Ground.guard }], guard := some (14, true) }) (by kernel_rfl) rfl (by rfl) (fun K hK => ?_)
          go_simp; refine gen_alloc HBV.out (fun V5 hb hci => ?_); replace HBV := Lib.hid (HBV.out.trans (hb.mono HBV.out.size)); (try (replace PYX := Lib.hid (PYX.out.below hb (Nat.le_refl _)))); (try (replace C8 := Lib.hid (blk_below hb (blk_lt C8.out) C8.out))); (try (replace C18 := Lib.hid (blk_below hb (blk_lt C18.out) C18.out))); (try (replace PYZ := Lib.hid (PYZ.out.below hb (Nat.le_refl _)))); (try (replace C20 := Lib.hid (blk_below hb (blk_lt C20.out) C20.out))); (try (replace PXYZ := Lib.hid (PXYZ.out.below hb (Nat.le_refl _)))); (try (replace C25 := Lib.hid (blk_below hb (blk_lt C25.out) C25.out))); (try (replace PXZ := Lib.hid (PXZ.out.below hb (Nat.le_refl _)))); (try (replace C27 := Lib.hid (blk_below hb (blk_lt C27.out) C27.out))); (try (replace PS := Lib.hid (PS.out.below hb (Nat.le_refl _)))); (try (replace PX1 := Lib.hid (PX1.out.below hb (Nat.le_refl _)))); have C20 := Lib.hid hci; have h := HF.out _ HBV.out; clear hb hci
          refine hK.out _ _ h (fun hHeld => ?_)
          clear hK K
          try simp only [Act.put, List.setIfInBounds_toArray, List.set_cons_zero, List.set_cons_succ]
          refine wpAnyD_one (i := 21) (o := { dst := some 79, op := Op.call { callee := Callee.value (Operand.func 31), args := #[Operand.tmp 73, Operand.tmp 78], argTypes := #[26, 47] }, type := 26, pos := "law.go:148", after := #[{ on := 15, ground := Ground.data }, { on := 20, ground := Ground.data }, { on := 19, ground := Ground.chain }, { on := 14, ground := Ground.guard }], guard := some (14, true) }) (by kernel_rfl) rfl (by rfl) (fun K hK => ?_)
          go_simp; refine (product_any _ a [bd] _ 1 _ (HNX.out _ HBV.out) (nats_one PYZ.out C20.out) (by simp) (one_prod Lq.out.1 (by rw [HXYZ.out.2]; exact Lq.out.2.2.2.2.2.2)) (one_mem Lq.out.2.2.2.2.2.1)).mono ?_; rintro e V1 ⟨u3, rfl, hn, hb⟩; replace HBV := Lib.hid (HBV.out.trans (hb.mono HBV.out.size)); (try (replace PYX := Lib.hid (PYX.out.below hb (Nat.le_refl _)))); (try (replace C8 := Lib.hid (blk_below hb (blk_lt C8.out) C8.out))); (try (replace C18 := Lib.hid (blk_below hb (blk_lt C18.out) C18.out))); (try (replace PYZ := Lib.hid (PYZ.out.below hb (Nat.le_refl _)))); (try (replace C20 := Lib.hid (blk_below hb (blk_lt C20.out) C20.out))); (try (replace PXYZ := Lib.hid (PXYZ.out.below hb (Nat.le_refl _)))); (try (replace C25 := Lib.hid (blk_below hb (blk_lt C25.out) C25.out))); (try (replace PXZ := Lib.hid (PXZ.out.below hb (Nat.le_refl _)))); (try (replace C27 := Lib.hid (blk_below hb (blk_lt C27.out) C27.out))); (try (replace PS := Lib.hid (PS.out.below hb (Nat.le_refl _)))); (try (replace PX1 := Lib.hid (PX1.out.below hb (Nat.le_refl _)))); rw [HXYZ.out.1] at hn; have PXYZ := Lib.hid hn; clear hn; have h := HF.out _ HBV.out; clear hb
          refine hK.out _ _ h (fun hHeld => ?_)
          clear hK K
          try simp only [Act.put, List.setIfInBounds_toArray, List.set_cons_zero, List.set_cons_succ]
          refine wpAnyD_one (i := 26) (o := { dst := some 84, op := Op.call { callee := Callee.value (Operand.func 31), args := #[Operand.tmp 81, Operand.tmp 83], argTypes := #[26, 47] }, type := 26, pos := "law.go:148", after := #[{ on := 23, ground := Ground.data }, { on := 25, ground := Ground.data }, { on := 21, ground := Ground.chain }, { on := 14, ground := Ground.guard }], guard := some (14, true) }) (by kernel_rfl) rfl (by rfl) (fun K hK => ?_)
          go_simp; refine (product_any _ a [d] _ 1 _ (HNX.out _ HBV.out) (nats_one (HNZ.out _ HBV.out) C25.out) (by simp) (one_prod Lq.out.1 (by rw [HXZ.out.2]; exact Lq.out.2.2.2.2.1)) (one_mem Lq.out.2.2.1)).mono ?_; rintro e V1 ⟨u4, rfl, hn, hb⟩; replace HBV := Lib.hid (HBV.out.trans (hb.mono HBV.out.size)); (try (replace PYX := Lib.hid (PYX.out.below hb (Nat.le_refl _)))); (try (replace C8 := Lib.hid (blk_below hb (blk_lt C8.out) C8.out))); (try (replace C18 := Lib.hid (blk_below hb (blk_lt C18.out) C18.out))); (try (replace PYZ := Lib.hid (PYZ.out.below hb (Nat.le_refl _)))); (try (replace C20 := Lib.hid (blk_below hb (blk_lt C20.out) C20.out))); (try (replace PXYZ := Lib.hid (PXYZ.out.below hb (Nat.le_refl _)))); (try (replace C25 := Lib.hid (blk_below hb (blk_lt C25.out) C25.out))); (try (replace PXZ := Lib.hid (PXZ.out.below hb (Nat.le_refl _)))); (try (replace C27 := Lib.hid (blk_below hb (blk_lt C27.out) C27.out))); (try (replace PS := Lib.hid (PS.out.below hb (Nat.le_refl _)))); (try (replace PX1 := Lib.hid (PX1.out.below hb (Nat.le_refl _)))); rw [HXZ.out.1] at hn; obtain ⟨AXZ, cXZ, rfl, hq1, hq2⟩ := hn; have PXZ := Lib.hid (show NatIs V1 _ ad from ⟨AXZ, cXZ, rfl, hq1, hq2⟩); clear hq1 hq2; have h := HF.out _ HBV.out; clear hb
          refine hK.out _ _ h (fun hHeld => ?_)
          clear hK K
          try simp only [Act.put, List.setIfInBounds_toArray, List.set_cons_zero, List.set_cons_succ]
          refine wpAnyD_one (i := 27) (o := { dst := some 85, op := Op.buildSlice 47 1 #[(0, Operand.tmp 84)], type := 47, pos := "law.go:148", after := #[{ on := 26, ground := Ground.data }, { on := 14, ground := Ground.guard }], guard := some (14, true) }) (by kernel_rfl) rfl (by rfl) (fun K hK => ?_)
          go_simp; refine gen_alloc HBV.out (fun V5 hb hci => ?_); replace HBV := Lib.hid (HBV.out.trans (hb.mono HBV.out.size)); (try (replace PYX := Lib.hid (PYX.out.below hb (Nat.le_refl _)))); (try (replace C8 := Lib.hid (blk_below hb (blk_lt C8.out) C8.out))); (try (replace C18 := Lib.hid (blk_below hb (blk_lt C18.out) C18.out))); (try (replace PYZ := Lib.hid (PYZ.out.below hb (Nat.le_refl _)))); (try (replace C20 := Lib.hid (blk_below hb (blk_lt C20.out) C20.out))); (try (replace PXYZ := Lib.hid (PXYZ.out.below hb (Nat.le_refl _)))); (try (replace C25 := Lib.hid (blk_below hb (blk_lt C25.out) C25.out))); (try (replace PXZ := Lib.hid (PXZ.out.below hb (Nat.le_refl _)))); (try (replace C27 := Lib.hid (blk_below hb (blk_lt C27.out) C27.out))); (try (replace PS := Lib.hid (PS.out.below hb (Nat.le_refl _)))); (try (replace PX1 := Lib.hid (PX1.out.below hb (Nat.le_refl _)))); have C27 := Lib.hid hci; have h := HF.out _ HBV.out; clear hb hci
          refine hK.out _ _ h (fun hHeld => ?_)
          clear hK K
          try simp only [Act.put, List.setIfInBounds_toArray, List.set_cons_zero, List.set_cons_succ]
          refine wpAnyD_one (i := 28) (o := { dst := some 86, op := Op.call { callee := Callee.value (Operand.func 25), args := #[Operand.tmp 80, Operand.tmp 85], argTypes := #[26, 47] }, type := 26, pos := "law.go:148", after := #[{ on := 22, ground := Ground.data }, { on := 27, ground := Ground.data }, { on := 26, ground := Ground.chain }, { on := 14, ground := Ground.guard }], guard := some (14, true) }) (by kernel_rfl) rfl (by rfl) (fun K hK => ?_)
          go_simp; refine (add_any _ ab [ad] _ 1 _ (HNP.out _ HBV.out) (nats_one PXZ.out C27.out) (by simp) (one_sum (by rw [HSM.out.2]; exact Lq.out.2.2.2.2.2.2)) (one_mem Lq.out.2.2.2.2.1)).mono ?_; rintro e V1 ⟨u5, rfl, hn, hb⟩; replace HBV := Lib.hid (HBV.out.trans (hb.mono HBV.out.size)); (try (replace PYX := Lib.hid (PYX.out.below hb (Nat.le_refl _)))); (try (replace C8 := Lib.hid (blk_below hb (blk_lt C8.out) C8.out))); (try (replace C18 := Lib.hid (blk_below hb (blk_lt C18.out) C18.out))); (try (replace PYZ := Lib.hid (PYZ.out.below hb (Nat.le_refl _)))); (try (replace C20 := Lib.hid (blk_below hb (blk_lt C20.out) C20.out))); (try (replace PXYZ := Lib.hid (PXYZ.out.below hb (Nat.le_refl _)))); (try (replace C25 := Lib.hid (blk_below hb (blk_lt C25.out) C25.out))); (try (replace PXZ := Lib.hid (PXZ.out.below hb (Nat.le_refl _)))); (try (replace C27 := Lib.hid (blk_below hb (blk_lt C27.out) C27.out))); (try (replace PS := Lib.hid (PS.out.below hb (Nat.le_refl _)))); (try (replace PX1 := Lib.hid (PX1.out.below hb (Nat.le_refl _)))); rw [HSM.out.1] at hn; have PS := Lib.hid hn; clear hn; have h := HF.out _ HBV.out; clear hb
          refine hK.out _ _ h (fun hHeld => ?_)
          clear hK K
          try simp only [Act.put, List.setIfInBounds_toArray, List.set_cons_zero, List.set_cons_succ]
          refine wpAnyD_one (i := 29) (o := { dst := some 87, op := Op.call { callee := Callee.value (Operand.func 16), args := #[Operand.tmp 79, Operand.tmp 86], argTypes := #[26, 26] }, type := 3, pos := "law.go:148", after := #[{ on := 21, ground := Ground.data }, { on := 28, ground := Ground.data }, { on := 28, ground := Ground.chain }, { on := 14, ground := Ground.guard }], guard := some (14, true) }) (by kernel_rfl) rfl (by rfl) (fun K hK => ?_)
          go_simp; refine (compare_any u3 u5 s s _ PXYZ.out PS.out Lq.out.2.2.2.2.2.2 Lq.out.2.2.2.2.2.2).mono ?_; rintro e V1 ⟨rfl, hb⟩; replace HBV := Lib.hid (HBV.out.trans (hb.mono HBV.out.size)); (try (replace PYX := Lib.hid (PYX.out.below hb (Nat.le_refl _)))); (try (replace C8 := Lib.hid (blk_below hb (blk_lt C8.out) C8.out))); (try (replace C18 := Lib.hid (blk_below hb (blk_lt C18.out) C18.out))); (try (replace PYZ := Lib.hid (PYZ.out.below hb (Nat.le_refl _)))); (try (replace C20 := Lib.hid (blk_below hb (blk_lt C20.out) C20.out))); (try (replace PXYZ := Lib.hid (PXYZ.out.below hb (Nat.le_refl _)))); (try (replace C25 := Lib.hid (blk_below hb (blk_lt C25.out) C25.out))); (try (replace PXZ := Lib.hid (PXZ.out.below hb (Nat.le_refl _)))); (try (replace C27 := Lib.hid (blk_below hb (blk_lt C27.out) C27.out))); (try (replace PS := Lib.hid (PS.out.below hb (Nat.le_refl _)))); (try (replace PX1 := Lib.hid (PX1.out.below hb (Nat.le_refl _)))); rw [show cmpN s s = 0 by unfold cmpN; rw [if_neg (by omega), if_neg (by omega)]]; have h := HF.out _ HBV.out; clear hb
          refine hK.out _ _ h (fun hHeld => ?_)
          clear hK K
          try simp only [Act.put, List.setIfInBounds_toArray, List.set_cons_zero, List.set_cons_succ]
          refine wpAnyD_takeP (i := 30) (oi := { dst := some 88, op := Op.binOp BinOp.eql 3 (Operand.tmp 87) (Operand.const (Value.int IntKind.i64 0)) 3, type := 4, pos := "law.go:148", after := #[{ on := 29, ground := Ground.data }, { on := 14, ground := Ground.guard }], guard := some (14, true) }) (d := 88) (v := ?_) rfl rfl (by kernel_rfl) (by kernel_rfl) (by kernel_rfl) (fun _ _ _ h => h) (Or.inl ⟨by rfl, ?_⟩) ?_
          rotate_left
          · (intro w' _; go_simp; (try with_reducible rfl))
          simp only [List.setIfInBounds_toArray, List.set_cons_zero, List.set_cons_succ]
          refine wpAnyD_takeP (i := 31) (oi := { dst := some 89, op := Op.pick (Operand.tmp 72) (Operand.tmp 88) (Operand.const (Value.bool false)), type := 4, pos := "law.go:148", after := #[{ on := 14, ground := Ground.data }, { on := 30, ground := Ground.data }], guard := none }) (d := 89) (v := ?_) rfl rfl (by kernel_rfl) (by kernel_rfl) (by kernel_rfl) (fun _ _ _ h => h) (Or.inl ⟨by rfl, ?_⟩) ?_
          rotate_left
          · (intro w' _; go_simp; (try with_reducible rfl))
          simp only [List.setIfInBounds_toArray, List.set_cons_zero, List.set_cons_succ]
          refine wpAnyD_takeP (i := 32) (oi := { dst := some 90, op := Op.move (Operand.tmp 89), type := 4, pos := "law.go:148", after := #[{ on := 31, ground := Ground.data }, { on := 29, ground := Ground.chain }], guard := none }) (d := 90) (v := ?_) rfl rfl (by kernel_rfl) (by kernel_rfl) (by kernel_rfl) (fun _ _ _ h => h) (Or.inl ⟨by rfl, ?_⟩) ?_
          rotate_left
          · (intro w' _; go_simp; (try with_reducible rfl))
          simp only [List.setIfInBounds_toArray, List.set_cons_zero, List.set_cons_succ]
          refine wpAnyD_takeD (i := 33) (oi := { dst := some 91, op := Op.load 26 (Operand.tmp 7), type := 26, pos := "law.go:148", after := #[{ on := 32, ground := Ground.guard }], guard := some (32, true) }) (d := 91) (v := ?_) rfl rfl (by kernel_rfl) (by kernel_rfl) (by kernel_rfl) (by kernel_rfl) (fun _ _ _ h => h) (Or.inl ⟨by rfl, ?_⟩) hHeld ?_
          rotate_left
          · (intro w' hSw; (try dsimp only at hSw); go_simp; (try with_reducible rfl))
          simp only [List.setIfInBounds_toArray, List.set_cons_zero, List.set_cons_succ]
          refine wpAnyD_takeD (i := 35) (oi := { dst := some 93, op := Op.load 26 (Operand.tmp 7), type := 26, pos := "law.go:148", after := #[{ on := 32, ground := Ground.guard }], guard := some (32, true) }) (d := 93) (v := ?_) rfl rfl (by kernel_rfl) (by kernel_rfl) (by kernel_rfl) (by kernel_rfl) (fun _ _ _ h => h) (Or.inl ⟨by rfl, ?_⟩) hHeld ?_
          rotate_left
          · (intro w' hSw; (try dsimp only at hSw); go_simp; (try with_reducible rfl))
          simp only [List.setIfInBounds_toArray, List.set_cons_zero, List.set_cons_succ]
          refine wpAnyD_one (i := 34) (o := { dst := some 92, op := Op.call { callee := Callee.value (Operand.func 31), args := #[Operand.tmp 91, Operand.const (Value.slice none 0 0)], argTypes := #[26, 47] }, type := 26, pos := "law.go:148", after := #[{ on := 33, ground := Ground.data }, { on := 32, ground := Ground.chain }, { on := 32, ground := Ground.guard }], guard := some (32, true) }) (by kernel_rfl) rfl (by rfl) (fun K hK => ?_)
          go_simp; refine (product_any _ a [] none 0 _ (HNX.out _ HBV.out) (fun i n hi => by simp at hi) (by simp) (fun k hk => by simpa [prodL] using Lq.out.1) (by simp)).mono ?_; rintro e V1 ⟨u6, rfl, hn, hb⟩; replace HBV := Lib.hid (HBV.out.trans (hb.mono HBV.out.size)); (try (replace PYX := Lib.hid (PYX.out.below hb (Nat.le_refl _)))); (try (replace C8 := Lib.hid (blk_below hb (blk_lt C8.out) C8.out))); (try (replace C18 := Lib.hid (blk_below hb (blk_lt C18.out) C18.out))); (try (replace PYZ := Lib.hid (PYZ.out.below hb (Nat.le_refl _)))); (try (replace C20 := Lib.hid (blk_below hb (blk_lt C20.out) C20.out))); (try (replace PXYZ := Lib.hid (PXYZ.out.below hb (Nat.le_refl _)))); (try (replace C25 := Lib.hid (blk_below hb (blk_lt C25.out) C25.out))); (try (replace PXZ := Lib.hid (PXZ.out.below hb (Nat.le_refl _)))); (try (replace C27 := Lib.hid (blk_below hb (blk_lt C27.out) C27.out))); (try (replace PS := Lib.hid (PS.out.below hb (Nat.le_refl _)))); (try (replace PX1 := Lib.hid (PX1.out.below hb (Nat.le_refl _)))); rw [HX1.out] at hn; have PX1 := Lib.hid hn; clear hn; have h := HF.out _ HBV.out; clear hb
          refine hK.out _ _ h (fun hHeld => ?_)
          clear hK K
          try simp only [Act.put, List.setIfInBounds_toArray, List.set_cons_zero, List.set_cons_succ]
          refine wpAnyD_one (i := 36) (o := { dst := some 94, op := Op.call { callee := Callee.value (Operand.func 16), args := #[Operand.tmp 92, Operand.tmp 93], argTypes := #[26, 26] }, type := 3, pos := "law.go:148", after := #[{ on := 34, ground := Ground.data }, { on := 35, ground := Ground.data }, { on := 34, ground := Ground.chain }, { on := 32, ground := Ground.guard }], guard := some (32, true) }) (by kernel_rfl) rfl (by rfl) (fun K hK => ?_)
          go_simp; refine (compare_any u6 _ a a _ PX1.out (HNX.out _ HBV.out) Lq.out.1 Lq.out.1).mono ?_; rintro e V1 ⟨rfl, hb⟩; replace HBV := Lib.hid (HBV.out.trans (hb.mono HBV.out.size)); (try (replace PYX := Lib.hid (PYX.out.below hb (Nat.le_refl _)))); (try (replace C8 := Lib.hid (blk_below hb (blk_lt C8.out) C8.out))); (try (replace C18 := Lib.hid (blk_below hb (blk_lt C18.out) C18.out))); (try (replace PYZ := Lib.hid (PYZ.out.below hb (Nat.le_refl _)))); (try (replace C20 := Lib.hid (blk_below hb (blk_lt C20.out) C20.out))); (try (replace PXYZ := Lib.hid (PXYZ.out.below hb (Nat.le_refl _)))); (try (replace C25 := Lib.hid (blk_below hb (blk_lt C25.out) C25.out))); (try (replace PXZ := Lib.hid (PXZ.out.below hb (Nat.le_refl _)))); (try (replace C27 := Lib.hid (blk_below hb (blk_lt C27.out) C27.out))); (try (replace PS := Lib.hid (PS.out.below hb (Nat.le_refl _)))); (try (replace PX1 := Lib.hid (PX1.out.below hb (Nat.le_refl _)))); rw [show cmpN a a = 0 by unfold cmpN; rw [if_neg (by omega), if_neg (by omega)]]; have h := HF.out _ HBV.out; clear hb
          refine hK.out _ _ h (fun hHeld => ?_)
          clear hK K
          try simp only [Act.put, List.setIfInBounds_toArray, List.set_cons_zero, List.set_cons_succ]
          refine wpAnyD_takeP (i := 37) (oi := { dst := some 95, op := Op.binOp BinOp.eql 3 (Operand.tmp 94) (Operand.const (Value.int IntKind.i64 0)) 3, type := 4, pos := "law.go:148", after := #[{ on := 36, ground := Ground.data }, { on := 32, ground := Ground.guard }], guard := some (32, true) }) (d := 95) (v := ?_) rfl rfl (by kernel_rfl) (by kernel_rfl) (by kernel_rfl) (fun _ _ _ h => h) (Or.inl ⟨by rfl, ?_⟩) ?_
          rotate_left
          · (intro w' _; go_simp; (try with_reducible rfl))
          simp only [List.setIfInBounds_toArray, List.set_cons_zero, List.set_cons_succ]
          refine wpAnyD_takeP (i := 38) (oi := { dst := some 96, op := Op.pick (Operand.tmp 90) (Operand.tmp 95) (Operand.const (Value.bool false)), type := 4, pos := "law.go:148", after := #[{ on := 32, ground := Ground.data }, { on := 37, ground := Ground.data }], guard := none }) (d := 96) (v := ?_) rfl rfl (by kernel_rfl) (by kernel_rfl) (by kernel_rfl) (fun _ _ _ h => h) (Or.inl ⟨by rfl, ?_⟩) ?_
          rotate_left
          · (intro w' _; go_simp; (try with_reducible rfl))
          simp only [List.setIfInBounds_toArray, List.set_cons_zero, List.set_cons_succ]
          refine wpAnyD_takeP (i := 39) (oi := { dst := some 97, op := Op.move (Operand.tmp 96), type := 4, pos := "law.go:148", after := #[{ on := 38, ground := Ground.data }, { on := 36, ground := Ground.chain }], guard := none }) (d := 97) (v := ?_) rfl rfl (by kernel_rfl) (by kernel_rfl) (by kernel_rfl) (fun _ _ _ h => h) (Or.inl ⟨by rfl, ?_⟩) ?_
          rotate_left
          · (intro w' _; go_simp; (try with_reducible rfl))
          simp only [List.setIfInBounds_toArray, List.set_cons_zero, List.set_cons_succ]
          refine wpAnyD_one (i := 40) (o := { dst := some 98, op := Op.call { callee := Callee.value (Operand.func 11), args := #[], argTypes := #[] }, type := 4, pos := "law.go:148", after := #[{ on := 39, ground := Ground.chain }, { on := 39, ground := Ground.guard }], guard := some (39, true) }) (by kernel_rfl) rfl (by rfl) (fun K hK => ?_)
          go_simp; refine (awake_any _).mono ?_; rintro e V1 ⟨rfl, hb⟩; replace HBV := Lib.hid (HBV.out.trans (hb.mono HBV.out.size)); (try (replace PYX := Lib.hid (PYX.out.below hb (Nat.le_refl _)))); (try (replace C8 := Lib.hid (blk_below hb (blk_lt C8.out) C8.out))); (try (replace C18 := Lib.hid (blk_below hb (blk_lt C18.out) C18.out))); (try (replace PYZ := Lib.hid (PYZ.out.below hb (Nat.le_refl _)))); (try (replace C20 := Lib.hid (blk_below hb (blk_lt C20.out) C20.out))); (try (replace PXYZ := Lib.hid (PXYZ.out.below hb (Nat.le_refl _)))); (try (replace C25 := Lib.hid (blk_below hb (blk_lt C25.out) C25.out))); (try (replace PXZ := Lib.hid (PXZ.out.below hb (Nat.le_refl _)))); (try (replace C27 := Lib.hid (blk_below hb (blk_lt C27.out) C27.out))); (try (replace PS := Lib.hid (PS.out.below hb (Nat.le_refl _)))); (try (replace PX1 := Lib.hid (PX1.out.below hb (Nat.le_refl _)))); have h := HF.out _ HBV.out; clear hb
          refine hK.out _ _ h (fun hHeld => ?_)
          clear hK K
          try simp only [Act.put, List.setIfInBounds_toArray, List.set_cons_zero, List.set_cons_succ]
          refine wpAnyD_takeP (i := 41) (oi := { dst := some 99, op := Op.pick (Operand.tmp 97) (Operand.tmp 98) (Operand.const (Value.bool false)), type := 4, pos := "law.go:148", after := #[{ on := 39, ground := Ground.data }, { on := 40, ground := Ground.data }], guard := none }) (d := 99) (v := ?_) rfl rfl (by kernel_rfl) (by kernel_rfl) (by kernel_rfl) (fun _ _ _ h => h) (Or.inl ⟨by rfl, ?_⟩) ?_
          rotate_left
          · (intro w' _; go_simp; (try with_reducible rfl))
          simp only [List.setIfInBounds_toArray, List.set_cons_zero, List.set_cons_succ]
          refine wpAnyD_takeP (i := 42) (oi := { dst := some 6, op := Op.assign (Operand.tmp 99), type := 4, pos := "law.go:148", after := #[{ on := 41, ground := Ground.data }, { on := 40, ground := Ground.chain }, { on := 0, ground := Ground.phase }, { on := 1, ground := Ground.phase }, { on := 2, ground := Ground.phase }, { on := 3, ground := Ground.phase }, { on := 4, ground := Ground.phase }, { on := 5, ground := Ground.phase }, { on := 6, ground := Ground.phase }, { on := 7, ground := Ground.phase }, { on := 8, ground := Ground.phase }, { on := 9, ground := Ground.phase }, { on := 10, ground := Ground.phase }, { on := 11, ground := Ground.phase }, { on := 12, ground := Ground.phase }, { on := 13, ground := Ground.phase }, { on := 14, ground := Ground.phase }, { on := 15, ground := Ground.phase }, { on := 16, ground := Ground.phase }, { on := 17, ground := Ground.phase }, { on := 18, ground := Ground.phase }, { on := 19, ground := Ground.phase }, { on := 20, ground := Ground.phase }, { on := 21, ground := Ground.phase }, { on := 22, ground := Ground.phase }, { on := 23, ground := Ground.phase }, { on := 24, ground := Ground.phase }, { on := 25, ground := Ground.phase }, { on := 26, ground := Ground.phase }, { on := 27, ground := Ground.phase }, { on := 28, ground := Ground.phase }, { on := 29, ground := Ground.phase }, { on := 30, ground := Ground.phase }, { on := 31, ground := Ground.phase }, { on := 32, ground := Ground.phase }, { on := 33, ground := Ground.phase }, { on := 34, ground := Ground.phase }, { on := 35, ground := Ground.phase }, { on := 36, ground := Ground.phase }, { on := 37, ground := Ground.phase }, { on := 38, ground := Ground.phase }, { on := 39, ground := Ground.phase }, { on := 40, ground := Ground.phase }, { on := 41, ground := Ground.phase }], guard := none }) (d := 6) (v := ?_) rfl rfl (by kernel_rfl) (by kernel_rfl) (by kernel_rfl) (fun _ _ _ h => h) (Or.inl ⟨by rfl, ?_⟩) ?_
          rotate_left
          · (intro w' _; go_simp; (try with_reducible rfl))
          simp only [List.setIfInBounds_toArray, List.set_cons_zero, List.set_cons_succ]
          refine wpAnyD_done (by kernel_rfl) ?_ _
          go_wp2_with fail
          go_ret
          exact ⟨by simp, HBD.out.trans (HBV.out.mono HBD.out.size)⟩
      ·
        go_simp; refine gen_alloc HBV.out (fun V5 hb hci => ?_); replace HBV := Lib.hid (HBV.out.trans (hb.mono HBV.out.size)); (try (replace PYX := Lib.hid (PYX.out.below hb (Nat.le_refl _)))); (try (replace C8 := Lib.hid (blk_below hb (blk_lt C8.out) C8.out))); (try (replace C18 := Lib.hid (blk_below hb (blk_lt C18.out) C18.out))); (try (replace PYZ := Lib.hid (PYZ.out.below hb (Nat.le_refl _)))); (try (replace C20 := Lib.hid (blk_below hb (blk_lt C20.out) C20.out))); (try (replace PXYZ := Lib.hid (PXYZ.out.below hb (Nat.le_refl _)))); (try (replace C25 := Lib.hid (blk_below hb (blk_lt C25.out) C25.out))); (try (replace PXZ := Lib.hid (PXZ.out.below hb (Nat.le_refl _)))); (try (replace C27 := Lib.hid (blk_below hb (blk_lt C27.out) C27.out))); (try (replace PS := Lib.hid (PS.out.below hb (Nat.le_refl _)))); (try (replace PX1 := Lib.hid (PX1.out.below hb (Nat.le_refl _)))); have C25 := Lib.hid hci; have h := HF.out _ HBV.out; clear hb hci
        refine hK.out _ _ h (fun hHeld => ?_)
        clear hK K
        try simp only [Act.put, List.setIfInBounds_toArray, List.set_cons_zero, List.set_cons_succ]
        refine wpAnyD_one (i := 18) (o := { dst := some 76, op := Op.buildSlice 47 1 #[(0, Operand.tmp 75)], type := 47, pos := "law.go:148", after := #[{ on := 17, ground := Ground.data }, { on := 14, ground := Ground.guard }], guard := some (14, true) }) (by kernel_rfl) rfl (by rfl) (fun K hK => ?_)
        go_simp; refine gen_alloc HBV.out (fun V5 hb hci => ?_); replace HBV := Lib.hid (HBV.out.trans (hb.mono HBV.out.size)); (try (replace PYX := Lib.hid (PYX.out.below hb (Nat.le_refl _)))); (try (replace C8 := Lib.hid (blk_below hb (blk_lt C8.out) C8.out))); (try (replace C18 := Lib.hid (blk_below hb (blk_lt C18.out) C18.out))); (try (replace PYZ := Lib.hid (PYZ.out.below hb (Nat.le_refl _)))); (try (replace C20 := Lib.hid (blk_below hb (blk_lt C20.out) C20.out))); (try (replace PXYZ := Lib.hid (PXYZ.out.below hb (Nat.le_refl _)))); (try (replace C25 := Lib.hid (blk_below hb (blk_lt C25.out) C25.out))); (try (replace PXZ := Lib.hid (PXZ.out.below hb (Nat.le_refl _)))); (try (replace C27 := Lib.hid (blk_below hb (blk_lt C27.out) C27.out))); (try (replace PS := Lib.hid (PS.out.below hb (Nat.le_refl _)))); (try (replace PX1 := Lib.hid (PX1.out.below hb (Nat.le_refl _)))); have C18 := Lib.hid hci; have h := HF.out _ HBV.out; clear hb hci
        refine hK.out _ _ h (fun hHeld => ?_)
        clear hK K
        try simp only [Act.put, List.setIfInBounds_toArray, List.set_cons_zero, List.set_cons_succ]
        refine wpAnyD_one (i := 19) (o := { dst := some 77, op := Op.call { callee := Callee.value (Operand.func 25), args := #[Operand.tmp 74, Operand.tmp 76], argTypes := #[26, 47] }, type := 26, pos := "law.go:148", after := #[{ on := 16, ground := Ground.data }, { on := 18, ground := Ground.data }, { on := 14, ground := Ground.chain }, { on := 14, ground := Ground.guard }], guard := some (14, true) }) (by kernel_rfl) rfl (by rfl) (fun K hK => ?_)
        go_simp; refine (add_any _ b [d] _ 1 _ (HNY.out _ HBV.out) (nats_one (HNZ.out _ HBV.out) C18.out) (by simp) (one_sum (by rw [HYZ.out.2]; exact Lq.out.2.2.2.2.2.1)) (one_mem Lq.out.2.2.1)).mono ?_; rintro e V1 ⟨u2, rfl, hn, hb⟩; replace HBV := Lib.hid (HBV.out.trans (hb.mono HBV.out.size)); (try (replace PYX := Lib.hid (PYX.out.below hb (Nat.le_refl _)))); (try (replace C8 := Lib.hid (blk_below hb (blk_lt C8.out) C8.out))); (try (replace C18 := Lib.hid (blk_below hb (blk_lt C18.out) C18.out))); (try (replace PYZ := Lib.hid (PYZ.out.below hb (Nat.le_refl _)))); (try (replace C20 := Lib.hid (blk_below hb (blk_lt C20.out) C20.out))); (try (replace PXYZ := Lib.hid (PXYZ.out.below hb (Nat.le_refl _)))); (try (replace C25 := Lib.hid (blk_below hb (blk_lt C25.out) C25.out))); (try (replace PXZ := Lib.hid (PXZ.out.below hb (Nat.le_refl _)))); (try (replace C27 := Lib.hid (blk_below hb (blk_lt C27.out) C27.out))); (try (replace PS := Lib.hid (PS.out.below hb (Nat.le_refl _)))); (try (replace PX1 := Lib.hid (PX1.out.below hb (Nat.le_refl _)))); rw [HYZ.out.1] at hn; obtain ⟨AYZ, cYZ, rfl, hq1, hq2⟩ := hn; have PYZ := Lib.hid (show NatIs V1 _ bd from ⟨AYZ, cYZ, rfl, hq1, hq2⟩); clear hq1 hq2; have h := HF.out _ HBV.out; clear hb
        refine hK.out _ _ h (fun hHeld => ?_)
        clear hK K
        try simp only [Act.put, List.setIfInBounds_toArray, List.set_cons_zero, List.set_cons_succ]
        refine wpAnyD_one (i := 20) (o := { dst := some 78, op := Op.buildSlice 47 1 #[(0, Operand.tmp 77)], type := 47, pos := "law.go:148", after := #[{ on := 19, ground := Ground.data }, { on := 14, ground := Ground.guard }], guard := some (14, true) }) (by kernel_rfl) rfl (by rfl) (fun K hK => ?_)
        go_simp; refine gen_alloc HBV.out (fun V5 hb hci => ?_); replace HBV := Lib.hid (HBV.out.trans (hb.mono HBV.out.size)); (try (replace PYX := Lib.hid (PYX.out.below hb (Nat.le_refl _)))); (try (replace C8 := Lib.hid (blk_below hb (blk_lt C8.out) C8.out))); (try (replace C18 := Lib.hid (blk_below hb (blk_lt C18.out) C18.out))); (try (replace PYZ := Lib.hid (PYZ.out.below hb (Nat.le_refl _)))); (try (replace C20 := Lib.hid (blk_below hb (blk_lt C20.out) C20.out))); (try (replace PXYZ := Lib.hid (PXYZ.out.below hb (Nat.le_refl _)))); (try (replace C25 := Lib.hid (blk_below hb (blk_lt C25.out) C25.out))); (try (replace PXZ := Lib.hid (PXZ.out.below hb (Nat.le_refl _)))); (try (replace C27 := Lib.hid (blk_below hb (blk_lt C27.out) C27.out))); (try (replace PS := Lib.hid (PS.out.below hb (Nat.le_refl _)))); (try (replace PX1 := Lib.hid (PX1.out.below hb (Nat.le_refl _)))); have C20 := Lib.hid hci; have h := HF.out _ HBV.out; clear hb hci
        refine hK.out _ _ h (fun hHeld => ?_)
        clear hK K
        try simp only [Act.put, List.setIfInBounds_toArray, List.set_cons_zero, List.set_cons_succ]
        refine wpAnyD_one (i := 21) (o := { dst := some 79, op := Op.call { callee := Callee.value (Operand.func 31), args := #[Operand.tmp 73, Operand.tmp 78], argTypes := #[26, 47] }, type := 26, pos := "law.go:148", after := #[{ on := 15, ground := Ground.data }, { on := 20, ground := Ground.data }, { on := 19, ground := Ground.chain }, { on := 14, ground := Ground.guard }], guard := some (14, true) }) (by kernel_rfl) rfl (by rfl) (fun K hK => ?_)
        go_simp; refine (product_any _ a [bd] _ 1 _ (HNX.out _ HBV.out) (nats_one PYZ.out C20.out) (by simp) (one_prod Lq.out.1 (by rw [HXYZ.out.2]; exact Lq.out.2.2.2.2.2.2)) (one_mem Lq.out.2.2.2.2.2.1)).mono ?_; rintro e V1 ⟨u3, rfl, hn, hb⟩; replace HBV := Lib.hid (HBV.out.trans (hb.mono HBV.out.size)); (try (replace PYX := Lib.hid (PYX.out.below hb (Nat.le_refl _)))); (try (replace C8 := Lib.hid (blk_below hb (blk_lt C8.out) C8.out))); (try (replace C18 := Lib.hid (blk_below hb (blk_lt C18.out) C18.out))); (try (replace PYZ := Lib.hid (PYZ.out.below hb (Nat.le_refl _)))); (try (replace C20 := Lib.hid (blk_below hb (blk_lt C20.out) C20.out))); (try (replace PXYZ := Lib.hid (PXYZ.out.below hb (Nat.le_refl _)))); (try (replace C25 := Lib.hid (blk_below hb (blk_lt C25.out) C25.out))); (try (replace PXZ := Lib.hid (PXZ.out.below hb (Nat.le_refl _)))); (try (replace C27 := Lib.hid (blk_below hb (blk_lt C27.out) C27.out))); (try (replace PS := Lib.hid (PS.out.below hb (Nat.le_refl _)))); (try (replace PX1 := Lib.hid (PX1.out.below hb (Nat.le_refl _)))); rw [HXYZ.out.1] at hn; have PXYZ := Lib.hid hn; clear hn; have h := HF.out _ HBV.out; clear hb
        refine hK.out _ _ h (fun hHeld => ?_)
        clear hK K
        try simp only [Act.put, List.setIfInBounds_toArray, List.set_cons_zero, List.set_cons_succ]
        refine wpAnyD_one (i := 26) (o := { dst := some 84, op := Op.call { callee := Callee.value (Operand.func 31), args := #[Operand.tmp 81, Operand.tmp 83], argTypes := #[26, 47] }, type := 26, pos := "law.go:148", after := #[{ on := 23, ground := Ground.data }, { on := 25, ground := Ground.data }, { on := 21, ground := Ground.chain }, { on := 14, ground := Ground.guard }], guard := some (14, true) }) (by kernel_rfl) rfl (by rfl) (fun K hK => ?_)
        go_simp; refine (product_any _ a [d] _ 1 _ (HNX.out _ HBV.out) (nats_one (HNZ.out _ HBV.out) C25.out) (by simp) (one_prod Lq.out.1 (by rw [HXZ.out.2]; exact Lq.out.2.2.2.2.1)) (one_mem Lq.out.2.2.1)).mono ?_; rintro e V1 ⟨u4, rfl, hn, hb⟩; replace HBV := Lib.hid (HBV.out.trans (hb.mono HBV.out.size)); (try (replace PYX := Lib.hid (PYX.out.below hb (Nat.le_refl _)))); (try (replace C8 := Lib.hid (blk_below hb (blk_lt C8.out) C8.out))); (try (replace C18 := Lib.hid (blk_below hb (blk_lt C18.out) C18.out))); (try (replace PYZ := Lib.hid (PYZ.out.below hb (Nat.le_refl _)))); (try (replace C20 := Lib.hid (blk_below hb (blk_lt C20.out) C20.out))); (try (replace PXYZ := Lib.hid (PXYZ.out.below hb (Nat.le_refl _)))); (try (replace C25 := Lib.hid (blk_below hb (blk_lt C25.out) C25.out))); (try (replace PXZ := Lib.hid (PXZ.out.below hb (Nat.le_refl _)))); (try (replace C27 := Lib.hid (blk_below hb (blk_lt C27.out) C27.out))); (try (replace PS := Lib.hid (PS.out.below hb (Nat.le_refl _)))); (try (replace PX1 := Lib.hid (PX1.out.below hb (Nat.le_refl _)))); rw [HXZ.out.1] at hn; obtain ⟨AXZ, cXZ, rfl, hq1, hq2⟩ := hn; have PXZ := Lib.hid (show NatIs V1 _ ad from ⟨AXZ, cXZ, rfl, hq1, hq2⟩); clear hq1 hq2; have h := HF.out _ HBV.out; clear hb
        refine hK.out _ _ h (fun hHeld => ?_)
        clear hK K
        try simp only [Act.put, List.setIfInBounds_toArray, List.set_cons_zero, List.set_cons_succ]
        refine wpAnyD_one (i := 27) (o := { dst := some 85, op := Op.buildSlice 47 1 #[(0, Operand.tmp 84)], type := 47, pos := "law.go:148", after := #[{ on := 26, ground := Ground.data }, { on := 14, ground := Ground.guard }], guard := some (14, true) }) (by kernel_rfl) rfl (by rfl) (fun K hK => ?_)
        go_simp; refine gen_alloc HBV.out (fun V5 hb hci => ?_); replace HBV := Lib.hid (HBV.out.trans (hb.mono HBV.out.size)); (try (replace PYX := Lib.hid (PYX.out.below hb (Nat.le_refl _)))); (try (replace C8 := Lib.hid (blk_below hb (blk_lt C8.out) C8.out))); (try (replace C18 := Lib.hid (blk_below hb (blk_lt C18.out) C18.out))); (try (replace PYZ := Lib.hid (PYZ.out.below hb (Nat.le_refl _)))); (try (replace C20 := Lib.hid (blk_below hb (blk_lt C20.out) C20.out))); (try (replace PXYZ := Lib.hid (PXYZ.out.below hb (Nat.le_refl _)))); (try (replace C25 := Lib.hid (blk_below hb (blk_lt C25.out) C25.out))); (try (replace PXZ := Lib.hid (PXZ.out.below hb (Nat.le_refl _)))); (try (replace C27 := Lib.hid (blk_below hb (blk_lt C27.out) C27.out))); (try (replace PS := Lib.hid (PS.out.below hb (Nat.le_refl _)))); (try (replace PX1 := Lib.hid (PX1.out.below hb (Nat.le_refl _)))); have C27 := Lib.hid hci; have h := HF.out _ HBV.out; clear hb hci
        refine hK.out _ _ h (fun hHeld => ?_)
        clear hK K
        try simp only [Act.put, List.setIfInBounds_toArray, List.set_cons_zero, List.set_cons_succ]
        refine wpAnyD_one (i := 28) (o := { dst := some 86, op := Op.call { callee := Callee.value (Operand.func 25), args := #[Operand.tmp 80, Operand.tmp 85], argTypes := #[26, 47] }, type := 26, pos := "law.go:148", after := #[{ on := 22, ground := Ground.data }, { on := 27, ground := Ground.data }, { on := 26, ground := Ground.chain }, { on := 14, ground := Ground.guard }], guard := some (14, true) }) (by kernel_rfl) rfl (by rfl) (fun K hK => ?_)
        go_simp; refine (add_any _ ab [ad] _ 1 _ (HNP.out _ HBV.out) (nats_one PXZ.out C27.out) (by simp) (one_sum (by rw [HSM.out.2]; exact Lq.out.2.2.2.2.2.2)) (one_mem Lq.out.2.2.2.2.1)).mono ?_; rintro e V1 ⟨u5, rfl, hn, hb⟩; replace HBV := Lib.hid (HBV.out.trans (hb.mono HBV.out.size)); (try (replace PYX := Lib.hid (PYX.out.below hb (Nat.le_refl _)))); (try (replace C8 := Lib.hid (blk_below hb (blk_lt C8.out) C8.out))); (try (replace C18 := Lib.hid (blk_below hb (blk_lt C18.out) C18.out))); (try (replace PYZ := Lib.hid (PYZ.out.below hb (Nat.le_refl _)))); (try (replace C20 := Lib.hid (blk_below hb (blk_lt C20.out) C20.out))); (try (replace PXYZ := Lib.hid (PXYZ.out.below hb (Nat.le_refl _)))); (try (replace C25 := Lib.hid (blk_below hb (blk_lt C25.out) C25.out))); (try (replace PXZ := Lib.hid (PXZ.out.below hb (Nat.le_refl _)))); (try (replace C27 := Lib.hid (blk_below hb (blk_lt C27.out) C27.out))); (try (replace PS := Lib.hid (PS.out.below hb (Nat.le_refl _)))); (try (replace PX1 := Lib.hid (PX1.out.below hb (Nat.le_refl _)))); rw [HSM.out.1] at hn; have PS := Lib.hid hn; clear hn; have h := HF.out _ HBV.out; clear hb
        refine hK.out _ _ h (fun hHeld => ?_)
        clear hK K
        try simp only [Act.put, List.setIfInBounds_toArray, List.set_cons_zero, List.set_cons_succ]
        refine wpAnyD_one (i := 29) (o := { dst := some 87, op := Op.call { callee := Callee.value (Operand.func 16), args := #[Operand.tmp 79, Operand.tmp 86], argTypes := #[26, 26] }, type := 3, pos := "law.go:148", after := #[{ on := 21, ground := Ground.data }, { on := 28, ground := Ground.data }, { on := 28, ground := Ground.chain }, { on := 14, ground := Ground.guard }], guard := some (14, true) }) (by kernel_rfl) rfl (by rfl) (fun K hK => ?_)
        go_simp; refine (compare_any u3 u5 s s _ PXYZ.out PS.out Lq.out.2.2.2.2.2.2 Lq.out.2.2.2.2.2.2).mono ?_; rintro e V1 ⟨rfl, hb⟩; replace HBV := Lib.hid (HBV.out.trans (hb.mono HBV.out.size)); (try (replace PYX := Lib.hid (PYX.out.below hb (Nat.le_refl _)))); (try (replace C8 := Lib.hid (blk_below hb (blk_lt C8.out) C8.out))); (try (replace C18 := Lib.hid (blk_below hb (blk_lt C18.out) C18.out))); (try (replace PYZ := Lib.hid (PYZ.out.below hb (Nat.le_refl _)))); (try (replace C20 := Lib.hid (blk_below hb (blk_lt C20.out) C20.out))); (try (replace PXYZ := Lib.hid (PXYZ.out.below hb (Nat.le_refl _)))); (try (replace C25 := Lib.hid (blk_below hb (blk_lt C25.out) C25.out))); (try (replace PXZ := Lib.hid (PXZ.out.below hb (Nat.le_refl _)))); (try (replace C27 := Lib.hid (blk_below hb (blk_lt C27.out) C27.out))); (try (replace PS := Lib.hid (PS.out.below hb (Nat.le_refl _)))); (try (replace PX1 := Lib.hid (PX1.out.below hb (Nat.le_refl _)))); rw [show cmpN s s = 0 by unfold cmpN; rw [if_neg (by omega), if_neg (by omega)]]; have h := HF.out _ HBV.out; clear hb
        refine hK.out _ _ h (fun hHeld => ?_)
        clear hK K
        try simp only [Act.put, List.setIfInBounds_toArray, List.set_cons_zero, List.set_cons_succ]
        refine wpAnyD_takeP (i := 30) (oi := { dst := some 88, op := Op.binOp BinOp.eql 3 (Operand.tmp 87) (Operand.const (Value.int IntKind.i64 0)) 3, type := 4, pos := "law.go:148", after := #[{ on := 29, ground := Ground.data }, { on := 14, ground := Ground.guard }], guard := some (14, true) }) (d := 88) (v := ?_) rfl rfl (by kernel_rfl) (by kernel_rfl) (by kernel_rfl) (fun _ _ _ h => h) (Or.inl ⟨by rfl, ?_⟩) ?_
        rotate_left
        · (intro w' _; go_simp; (try with_reducible rfl))
        simp only [List.setIfInBounds_toArray, List.set_cons_zero, List.set_cons_succ]
        refine wpAnyD_takeP (i := 31) (oi := { dst := some 89, op := Op.pick (Operand.tmp 72) (Operand.tmp 88) (Operand.const (Value.bool false)), type := 4, pos := "law.go:148", after := #[{ on := 14, ground := Ground.data }, { on := 30, ground := Ground.data }], guard := none }) (d := 89) (v := ?_) rfl rfl (by kernel_rfl) (by kernel_rfl) (by kernel_rfl) (fun _ _ _ h => h) (Or.inl ⟨by rfl, ?_⟩) ?_
        rotate_left
        · (intro w' _; go_simp; (try with_reducible rfl))
        simp only [List.setIfInBounds_toArray, List.set_cons_zero, List.set_cons_succ]
        refine wpAnyD_takeP (i := 32) (oi := { dst := some 90, op := Op.move (Operand.tmp 89), type := 4, pos := "law.go:148", after := #[{ on := 31, ground := Ground.data }, { on := 29, ground := Ground.chain }], guard := none }) (d := 90) (v := ?_) rfl rfl (by kernel_rfl) (by kernel_rfl) (by kernel_rfl) (fun _ _ _ h => h) (Or.inl ⟨by rfl, ?_⟩) ?_
        rotate_left
        · (intro w' _; go_simp; (try with_reducible rfl))
        simp only [List.setIfInBounds_toArray, List.set_cons_zero, List.set_cons_succ]
        refine wpAnyD_takeD (i := 33) (oi := { dst := some 91, op := Op.load 26 (Operand.tmp 7), type := 26, pos := "law.go:148", after := #[{ on := 32, ground := Ground.guard }], guard := some (32, true) }) (d := 91) (v := ?_) rfl rfl (by kernel_rfl) (by kernel_rfl) (by kernel_rfl) (by kernel_rfl) (fun _ _ _ h => h) (Or.inl ⟨by rfl, ?_⟩) hHeld ?_
        rotate_left
        · (intro w' hSw; (try dsimp only at hSw); go_simp; (try with_reducible rfl))
        simp only [List.setIfInBounds_toArray, List.set_cons_zero, List.set_cons_succ]
        refine wpAnyD_takeD (i := 35) (oi := { dst := some 93, op := Op.load 26 (Operand.tmp 7), type := 26, pos := "law.go:148", after := #[{ on := 32, ground := Ground.guard }], guard := some (32, true) }) (d := 93) (v := ?_) rfl rfl (by kernel_rfl) (by kernel_rfl) (by kernel_rfl) (by kernel_rfl) (fun _ _ _ h => h) (Or.inl ⟨by rfl, ?_⟩) hHeld ?_
        rotate_left
        · (intro w' hSw; (try dsimp only at hSw); go_simp; (try with_reducible rfl))
        simp only [List.setIfInBounds_toArray, List.set_cons_zero, List.set_cons_succ]
        refine wpAnyD_one (i := 34) (o := { dst := some 92, op := Op.call { callee := Callee.value (Operand.func 31), args := #[Operand.tmp 91, Operand.const (Value.slice none 0 0)], argTypes := #[26, 47] }, type := 26, pos := "law.go:148", after := #[{ on := 33, ground := Ground.data }, { on := 32, ground := Ground.chain }, { on := 32, ground := Ground.guard }], guard := some (32, true) }) (by kernel_rfl) rfl (by rfl) (fun K hK => ?_)
        go_simp; refine (product_any _ a [] none 0 _ (HNX.out _ HBV.out) (fun i n hi => by simp at hi) (by simp) (fun k hk => by simpa [prodL] using Lq.out.1) (by simp)).mono ?_; rintro e V1 ⟨u6, rfl, hn, hb⟩; replace HBV := Lib.hid (HBV.out.trans (hb.mono HBV.out.size)); (try (replace PYX := Lib.hid (PYX.out.below hb (Nat.le_refl _)))); (try (replace C8 := Lib.hid (blk_below hb (blk_lt C8.out) C8.out))); (try (replace C18 := Lib.hid (blk_below hb (blk_lt C18.out) C18.out))); (try (replace PYZ := Lib.hid (PYZ.out.below hb (Nat.le_refl _)))); (try (replace C20 := Lib.hid (blk_below hb (blk_lt C20.out) C20.out))); (try (replace PXYZ := Lib.hid (PXYZ.out.below hb (Nat.le_refl _)))); (try (replace C25 := Lib.hid (blk_below hb (blk_lt C25.out) C25.out))); (try (replace PXZ := Lib.hid (PXZ.out.below hb (Nat.le_refl _)))); (try (replace C27 := Lib.hid (blk_below hb (blk_lt C27.out) C27.out))); (try (replace PS := Lib.hid (PS.out.below hb (Nat.le_refl _)))); (try (replace PX1 := Lib.hid (PX1.out.below hb (Nat.le_refl _)))); rw [HX1.out] at hn; have PX1 := Lib.hid hn; clear hn; have h := HF.out _ HBV.out; clear hb
        refine hK.out _ _ h (fun hHeld => ?_)
        clear hK K
        try simp only [Act.put, List.setIfInBounds_toArray, List.set_cons_zero, List.set_cons_succ]
        refine wpAnyD_one (i := 36) (o := { dst := some 94, op := Op.call { callee := Callee.value (Operand.func 16), args := #[Operand.tmp 92, Operand.tmp 93], argTypes := #[26, 26] }, type := 3, pos := "law.go:148", after := #[{ on := 34, ground := Ground.data }, { on := 35, ground := Ground.data }, { on := 34, ground := Ground.chain }, { on := 32, ground := Ground.guard }], guard := some (32, true) }) (by kernel_rfl) rfl (by rfl) (fun K hK => ?_)
        go_simp; refine (compare_any u6 _ a a _ PX1.out (HNX.out _ HBV.out) Lq.out.1 Lq.out.1).mono ?_; rintro e V1 ⟨rfl, hb⟩; replace HBV := Lib.hid (HBV.out.trans (hb.mono HBV.out.size)); (try (replace PYX := Lib.hid (PYX.out.below hb (Nat.le_refl _)))); (try (replace C8 := Lib.hid (blk_below hb (blk_lt C8.out) C8.out))); (try (replace C18 := Lib.hid (blk_below hb (blk_lt C18.out) C18.out))); (try (replace PYZ := Lib.hid (PYZ.out.below hb (Nat.le_refl _)))); (try (replace C20 := Lib.hid (blk_below hb (blk_lt C20.out) C20.out))); (try (replace PXYZ := Lib.hid (PXYZ.out.below hb (Nat.le_refl _)))); (try (replace C25 := Lib.hid (blk_below hb (blk_lt C25.out) C25.out))); (try (replace PXZ := Lib.hid (PXZ.out.below hb (Nat.le_refl _)))); (try (replace C27 := Lib.hid (blk_below hb (blk_lt C27.out) C27.out))); (try (replace PS := Lib.hid (PS.out.below hb (Nat.le_refl _)))); (try (replace PX1 := Lib.hid (PX1.out.below hb (Nat.le_refl _)))); rw [show cmpN a a = 0 by unfold cmpN; rw [if_neg (by omega), if_neg (by omega)]]; have h := HF.out _ HBV.out; clear hb
        refine hK.out _ _ h (fun hHeld => ?_)
        clear hK K
        try simp only [Act.put, List.setIfInBounds_toArray, List.set_cons_zero, List.set_cons_succ]
        refine wpAnyD_takeP (i := 37) (oi := { dst := some 95, op := Op.binOp BinOp.eql 3 (Operand.tmp 94) (Operand.const (Value.int IntKind.i64 0)) 3, type := 4, pos := "law.go:148", after := #[{ on := 36, ground := Ground.data }, { on := 32, ground := Ground.guard }], guard := some (32, true) }) (d := 95) (v := ?_) rfl rfl (by kernel_rfl) (by kernel_rfl) (by kernel_rfl) (fun _ _ _ h => h) (Or.inl ⟨by rfl, ?_⟩) ?_
        rotate_left
        · (intro w' _; go_simp; (try with_reducible rfl))
        simp only [List.setIfInBounds_toArray, List.set_cons_zero, List.set_cons_succ]
        refine wpAnyD_takeP (i := 38) (oi := { dst := some 96, op := Op.pick (Operand.tmp 90) (Operand.tmp 95) (Operand.const (Value.bool false)), type := 4, pos := "law.go:148", after := #[{ on := 32, ground := Ground.data }, { on := 37, ground := Ground.data }], guard := none }) (d := 96) (v := ?_) rfl rfl (by kernel_rfl) (by kernel_rfl) (by kernel_rfl) (fun _ _ _ h => h) (Or.inl ⟨by rfl, ?_⟩) ?_
        rotate_left
        · (intro w' _; go_simp; (try with_reducible rfl))
        simp only [List.setIfInBounds_toArray, List.set_cons_zero, List.set_cons_succ]
        refine wpAnyD_takeP (i := 39) (oi := { dst := some 97, op := Op.move (Operand.tmp 96), type := 4, pos := "law.go:148", after := #[{ on := 38, ground := Ground.data }, { on := 36, ground := Ground.chain }], guard := none }) (d := 97) (v := ?_) rfl rfl (by kernel_rfl) (by kernel_rfl) (by kernel_rfl) (fun _ _ _ h => h) (Or.inl ⟨by rfl, ?_⟩) ?_
        rotate_left
        · (intro w' _; go_simp; (try with_reducible rfl))
        simp only [List.setIfInBounds_toArray, List.set_cons_zero, List.set_cons_succ]
        refine wpAnyD_one (i := 40) (o := { dst := some 98, op := Op.call { callee := Callee.value (Operand.func 11), args := #[], argTypes := #[] }, type := 4, pos := "law.go:148", after := #[{ on := 39, ground := Ground.chain }, { on := 39, ground := Ground.guard }], guard := some (39, true) }) (by kernel_rfl) rfl (by rfl) (fun K hK => ?_)
        go_simp; refine (awake_any _).mono ?_; rintro e V1 ⟨rfl, hb⟩; replace HBV := Lib.hid (HBV.out.trans (hb.mono HBV.out.size)); (try (replace PYX := Lib.hid (PYX.out.below hb (Nat.le_refl _)))); (try (replace C8 := Lib.hid (blk_below hb (blk_lt C8.out) C8.out))); (try (replace C18 := Lib.hid (blk_below hb (blk_lt C18.out) C18.out))); (try (replace PYZ := Lib.hid (PYZ.out.below hb (Nat.le_refl _)))); (try (replace C20 := Lib.hid (blk_below hb (blk_lt C20.out) C20.out))); (try (replace PXYZ := Lib.hid (PXYZ.out.below hb (Nat.le_refl _)))); (try (replace C25 := Lib.hid (blk_below hb (blk_lt C25.out) C25.out))); (try (replace PXZ := Lib.hid (PXZ.out.below hb (Nat.le_refl _)))); (try (replace C27 := Lib.hid (blk_below hb (blk_lt C27.out) C27.out))); (try (replace PS := Lib.hid (PS.out.below hb (Nat.le_refl _)))); (try (replace PX1 := Lib.hid (PX1.out.below hb (Nat.le_refl _)))); have h := HF.out _ HBV.out; clear hb
        refine hK.out _ _ h (fun hHeld => ?_)
        clear hK K
        try simp only [Act.put, List.setIfInBounds_toArray, List.set_cons_zero, List.set_cons_succ]
        refine wpAnyD_takeP (i := 41) (oi := { dst := some 99, op := Op.pick (Operand.tmp 97) (Operand.tmp 98) (Operand.const (Value.bool false)), type := 4, pos := "law.go:148", after := #[{ on := 39, ground := Ground.data }, { on := 40, ground := Ground.data }], guard := none }) (d := 99) (v := ?_) rfl rfl (by kernel_rfl) (by kernel_rfl) (by kernel_rfl) (fun _ _ _ h => h) (Or.inl ⟨by rfl, ?_⟩) ?_
        rotate_left
        · (intro w' _; go_simp; (try with_reducible rfl))
        simp only [List.setIfInBounds_toArray, List.set_cons_zero, List.set_cons_succ]
        refine wpAnyD_takeP (i := 42) (oi := { dst := some 6, op := Op.assign (Operand.tmp 99), type := 4, pos := "law.go:148", after := #[{ on := 41, ground := Ground.data }, { on := 40, ground := Ground.chain }, { on := 0, ground := Ground.phase }, { on := 1, ground := Ground.phase }, { on := 2, ground := Ground.phase }, { on := 3, ground := Ground.phase }, { on := 4, ground := Ground.phase }, { on := 5, ground := Ground.phase }, { on := 6, ground := Ground.phase }, { on := 7, ground := Ground.phase }, { on := 8, ground := Ground.phase }, { on := 9, ground := Ground.phase }, { on := 10, ground := Ground.phase }, { on := 11, ground := Ground.phase }, { on := 12, ground := Ground.phase }, { on := 13, ground := Ground.phase }, { on := 14, ground := Ground.phase }, { on := 15, ground := Ground.phase }, { on := 16, ground := Ground.phase }, { on := 17, ground := Ground.phase }, { on := 18, ground := Ground.phase }, { on := 19, ground := Ground.phase }, { on := 20, ground := Ground.phase }, { on := 21, ground := Ground.phase }, { on := 22, ground := Ground.phase }, { on := 23, ground := Ground.phase }, { on := 24, ground := Ground.phase }, { on := 25, ground := Ground.phase }, { on := 26, ground := Ground.phase }, { on := 27, ground := Ground.phase }, { on := 28, ground := Ground.phase }, { on := 29, ground := Ground.phase }, { on := 30, ground := Ground.phase }, { on := 31, ground := Ground.phase }, { on := 32, ground := Ground.phase }, { on := 33, ground := Ground.phase }, { on := 34, ground := Ground.phase }, { on := 35, ground := Ground.phase }, { on := 36, ground := Ground.phase }, { on := 37, ground := Ground.phase }, { on := 38, ground := Ground.phase }, { on := 39, ground := Ground.phase }, { on := 40, ground := Ground.phase }, { on := 41, ground := Ground.phase }], guard := none }) (d := 6) (v := ?_) rfl rfl (by kernel_rfl) (by kernel_rfl) (by kernel_rfl) (fun _ _ _ h => h) (Or.inl ⟨by rfl, ?_⟩) ?_
        rotate_left
        · (intro w' _; go_simp; (try with_reducible rfl))
        simp only [List.setIfInBounds_toArray, List.set_cons_zero, List.set_cons_succ]
        refine wpAnyD_done (by kernel_rfl) ?_ _
        go_wp2_with fail
        go_ret
        exact ⟨by simp, HBD.out.trans (HBV.out.mono HBD.out.size)⟩
    · obtain ⟨q, rfl⟩ : ∃ q, j = q + 1 := ⟨j - 1, by omega⟩
      obtain rfl : i = (q : Int) := by omega
      clear hi
      have q0 : (0 : Int) ≤ (q : Int) := by omega
      have q1 : (q : Int) < (l2.length : Int) := by omega
      have hq1 : q < l2.length := by omega
      obtain ⟨b1, o1, rfl, hcc⟩ := (HT.out.below hbb (Nat.le_refl _)).at q hq1
      have hdrop := vl_drop B32 l2 q hq1
      rw [atL_get hq1] at hdrop
      have hx : l2[q] < 4294967296 := HX2.out _ (List.getElem_mem _)
      have hle : vl B32 (l2.drop q) ≤ b := by
        have h1 := vl_take_drop B32 l2 q (by omega)
        rw [HA2.out] at h1
        have h2 : vl B32 (l2.drop q) ≤ B32 ^ q * vl B32 (l2.drop q) := Nat.le_mul_of_pos_left _ (Nat.pow_pos (by decide))
        omega
      generalize l2[q] = x at *
      unfold u32V at hcc
      obtain ⟨acc, hacc⟩ : ∃ acc, a * vl B32 (l2.drop (q + 1)) = acc := ⟨_, rfl⟩
      obtain ⟨t, ht⟩ : ∃ t, a * vl B32 (l2.drop q) = t := ⟨_, rfl⟩
      have hte : (0 + 4294967296 * acc) + (0 + x * a) = t := by
        rw [← ht, hdrop, Nat.mul_add, ← hacc, Nat.zero_add, Nat.zero_add, Nat.mul_comm x a, Nat.mul_left_comm]
        exact Nat.add_comm _ _
      have htb : t ≤ ab := by rw [← ht, ← HAB.out.2]; exact Nat.mul_le_mul_left _ hle
      have HL1 : Hid ((dg 10 acc).length ≤ 1000000000) := Lib.hid (Nat.le_trans (HDT.out acc (by omega)) (by decide))
      have HL2 : Hid ((dg 10 (0 + 4294967296 * acc)).length ≤ 1000000000) := Lib.hid (Nat.le_trans (HDT.out _ (by omega)) (by decide))
      have HL3 : Hid ((dg 10 (0 + x * a)).length ≤ 1000000000) := Lib.hid (Nat.le_trans (HDT.out _ (by omega)) (by decide))
      have HLa : Hid ((dg 10 a).length ≤ 1000000000) := Lib.hid (Nat.le_trans LT.out.1 (by decide))
      have HTE := Lib.hid hte
      have HTT := Lib.hid ht
      rw [hacc] at HD
      have wx : IntKind.u64.wrap (x : Int) = (x : Int) := IntWalk.u64_in _ (by omega)
      have wq : IntKind.i64.wrap ((q : Int) - 1) = (q : Int) - 1 := IntWalk.i64_in _ (by omega)
      have HBV := Lib.hid (Below.refl W.drew.heap.size W.drew)
      have HND := Lib.hid (fun V (hV : Below W.drew.heap.size W.drew V) => (show DecIs W.drew (.slice AW lW cW) acc from HD.out).below hV (Nat.le_refl _))
      have HSD := Lib.hid (fun V (hV : Below W.drew.heap.size W.drew V) => (show Sl1 W.drew A u32V l from (show Sl1 W A u32V l from HS.out.below hbb (Nat.le_refl _))).below hV (Nat.le_refl _))
      have HF := Lib.hid (fun V (hV : Below W.drew.heap.size W.drew V) => below_cell hV (Nat.le_refl _) (show W.drew.cell? ⟨b1, o1 + q, none⟩ = some (.int .u32 (x : Int)) from hcc))
      have HWD : Hid (Below W1x.heap.size W1x W.drew) := Lib.hid HBB.out.drew
      clear hcc hdrop hle hacc ht hte htb HD HBB hbb
      go_wp2_with fail
      refine wp_region_held_drew (S := fun V => V.cell? ⟨b1, o1 + q, none⟩ = some (.int .u32 (x : Int))) (by kernel_rfl) (by exact HF.out _ HBV.out) (fun hHeld => ?_)
      refine wpAnyH_takeD (i := 0) (oi := { dst := some 43, op := Op.move (Operand.tmp 10), type := 30, pos := "law.go:145", after := #[], guard := none }) (d := 43) (v := ?_) rfl rfl (by kernel_rfl) (by kernel_rfl) (by kernel_rfl) (fun _ _ _ h => h) (Or.inl ⟨by rfl, ?_⟩) hHeld ?_
      rotate_left
      · (intro w' hSw; (try dsimp only at hSw); go_simp; (try with_reducible rfl))
      simp only [List.setIfInBounds_toArray, List.set_cons_zero, List.set_cons_succ]
      refine wpAnyH_takeD (i := 2) (oi := { dst := some 45, op := Op.move (Operand.tmp 0), type := 22, pos := "law.go:145", after := #[], guard := none }) (d := 45) (v := ?_) rfl rfl (by kernel_rfl) (by kernel_rfl) (by kernel_rfl) (fun _ _ _ h => h) (Or.inl ⟨by rfl, ?_⟩) hHeld ?_
      rotate_left
      · (intro w' hSw; (try dsimp only at hSw); go_simp; (try with_reducible rfl))
      simp only [List.setIfInBounds_toArray, List.set_cons_zero, List.set_cons_succ]
      refine wpAnyH_takeD (i := 4) (oi := { dst := some 47, op := Op.move (Operand.tmp 1), type := 22, pos := "law.go:145", after := #[], guard := none }) (d := 47) (v := ?_) rfl rfl (by kernel_rfl) (by kernel_rfl) (by kernel_rfl) (fun _ _ _ h => h) (Or.inl ⟨by rfl, ?_⟩) hHeld ?_
      rotate_left
      · (intro w' hSw; (try dsimp only at hSw); go_simp; (try with_reducible rfl))
      simp only [List.setIfInBounds_toArray, List.set_cons_zero, List.set_cons_succ]
      refine wpAnyH_takeD (i := 5) (oi := { dst := some 48, op := Op.move (Operand.tmp 11), type := 3, pos := "law.go:145", after := #[], guard := none }) (d := 48) (v := ?_) rfl rfl (by kernel_rfl) (by kernel_rfl) (by kernel_rfl) (fun _ _ _ h => h) (Or.inl ⟨by rfl, ?_⟩) hHeld ?_
      rotate_left
      · (intro w' hSw; (try dsimp only at hSw); go_simp; (try with_reducible rfl))
      simp only [List.setIfInBounds_toArray, List.set_cons_zero, List.set_cons_succ]
      refine wpAnyH_takeD (i := 6) (oi := { dst := some 49, op := Op.indexAddr 22 (Operand.tmp 47) (Operand.tmp 48), type := 0, pos := "law.go:145", after := #[{ on := 4, ground := Ground.data }, { on := 5, ground := Ground.data }], guard := none }) (d := 49) (v := ?_) rfl rfl (by kernel_rfl) (by kernel_rfl) (by kernel_rfl) (fun _ _ _ h => h) (Or.inl ⟨by rfl, ?_⟩) hHeld ?_
      rotate_left
      · (intro w' hSw; (try dsimp only at hSw); go_simp; (try with_reducible rfl))
      simp only [List.setIfInBounds_toArray, List.set_cons_zero, List.set_cons_succ]
      refine wpAnyH_takeD (i := 7) (oi := { dst := some 50, op := Op.load 50 (Operand.tmp 49), type := 50, pos := "law.go:145", after := #[{ on := 6, ground := Ground.data }], guard := none }) (d := 50) (v := ?_) rfl rfl (by kernel_rfl) (by kernel_rfl) (by kernel_rfl) (fun _ _ _ h => h) (Or.inl ⟨by rfl, ?_⟩) hHeld ?_
      rotate_left
      · (intro w' hSw; (try dsimp only at hSw); go_simp; (try with_reducible rfl))
      simp only [List.setIfInBounds_toArray, List.set_cons_zero, List.set_cons_succ]
      refine wpAnyH_takeD (i := 8) (oi := { dst := some 51, op := Op.convert 50 39 (Operand.tmp 50), type := 39, pos := "law.go:145", after := #[{ on := 7, ground := Ground.data }], guard := none }) (d := 51) (v := ?_) rfl rfl (by kernel_rfl) (by kernel_rfl) (by kernel_rfl) (fun _ _ _ h => h) (Or.inl ⟨by rfl, ?_⟩) hHeld ?_
      rotate_left
      · (intro w' hSw; (try dsimp only at hSw); go_simp; (try with_reducible rfl))
      simp only [List.setIfInBounds_toArray, List.set_cons_zero, List.set_cons_succ]
      refine wpAnyH_ready (rs := [1]) (by kernel_rfl) (by simp) ?_
      refine AllReadyH.cons (o := { dst := some 44, op := Op.call { callee := Callee.value (Operand.func 27), args := #[Operand.tmp 43, Operand.const (Value.int IntKind.u64 4294967296), Operand.const (Value.int IntKind.u64 0)], argTypes := #[30, 39, 39] }, type := 30, pos := "law.go:145", after := #[{ on := 0, ground := Ground.data }], guard := none }) rfl (fun K hK => ?_) AllReadyH.nil
      (try go_simp)
      refine (rtimes_any _ acc 4294967296 0 _ (HND.out _ HBV.out) (by omega) (by omega) HL1.out).mono ?_; rintro e V1 ⟨v3, rfl, hn, hb⟩; replace HBV := Lib.hid (HBV.out.trans (hb.mono HBV.out.size)); have N3 := Lib.hid hn; have h := HF.out _ HBV.out; clear hn hb
      go_wp2_with fail
      refine hK.out _ _ h (fun hHeld => ?_)
      clear hK K
      try simp only [Act.put, List.setIfInBounds_toArray, List.set_cons_zero, List.set_cons_succ]
      refine wpAnyH_ready (rs := [3]) (by kernel_rfl) (by simp) ?_
      refine AllReadyH.cons (o := { dst := some 46, op := Op.call { callee := Callee.value (Operand.func 14), args := #[Operand.tmp 45], argTypes := #[22] }, type := 30, pos := "law.go:145", after := #[{ on := 2, ground := Ground.data }, { on := 1, ground := Ground.chain }], guard := none }) rfl (fun K hK => ?_) AllReadyH.nil
      (try go_simp)
      refine (rof_any l A c _ (HSD.out _ HBV.out) HX.out (by omega)).mono ?_; rintro e V2 ⟨v4, rfl, hn, hb⟩; replace HBV := Lib.hid (HBV.out.trans (hb.mono HBV.out.size)); replace N3 := Lib.hid (N3.out.below hb (Nat.le_refl _)); rw [HA.out] at hn; have N4 := Lib.hid hn; have h := HF.out _ HBV.out; clear hn hb
      go_wp2_with fail
      refine hK.out _ _ h (fun hHeld => ?_)
      clear hK K
      try simp only [Act.put, List.setIfInBounds_toArray, List.set_cons_zero, List.set_cons_succ]
      refine wpAnyH_ready (rs := [9]) (by kernel_rfl) (by simp) ?_
      refine AllReadyH.cons (o := { dst := some 52, op := Op.call { callee := Callee.value (Operand.func 27), args := #[Operand.tmp 46, Operand.tmp 51, Operand.const (Value.int IntKind.u64 0)], argTypes := #[30, 39, 39] }, type := 30, pos := "law.go:145", after := #[{ on := 3, ground := Ground.data }, { on := 8, ground := Ground.data }, { on := 3, ground := Ground.chain }], guard := none }) rfl (fun K hK => ?_) AllReadyH.nil
      (try go_simp)
      refine (rtimes_any v4 a x 0 _ N4.out (by omega) (by omega) HLa.out).mono ?_; rintro e V3 ⟨v5, rfl, hn, hb⟩; replace HBV := Lib.hid (HBV.out.trans (hb.mono HBV.out.size)); replace N3 := Lib.hid (N3.out.below hb (Nat.le_refl _)); have N5 := Lib.hid hn; have h := HF.out _ HBV.out; clear hn hb
      go_wp2_with fail
      refine hK.out _ _ h (fun hHeld => ?_)
      clear hK K
      try simp only [Act.put, List.setIfInBounds_toArray, List.set_cons_zero, List.set_cons_succ]
      refine wpAnyH_ready (rs := [10]) (by kernel_rfl) (by simp) ?_
      refine AllReadyH.cons (o := { dst := some 53, op := Op.call { callee := Callee.value (Operand.func 19), args := #[Operand.tmp 44, Operand.tmp 52], argTypes := #[30, 30] }, type := 30, pos := "law.go:145", after := #[{ on := 1, ground := Ground.data }, { on := 9, ground := Ground.data }, { on := 9, ground := Ground.chain }], guard := none }) rfl (fun K hK => ?_) AllReadyH.nil
      (try go_simp)
      refine (radd_any v3 v5 _ _ _ N3.out N5.out HL2.out HL3.out).mono ?_; rintro e V4 ⟨v6, rfl, hn, hb⟩; replace HBV := Lib.hid (HBV.out.trans (hb.mono HBV.out.size)); rw [HTE.out] at hn; have N6 := Lib.hid hn; have h := HF.out _ HBV.out; clear hn hb
      go_wp2_with fail
      refine hK.out _ _ h (fun hHeld => ?_)
      clear hK K
      try simp only [Act.put, List.setIfInBounds_toArray, List.set_cons_zero, List.set_cons_succ]
      refine wpAnyH_takeD (i := 11) (oi := { dst := some 10, op := Op.assign (Operand.tmp 53), type := 30, pos := "law.go:145", after := #[{ on := 10, ground := Ground.data }, { on := 10, ground := Ground.chain }, { on := 0, ground := Ground.phase }, { on := 1, ground := Ground.phase }, { on := 2, ground := Ground.phase }, { on := 3, ground := Ground.phase }, { on := 4, ground := Ground.phase }, { on := 5, ground := Ground.phase }, { on := 6, ground := Ground.phase }, { on := 7, ground := Ground.phase }, { on := 8, ground := Ground.phase }, { on := 9, ground := Ground.phase }, { on := 10, ground := Ground.phase }], guard := none }) (d := 10) (v := ?_) rfl rfl (by kernel_rfl) (by kernel_rfl) (by kernel_rfl) (fun _ _ _ h => h) (Or.inl ⟨by rfl, ?_⟩) hHeld ?_
      rotate_left
      · (intro w' hSw; (try dsimp only at hSw); go_simp; (try with_reducible rfl))
      simp only [List.setIfInBounds_toArray, List.set_cons_zero, List.set_cons_succ]
      refine wpAnyH_done (by kernel_rfl) ?_ _
      obtain ⟨A6, c6, rfl, hq1, hq2⟩ := N6.out
      have HD6 : Hid (DecIs V4 (.slice A6 (dg 10 t).length c6) (a * vl B32 (l2.drop q))) := Lib.hid (by rw [HTT.out]; exact ⟨A6, c6, rfl, hq1, hq2⟩)
      have HBN := Lib.hid (HWD.out.trans (HBV.out.mono HWD.out.size))
      clear hq1 hq2 hHeld
      go_wp2_with fail
      go_roundg q
      case measure => omega
      case rel => exact ⟨q, _, A6, _, c6, rfl, rfl, rfl, by omega, rfl, HD6.out, HBN.out⟩

theorem mult_law (x0 : List Int) (A0 : Option Addr) (c0 : Nat) (x1 : List Int) (A1 : Option Addr) (c1 : Nat) (x2 : List Int) (A2 : Option Addr) (c2 : Nat) (w : World)
    (_ : x0.length ≤ c0) (_ : c0 ≤ maxLen) (h0 : ∀ y ∈ x0, (Lit.int .u32 y).wf = true) (s0 : Sl1 w A0 (Value.int .u32) x0) (_ : x1.length ≤ c1) (_ : c1 ≤ maxLen) (h1 : ∀ y ∈ x1, (Lit.int .u32 y).wf = true) (s1 : Sl1 w A1 (Value.int .u32) x1) (_ : x2.length ≤ c2) (_ : c2 ≤ maxLen) (h2 : ∀ y ∈ x2, (Lit.int .u32 y).wf = true) (s2 : Sl1 w A2 (Value.int .u32) x2) :
    Calls Try.prog 9 #[.slice A0 x0.length c0, .slice A1 x1.length c1, .slice A2 x2.length c2] w (RetTrue w) := by
  obtain ⟨p0, q0⟩ := sl_u32 s0 h0
  obtain ⟨p1, q1⟩ := sl_u32 s1 h1
  obtain ⟨p2, q2⟩ := sl_u32 s2 h2
  have e0 : x0.length = (x0.map Int.toNat).length := by simp
  have e1 : x1.length = (x1.map Int.toNat).length := by simp
  have e2 : x2.length = (x2.map Int.toNat).length := by simp
  rw [e0, e1, e2]
  by_cases h : (x0.map Int.toNat).length ≤ 8 ∧ (x1.map Int.toNat).length ≤ 8 ∧ (x2.map Int.toNat).length ≤ 20
  · exact mult_small _ _ _ A0 A1 A2 c0 c1 c2 w p0 p1 p2 q0 q1 q2 h.1 h.2.1 h.2.2
  · exact mult_big _ _ _ A0 A1 A2 c0 c1 c2 w h
end Go.Proofs.Ytnfehhblmoliaaa
