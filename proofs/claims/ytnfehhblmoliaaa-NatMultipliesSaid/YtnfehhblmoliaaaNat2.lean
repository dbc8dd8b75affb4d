/- Layer 1 (nat): Int, Limbs, Zero, at. -/
import Derived.Test.YtnfehhblmoliaaaNat1
namespace Go.Proofs.Ytnfehhblmoliaaa
open Go.RowKit Go.Maps Go.WideMaps
set_option maxRecDepth 100000
set_option linter.unusedVariables false
set_option linter.unusedSimpArgs false

theorem zero_any (v : Value) (n : Nat) (w : World) (h : NatIs w v n) :
    Calls Try.prog 17 #[v] w fun e w' => e = .returned (.bool (decide (n = 0))) ∧ Below w.heap.size w w' := by
  obtain ⟨A, c, rfl, h1, h2⟩ := h
  have hz : decide (n = 0) = decide ((dg B32 n).length = 0) := decide_eq_decide.2 (dg_len_zero (by decide)).symm
  rw [hz]
  clear hz h1 h2
  generalize (dg B32 n).length = k
  have hb0 := (Below.refl w.heap.size w).alloc (Nat.le_refl _) (.cells #[.slice A k c] 26)
  obtain ⟨f0, f1⟩ := cell_facts (blk_new w (.cells #[.slice A k c] 26))
  have HB := Lib.hid hb0
  clear hb0
  by_cases hk : k = 0
  · subst hk
    go_enter Try.func17, Try.ntmps17
    go_wp2_with fail
    go_ret
    exact ⟨rfl, HB.out⟩
  · have hk' : ¬ (k : Int) = 0 := by omega
    go_enter Try.func17, Try.ntmps17
    go_wp2_with fail
    go_ret
    exact ⟨by simp [hk], HB.out⟩
theorem limbs_any (v : Value) (n : Nat) (w : World) (h : NatIs w v n) (hn : (dg B32 n).length ≤ 1000) :
    Calls Try.prog 20 #[v] w fun e w' => ∃ A c, e = .returned (.slice A (dg B32 n).length c) ∧ (dg B32 n).length ≤ c ∧ Sl1 w' A u32V (dg B32 n) ∧ Below w.heap.size w w' := by
  obtain ⟨A, c, rfl, h1, h2⟩ := h
  have hb0 := (Below.refl w.heap.size w).alloc (Nat.le_refl _) (.cells #[.slice A (dg B32 n).length c] 26)
  obtain ⟨f0, f1⟩ := cell_facts (blk_new w (.cells #[.slice A (dg B32 n).length c] 26))
  have HB := Lib.hid hb0
  have HL := Lib.hid (h1.below hb0 (Nat.le_refl _))
  have HS : Hid (w.heap.size ≤ (w.alloc (.cells #[.slice A (dg B32 n).length c] 26)).heap.size) := Lib.hid (by simp)
  clear h1 hb0
  go_enter Try.func20, Try.ntmps20
  go_wp2_with fail
  refine (clone_u32 (dg B32 n) A c _ HL.out hn).mono ?_
  rintro e w1 ⟨A1, c1, rfl, hc1, h1, b1⟩
  have H1 := Lib.hid h1
  have B1 := Lib.hid b1
  clear h1 b1
  go_wp2_with fail
  go_ret
  exact ⟨A1, c1, rfl, hc1, H1.out, HB.out.trans (B1.out.mono HS.out)⟩
/-- a limb, 0 behind the last one -/
theorem at_any (l : List Nat) (A : Option Addr) (c : Nat) (i : Nat) (w : World) (h : Sl1 w A u32V l) (hi : i < 9000000000000000000) :
    Calls Try.prog 34 #[.agg #[.slice A l.length c], .int .i64 (i : Int)] w fun e w' => e = .returned (.int .u32 ((atL l i : Nat) : Int)) ∧ Below w.heap.size w w' := by
  have hb0 := (Below.refl w.heap.size w).alloc (Nat.le_refl _) (.cells #[.slice A l.length c] 26)
  obtain ⟨f0, f1⟩ := cell_facts (blk_new w (.cells #[.slice A l.length c] 26))
  have HB := Lib.hid hb0
  by_cases hlt : i < l.length
  · obtain ⟨b, o, rfl, hc⟩ := h.at i hlt
    have hc' := below_cell hb0 (Nat.le_refl _) hc
    rw [atL_get hlt]
    unfold u32V at *
    generalize l[i] = x at *
    have i0 : (0 : Int) ≤ (i : Int) := by omega
    have i1 : (i : Int) < (l.length : Int) := by omega
    clear hb0 h hc
    go_enter Try.func34, Try.ntmps34
    go_wp2_with fail
    go_ret
    exact ⟨rfl, HB.out⟩
  · have i1 : ¬ (i : Int) < (l.length : Int) := by omega
    have i2 : (l.length : Int) ≤ (i : Int) := by omega
    rw [atL_ge (by omega)]
    unfold u32V at *
    clear hb0 h
    go_enter Try.func34, Try.ntmps34
    go_wp2_with fail
    go_ret
    exact ⟨rfl, HB.out⟩
theorem int_any (n : Nat) (w : World) (hn : n < B32 * B32) :
    Calls Try.prog 21 #[.int .u64 (n : Int)] w fun e w' => ∃ v, e = .returned v ∧ NatIs w' v n ∧ Below w.heap.size w w' := by
  have hb0 := (Below.refl w.heap.size w).alloc (Nat.le_refl _) (.cells #[.slice none 0 0] 26)
  have HB0 := Lib.hid hb0
  have HR := Lib.hid (blk_new w (.cells #[.slice none 0 0] 26))
  have HS : Hid (w.heap.size < (w.alloc (.cells #[.slice none 0 0] 26)).heap.size) := Lib.hid (by simp)
  clear hb0
  go_enter Try.func21, Try.ntmps21
  go_wp2_with fail
  have e0 : (n : Int) % 4294967296 = ((n % B32 : Nat) : Int) := by simp [B32]
  have e1 : (n : Int) / 4294967296 % 4294967296 = ((n / B32 : Nat) : Int) := by
    have hn' : n < 18446744073709551616 := hn
    show _ = ((n / 4294967296 : Nat) : Int)
    omega
  rw [e0, e1]
  have ev : n % B32 + B32 * (n / B32 + B32 * 0) = n := by rw [Nat.mul_zero, Nat.add_zero]; exact Nat.mod_add_div n B32
  have hx0 : n % B32 < B32 := Nat.mod_lt _ (by decide)
  have hx1 : n / B32 < B32 := Nat.div_lt_of_lt_mul hn
  generalize n % B32 = x0 at *
  generalize n / B32 = x1 at *
  clear e0 e1
  have hsz : w.heap.size + 1 = (w.alloc (.cells #[.slice none 0 0] 26)).heap.size := by simp
  rw [hsz]
  have HSZ := Lib.hid hsz
  clear hsz
  generalize w.alloc (.cells #[.slice none 0 0] 26) = W0 at *
  have b1 := (Below.refl W0.heap.size W0).alloc (Nat.le_refl _) (.cells #[.int .u32 (x0 : Int), .int .u32 (x1 : Int)] 50)
  have h1 : Sl1 (W0.alloc (.cells #[.int .u32 (x0 : Int), .int .u32 (x1 : Int)] 50)) (some ⟨W0.heap.size, 0, none⟩) u32V [x0, x1] := by
    intro i x hx
    have hcell := blk_cell (blk_new W0 (.cells #[.int .u32 (x0 : Int), .int .u32 (x1 : Int)] 50)) i
    refine ⟨_, _, rfl, ?_⟩
    rw [Nat.zero_add, hcell]
    rcases i with _ | _ | i <;> simp at hx <;> subst hx <;> rfl
  have B1 := Lib.hid b1
  have hsz1 : W0.heap.size ≤ (W0.alloc (.cells #[.int .u32 (x0 : Int), .int .u32 (x1 : Int)] 50)).heap.size := b1.size
  clear b1
  generalize W0.alloc (.cells #[.int .u32 (x0 : Int), .int .u32 (x1 : Int)] 50) = W1 at *
  refine (trim_any [x0, x1] _ 2 W1 h1 (Nat.le_refl _) (by intro x hx; simp at hx; rcases hx with rfl | rfl <;> assumption) (by simp)).mono ?_
  rintro e w2 ⟨v, rfl, h2, b2⟩
  have ev' : vl B32 [x0, x1] = n := ev
  rw [ev'] at h2
  obtain ⟨A2, c2, rfl, h2, h3⟩ := h2
  have hR := blk_below B1.out HS.out HR.out
  have hR2 := blk_below b2 (Nat.lt_of_lt_of_le HS.out B1.out.size) hR
  obtain ⟨f0, f1⟩ := cell_facts hR2
  have HP := Lib.hid (cell_put hR2 (.slice A2 (dg B32 n).length c2))
  have HN := Lib.hid (NatIs.put ⟨A2, c2, rfl, h2, h3⟩ hR2 (sl_ne_u32 _ _ _) (.slice A2 (dg B32 n).length c2))
  have HB := Lib.hid (((HB0.out.trans (B1.out.mono HB0.out.size)).trans (b2.mono (Nat.le_trans HB0.out.size B1.out.size))).setCell (p := ⟨w.heap.size, 0, none⟩) (Nat.le_refl _) (.slice A2 (dg B32 n).length c2))
  clear h2 h3 b2 hR hR2 ev ev' hx0 hx1 hsz1
  go_wp2_with fail
  refine ret_cell1 rfl rfl (load_nat HP.out) ?_
  exact ⟨_, rfl, HN.out, HB.out⟩
end Go.Proofs.Ytnfehhblmoliaaa
