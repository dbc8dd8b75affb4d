/- Layer 1 (nat): Add and Product of many; Uint64; Divide by 0. -/
import Derived.Test.YtnfehhblmoliaaaNat9
namespace Go.Proofs.Ytnfehhblmoliaaa
open Go.RowKit Go.Maps Go.WideMaps
set_option maxRecDepth 100000
set_option linter.unusedVariables false
set_option linter.unusedSimpArgs false

/-- a slice of numbers, read -/
def NatsIs (w : World) (A : Option Addr) (ns : List Nat) : Prop := ∀ i n, ns[i]? = some n → ∃ b o s, A = some ⟨b, o, none⟩ ∧ w.cell? ⟨b, o + i, none⟩ = some s ∧ NatIs w (.agg #[s]) n
theorem NatsIs.below {w w' : World} {A : Option Addr} {ns : List Nat} (h : NatsIs w A ns) {B : Nat} (hb : Below B w w') (hB : w.heap.size ≤ B) : NatsIs w' A ns := by
  intro i n hn
  obtain ⟨b, o, s, e, hc, hn⟩ := h i n hn
  exact ⟨b, o, s, e, below_cell hb hB hc, hn.below hb hB⟩
def sumL (l : List Nat) : Nat := l.foldr (· + ·) 0
def prodL (l : List Nat) : Nat := l.foldr (· * ·) 1
theorem sumL_snoc (l : List Nat) (x : Nat) : sumL (l ++ [x]) = sumL l + x := by
  induction l with
  | nil => simp [sumL]
  | cons y l ih => simp only [sumL, List.cons_append, List.foldr_cons] at ih ⊢; rw [ih]; omega
theorem prodL_snoc (l : List Nat) (x : Nat) : prodL (l ++ [x]) = prodL l * x := by
  induction l with
  | nil => simp [prodL]
  | cons y l ih => simp only [prodL, List.cons_append, List.foldr_cons] at ih ⊢; rw [ih, Nat.mul_assoc]
structure AddIs (w W : World) (r : Nat) (s : Value) (acc : Nat) : Prop where
  below : Below w.heap.size w W
  c0 : W.heap[r]? = some (.cells #[s] 26)
  c1 : W.heap[r + 1]? = some (.cells #[.slice none 0 0] 26)
  sl : ∀ x : Nat, s ≠ u32V x
  nat : NatIs W (.agg #[s]) acc
theorem AddIs.step {w W V : World} {r : Nat} {s : Value} {acc : Nat} (h : AddIs w W r s acc) (hb : Below W.heap.size W V) : AddIs w V r s acc :=
  ⟨h.below.trans (hb.mono h.below.size), blk_below hb (blk_lt h.c0) h.c0, blk_below hb (blk_lt h.c1) h.c1, h.sl, h.nat.below hb (Nat.le_refl _)⟩


set_option maxHeartbeats 8000000 in
theorem add_any (v1 : Value) (n1 : Nat) (ns : List Nat) (A : Option Addr) (c : Nat) (w : World) (h1 : NatIs w v1 n1) (h2 : NatsIs w A ns) (hlen : ns.length ≤ 100000)
    (hs1 : ∀ k, k ≤ ns.length → (dg B32 (n1 + sumL (ns.take k))).length ≤ 100000) (hs2 : ∀ n ∈ ns, (dg B32 n).length ≤ 100000) :
    Calls Try.prog 25 #[v1, .slice A ns.length c] w fun e w' => ∃ v, e = .returned v ∧ NatIs w' v (n1 + sumL ns) ∧ Below w.heap.size w w' := by
  obtain ⟨A1, c1, rfl, s1, k1⟩ := h1
  have h3 := two_cells w (.cells #[.slice A1 (dg B32 n1).length c1] 26) (.cells #[.slice none 0 0] 26)
  have HNS := Lib.hid h2
  have HI : Hid (AddIs w ((w.alloc (.cells #[.slice A1 (dg B32 n1).length c1] 26)).alloc (.cells #[.slice none 0 0] 26)) w.heap.size (.slice A1 (dg B32 n1).length c1) n1) :=
    Lib.hid ⟨h3.2.2.1, h3.1, h3.2.1, sl_ne_u32 _ _ _, NatIs.below ⟨A1, c1, rfl, s1, k1⟩ h3.2.2.1 (Nat.le_refl _)⟩
  have HS1 := Lib.hid hs1
  have HS2 := Lib.hid hs2
  clear s1 k1 h3 h2 hs1 hs2
  go_enter Try.func25, Try.ntmps25
  go_upto_region 1 with fail
  generalize (w.alloc (.cells #[.slice A1 (dg B32 n1).length c1] 26)).alloc (.cells #[.slice none 0 0] 26) = W0 at *
  generalize Value.slice A1 (dg B32 n1).length c1 = s0 at *
  generalize hr : w.heap.size = r at HI ⊢
  have HR := Lib.hid hr
  clear hr
  go_wp2_with fail
  go_loopg [9] ns.length (fun n v9 W => ∃ (k : Nat) (s : Value), k + n = ns.length ∧ v9 = .int .i64 (k : Int) ∧ AddIs w W r s (n1 + sumL (ns.take k)))
  case atStart => exact ⟨0, s0, by omega, rfl, by simpa [sumL] using HI.out⟩
  case round =>
    obtain ⟨k, s, hk, rfl, hW⟩ := hrel
    rename World => W
    clear HI
    have HW := Lib.hid hW
    clear hW
    by_cases hlt : k < ns.length
    · have hlt' : (k : Int) < (ns.length : Int) := by omega
      have k0 : (0 : Int) ≤ (k : Int) := by omega
      obtain ⟨b1, o1, sx, rfl, hcx, hnx⟩ := HNS.out k ns[k] (by simp [hlt])
      obtain ⟨Ax, cx, hsx, hx1, hx2⟩ := id hnx
      simp only [Value.agg.injEq, List.cons.injEq, Array.mk.injEq, and_true] at hsx
      obtain ⟨lx, hlx⟩ : ∃ lx, (dg B32 ns[k]).length = lx := ⟨_, rfl⟩
      rw [hlx] at hsx
      subst hsx
      clear hx1 hx2 hlx
      have hcx' := below_cell HW.out.below (Nat.le_refl _) hcx
      obtain ⟨acc, hacc⟩ : ∃ acc, n1 + sumL (ns.take k) = acc := ⟨_, rfl⟩
      have hnext : n1 + sumL (ns.take (k + 1)) = acc + ns[k] := by rw [take_snoc hlt, sumL_snoc, ← hacc]; omega
      have HL3 := Lib.hid (HS1.out k (by omega))
      have HL4 := Lib.hid (HS1.out (k + 1) (by omega))
      rw [hacc] at HL3 HW
      rw [hnext] at HL4
      have HL1 := Lib.hid (HS2.out ns[k] (List.getElem_mem _))
      have HNEXT := Lib.hid hnext
      have hbW := (Below.refl W.heap.size W).alloc (Nat.le_refl _) (.cells #[.slice Ax lx cx] 26)
      have HW1 := Lib.hid (HW.out.step hbW)
      have HC5 := Lib.hid (blk_new W (.cells #[.slice Ax lx cx] 26))
      have HNX := Lib.hid (hnx.below (HW1.out.below) (Nat.le_refl _))
      obtain ⟨z0, z1⟩ := cell_facts (blk_new W (.cells #[.slice none 0 0] 26))
      obtain ⟨y0, y1⟩ := cell_facts HW1.out.c0
      obtain ⟨x0, x1⟩ := cell_facts HC5.out
      clear hcx hnx hacc hnext hbW
      generalize ns[k] = m at *
      go_wp2_with fail
      refine (plus_any (.agg #[s]) (.agg #[.slice Ax lx cx]) acc m _ HW1.out.nat HNX.out HL3.out HL1.out).mono ?_
      rintro e w6 ⟨v6, rfl, hn6, hb6⟩
      have HW6 := Lib.hid (HW1.out.step hb6)
      obtain ⟨A6, c6, rfl, hs6, hc6⟩ := hn6
      obtain ⟨p0, p1⟩ := cell_facts HW6.out.c0
      have HNX : Hid (AddIs w (w6.setCell ⟨r, 0, none⟩ (.slice A6 (dg B32 (acc + m)).length c6)) r (.slice A6 (dg B32 (acc + m)).length c6) (n1 + sumL (ns.take (k + 1)))) := Lib.hid (by
        have h := HW6.out
        refine ⟨h.below.setCell (p := ⟨r, 0, none⟩) (by rw [HR.out]; exact Nat.le_refl _) _, cell_put h.c0 _, blk_far (p := ⟨r, 0, none⟩) h.c1 (by show r + 1 ≠ r; omega) _, sl_ne_u32 _ _ _, ?_⟩
        rw [HNEXT.out]
        exact NatIs.put ⟨A6, c6, rfl, hs6, hc6⟩ h.c0 h.sl _)
      have wk : IntKind.i64.wrap ((k : Int) + 1) = (k : Int) + 1 := IntWalk.i64_in _ (by omega)
      clear hs6 hc6 hb6 z0 z1 y0 y1 x0 x1
      generalize (dg B32 (acc + m)).length = l6 at HNX ⊢
      go_wp2_with fail
      go_roundg (gk - 1)
      case measure => omega
      case rel => exact ⟨k + 1, _, by omega, by simp, HNX.out⟩
    · have hke : k = ns.length := by omega
      have hlt' : ¬ (k : Int) < (ns.length : Int) := by omega
      have HE : Hid (n1 + sumL (ns.take k) = n1 + sumL ns) := Lib.hid (by rw [hke, List.take_length])
      rw [HE.out] at HW
      clear hke
      obtain ⟨A, c, hs, h1, h2⟩ := HW.out.nat
      simp only [Value.agg.injEq, List.cons.injEq, Array.mk.injEq, and_true] at hs
      subst hs
      have HQ := Lib.hid (NatIs.put HW.out.nat HW.out.c1 (sl_ne_u32 _ _ _) (.slice A (dg B32 (n1 + sumL ns)).length c))
      have HP := Lib.hid (cell_put HW.out.c1 (.slice A (dg B32 (n1 + sumL ns)).length c))
      have HB := Lib.hid (HW.out.below.setCell (p := ⟨r + 1, 0, none⟩) (by rw [HR.out]; show r ≤ r + 1; omega) (.slice A (dg B32 (n1 + sumL ns)).length c))
      obtain ⟨z0, z1⟩ := cell_facts HW.out.c0
      obtain ⟨y0, y1⟩ := cell_facts HW.out.c1
      clear h1 h2
      go_wp2_with fail
      refine ret_cell1 rfl rfl (load_nat HP.out) ?_
      exact ⟨_, rfl, HQ.out, HB.out⟩

set_option maxHeartbeats 8000000 in
theorem product_any (v1 : Value) (n1 : Nat) (ns : List Nat) (A : Option Addr) (c : Nat) (w : World) (h1 : NatIs w v1 n1) (h2 : NatsIs w A ns) (hlen : ns.length ≤ 100000)
    (hs1 : ∀ k, k ≤ ns.length → (dg B32 (n1 * prodL (ns.take k))).length ≤ 100000) (hs2 : ∀ n ∈ ns, (dg B32 n).length ≤ 100000) :
    Calls Try.prog 31 #[v1, .slice A ns.length c] w fun e w' => ∃ v, e = .returned v ∧ NatIs w' v (n1 * prodL ns) ∧ Below w.heap.size w w' := by
  obtain ⟨A1, c1, rfl, s1, k1⟩ := h1
  have h3 := two_cells w (.cells #[.slice A1 (dg B32 n1).length c1] 26) (.cells #[.slice none 0 0] 26)
  have HNS := Lib.hid h2
  have HI : Hid (AddIs w ((w.alloc (.cells #[.slice A1 (dg B32 n1).length c1] 26)).alloc (.cells #[.slice none 0 0] 26)) w.heap.size (.slice A1 (dg B32 n1).length c1) n1) :=
    Lib.hid ⟨h3.2.2.1, h3.1, h3.2.1, sl_ne_u32 _ _ _, NatIs.below ⟨A1, c1, rfl, s1, k1⟩ h3.2.2.1 (Nat.le_refl _)⟩
  have HS1 := Lib.hid hs1
  have HS2 := Lib.hid hs2
  clear s1 k1 h3 h2 hs1 hs2
  go_enter Try.func31, Try.ntmps31
  go_upto_region 1 with fail
  generalize (w.alloc (.cells #[.slice A1 (dg B32 n1).length c1] 26)).alloc (.cells #[.slice none 0 0] 26) = W0 at *
  generalize Value.slice A1 (dg B32 n1).length c1 = s0 at *
  generalize hr : w.heap.size = r at HI ⊢
  have HR := Lib.hid hr
  clear hr
  go_wp2_with fail
  go_loopg [9] ns.length (fun n v9 W => ∃ (k : Nat) (s : Value), k + n = ns.length ∧ v9 = .int .i64 (k : Int) ∧ AddIs w W r s (n1 * prodL (ns.take k)))
  case atStart => exact ⟨0, s0, by omega, rfl, by simpa [prodL] using HI.out⟩
  case round =>
    obtain ⟨k, s, hk, rfl, hW⟩ := hrel
    rename World => W
    clear HI
    have HW := Lib.hid hW
    clear hW
    by_cases hlt : k < ns.length
    · have hlt' : (k : Int) < (ns.length : Int) := by omega
      have k0 : (0 : Int) ≤ (k : Int) := by omega
      obtain ⟨b1, o1, sx, rfl, hcx, hnx⟩ := HNS.out k ns[k] (by simp [hlt])
      obtain ⟨Ax, cx, hsx, hx1, hx2⟩ := id hnx
      simp only [Value.agg.injEq, List.cons.injEq, Array.mk.injEq, and_true] at hsx
      obtain ⟨lx, hlx⟩ : ∃ lx, (dg B32 ns[k]).length = lx := ⟨_, rfl⟩
      rw [hlx] at hsx
      subst hsx
      clear hx1 hx2 hlx
      have hcx' := below_cell HW.out.below (Nat.le_refl _) hcx
      obtain ⟨acc, hacc⟩ : ∃ acc, n1 * prodL (ns.take k) = acc := ⟨_, rfl⟩
      have hnext : n1 * prodL (ns.take (k + 1)) = acc * ns[k] := by rw [take_snoc hlt, prodL_snoc, ← hacc]; rw [Nat.mul_assoc]
      have HL3 := Lib.hid (HS1.out k (by omega))
      have HL4 := Lib.hid (HS1.out (k + 1) (by omega))
      rw [hacc] at HL3 HW
      rw [hnext] at HL4
      have HL1 := Lib.hid (HS2.out ns[k] (List.getElem_mem _))
      have HNEXT := Lib.hid hnext
      have hbW := (Below.refl W.heap.size W).alloc (Nat.le_refl _) (.cells #[.slice Ax lx cx] 26)
      have HW1 := Lib.hid (HW.out.step hbW)
      have HC5 := Lib.hid (blk_new W (.cells #[.slice Ax lx cx] 26))
      have HNX := Lib.hid (hnx.below (HW1.out.below) (Nat.le_refl _))
      obtain ⟨z0, z1⟩ := cell_facts (blk_new W (.cells #[.slice none 0 0] 26))
      obtain ⟨y0, y1⟩ := cell_facts HW1.out.c0
      obtain ⟨x0, x1⟩ := cell_facts HC5.out
      clear hcx hnx hacc hnext hbW
      generalize ns[k] = m at *
      go_wp2_with fail
      refine (by_any (.agg #[s]) (.agg #[.slice Ax lx cx]) acc m _ HW1.out.nat HNX.out HL3.out HL1.out HL4.out).mono ?_
      rintro e w6 ⟨v6, rfl, hn6, hb6⟩
      have HW6 := Lib.hid (HW1.out.step hb6)
      obtain ⟨A6, c6, rfl, hs6, hc6⟩ := hn6
      obtain ⟨p0, p1⟩ := cell_facts HW6.out.c0
      have HNX : Hid (AddIs w (w6.setCell ⟨r, 0, none⟩ (.slice A6 (dg B32 (acc * m)).length c6)) r (.slice A6 (dg B32 (acc * m)).length c6) (n1 * prodL (ns.take (k + 1)))) := Lib.hid (by
        have h := HW6.out
        refine ⟨h.below.setCell (p := ⟨r, 0, none⟩) (by rw [HR.out]; exact Nat.le_refl _) _, cell_put h.c0 _, blk_far (p := ⟨r, 0, none⟩) h.c1 (by show r + 1 ≠ r; omega) _, sl_ne_u32 _ _ _, ?_⟩
        rw [HNEXT.out]
        exact NatIs.put ⟨A6, c6, rfl, hs6, hc6⟩ h.c0 h.sl _)
      have wk : IntKind.i64.wrap ((k : Int) + 1) = (k : Int) + 1 := IntWalk.i64_in _ (by omega)
      clear hs6 hc6 hb6 z0 z1 y0 y1 x0 x1
      generalize (dg B32 (acc * m)).length = l6 at HNX ⊢
      go_wp2_with fail
      go_roundg (gk - 1)
      case measure => omega
      case rel => exact ⟨k + 1, _, by omega, by simp, HNX.out⟩
    · have hke : k = ns.length := by omega
      have hlt' : ¬ (k : Int) < (ns.length : Int) := by omega
      have HE : Hid (n1 * prodL (ns.take k) = n1 * prodL ns) := Lib.hid (by rw [hke, List.take_length])
      rw [HE.out] at HW
      clear hke
      obtain ⟨A, c, hs, h1, h2⟩ := HW.out.nat
      simp only [Value.agg.injEq, List.cons.injEq, Array.mk.injEq, and_true] at hs
      subst hs
      have HQ := Lib.hid (NatIs.put HW.out.nat HW.out.c1 (sl_ne_u32 _ _ _) (.slice A (dg B32 (n1 * prodL ns)).length c))
      have HP := Lib.hid (cell_put HW.out.c1 (.slice A (dg B32 (n1 * prodL ns)).length c))
      have HB := Lib.hid (HW.out.below.setCell (p := ⟨r + 1, 0, none⟩) (by rw [HR.out]; show r ≤ r + 1; omega) (.slice A (dg B32 (n1 * prodL ns)).length c))
      obtain ⟨z0, z1⟩ := cell_facts HW.out.c0
      obtain ⟨y0, y1⟩ := cell_facts HW.out.c1
      clear h1 h2
      go_wp2_with fail
      refine ret_cell1 rfl rfl (load_nat HP.out) ?_
      exact ⟨_, rfl, HQ.out, HB.out⟩
end Go.Proofs.Ytnfehhblmoliaaa
