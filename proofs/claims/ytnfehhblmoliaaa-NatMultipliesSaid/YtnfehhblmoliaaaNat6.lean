/- Layer 1 (nat): Times. -/
import Derived.Test.YtnfehhblmoliaaaNat5
namespace Go.Proofs.Ytnfehhblmoliaaa
open Go.RowKit Go.Maps Go.WideMaps
set_option maxRecDepth 100000
set_option linter.unusedVariables false
set_option linter.unusedSimpArgs false

theorem times_step {B k c x m p xm q : Nat} {va vo : Nat} (hp : x * m + c = p) (hx : p % B = xm) (hq : p / B = q) (h : vo + B ^ k * c = m * va) : (vo + B ^ k * xm) + B ^ (k + 1) * q = m * (va + B ^ k * x) := by
  have e : xm + B * q = p := by subst hx; subst hq; exact Nat.mod_add_div p B
  have e2 : B ^ k * xm + B ^ (k + 1) * q = B ^ k * (xm + B * q) := by rw [Nat.mul_add, Nat.pow_succ, Nat.mul_assoc]
  have e3 : m * (B ^ k * x) = B ^ k * (x * m) := by rw [Nat.mul_left_comm, Nat.mul_comm m x]
  rw [Nat.add_assoc, e2, e, ← hp, Nat.mul_add, Nat.mul_add, e3]
  generalize B ^ k * (x * m) = a1 at *
  generalize B ^ k * c = a2 at *
  generalize m * va = a3 at *
  omega
theorem times_lt {x m c : Nat} (hx : x < 4294967296) (hm : m < 4294967296) (hc : c < 4294967296) : x * m ≤ 18446744065119617025 ∧ (x * m + c) / 4294967296 < 4294967296 := by
  have h : x * m ≤ 4294967295 * 4294967295 := Nat.mul_le_mul (by omega) (by omega)
  generalize x * m = y at *
  omega
structure TimIs (W0 W : World) (l1 : List Nat) (m : Nat) (out : List Nat) (A : Option Addr) (c k cy : Nat) : Prop where
  row : W.ownsRow W0.heap.size 50 1 (.slice A k c) k (out.map u32V)
  below : Below W0.heap.size W0 W
  len : out.length = k
  lt : ∀ x ∈ out, x < B32
  cy1 : cy < 4294967296
  val : vl B32 out + B32 ^ k * cy = m * vl B32 (l1.take k)

set_option maxHeartbeats 8000000 in
theorem times_any (v1 : Value) (n1 m : Nat) (w : World) (h1 : NatIs w v1 n1) (hm : m < 4294967296) (hl1 : (dg B32 n1).length ≤ 100000) :
    Calls Try.prog 26 #[v1, .int .u32 (m : Int)] w fun e w' => ∃ v, e = .returned v ∧ NatIs w' v (m * n1) ∧ Below w.heap.size w w' := by
  obtain ⟨A1, c1, rfl, s1, k1⟩ := h1
  have h3 := two_cells w (.cells #[.slice A1 (dg B32 n1).length c1] 26) (.cells #[.slice none 0 0] 26)
  have H3 := Lib.hid h3
  have HD := Lib.hid (dg_lt (b := B32) (by decide) n1)
  have HV := Lib.hid (vl_dg (b := B32) (by decide) n1)
  have HS1 := Lib.hid (s1.below h3.2.2.1 (Nat.le_refl _))
  clear s1 k1 h3
  generalize dg B32 n1 = l1 at *
  obtain ⟨f0, _⟩ := cell_facts H3.out.1
  go_enter Try.func26, Try.ntmps26
  go_upto_region 1 with fail
  generalize (w.alloc (.cells #[.slice A1 l1.length c1] 26)).alloc (.cells #[.slice none 0 0] 26) = W0 at *
  generalize hr : w.heap.size = r at *
  have HR := Lib.hid hr
  clear hr
  have HRS : Hid (r ≤ W0.heap.size) := Lib.hid (by rw [H3.out.2.2.2]; omega)
  obtain ⟨W1, hmk, hown, hbel⟩ := make_u32 (l1.length + 1) W0 (by omega)
  rw [show ((l1.length + 1 : Nat) : Int) = (l1.length : Int) + 1 by omega] at hmk
  have HI : Hid (TimIs W0 W1 l1 m [] (some ⟨W0.heap.size, 0, none⟩) (l1.length + 1) 0 0) := Lib.hid ⟨hown, hbel, rfl, by simp, by omega, by simp [vl]⟩
  have f0' := below_cell hbel (Nat.le_refl _) f0
  clear hown hbel
  have wl : IntKind.i64.wrap ((l1.length : Int) + 1) = (l1.length : Int) + 1 := IntWalk.i64_in _ (by omega)
  go_wp2_with fail
  clear hmk f0 f0' wl
  go_loopg [5, 6, 18] l1.length (fun n v5 v6 v18 W => ∃ (k : Nat) (out : List Nat) (cy : Nat) (A : Option Addr) (c : Nat), k + n = l1.length ∧ v18 = .int .i64 (k : Int) ∧ v5 = .slice A k c ∧ v6 = .int .u64 (cy : Int) ∧ TimIs W0 W l1 m out A c k cy)
  case atStart => exact ⟨0, [], 0, _, _, by omega, rfl, rfl, rfl, HI.out⟩
  case round =>
    obtain ⟨k, out, cy, A, c, hk, rfl, rfl, rfl, hW⟩ := hrel
    rename World => W
    clear HI
    have HW := Lib.hid hW
    clear hW
    by_cases hlt : k < l1.length
    · have hlt' : (k : Int) < (l1.length : Int) := by omega
      have k0 : (0 : Int) ≤ (k : Int) := by omega
      obtain ⟨b1, o1, rfl, hcc1⟩ := HS1.out.at k hlt
      have hcc := below_cell HW.out.below (Nat.le_refl _) hcc1
      have hxe := atL_get hlt
      have hx : l1[k] < 4294967296 := HD.out _ (List.getElem_mem _)
      have hcy := HW.out.cy1
      generalize l1[k] = x at *
      unfold u32V at hcc
      have HX := Lib.hid hxe
      obtain ⟨hxm1, hq1⟩ := times_lt hx hm hcy
      obtain ⟨pr, hpr⟩ : ∃ pr, x * m = pr := ⟨_, rfl⟩
      obtain ⟨p, hp⟩ : ∃ p, pr + cy = p := ⟨_, rfl⟩
      obtain ⟨xm, hxm⟩ : ∃ xm, p % 4294967296 = xm := ⟨_, rfl⟩
      obtain ⟨q, hq⟩ : ∃ q, p / 4294967296 = q := ⟨_, rfl⟩
      rw [hpr] at hxm1 hq1
      rw [hp, hq] at hq1
      have wx : IntKind.u64.wrap (x : Int) = (x : Int) := IntWalk.u64_in _ (by omega)
      have wm : IntKind.u64.wrap (m : Int) = (m : Int) := IntWalk.u64_in _ (by omega)
      have wp : IntKind.u64.wrap ((x : Int) * (m : Int)) = (pr : Int) := by rw [show (x : Int) * (m : Int) = (pr : Int) by rw [← hpr]; simp]; exact IntWalk.u64_in _ (by omega)
      have wq : IntKind.u64.wrap ((pr : Int) + (cy : Int)) = (p : Int) := by rw [show (pr : Int) + (cy : Int) = (p : Int) by omega]; exact IntWalk.u64_in _ (by omega)
      have e0 : (p : Int) % 4294967296 = (xm : Int) := by omega
      have e1 : (p : Int) / 4294967296 = (q : Int) := by omega
      have hxmlt : xm < 4294967296 := by omega
      have hpp : x * m + cy = p := by rw [hpr]; exact hp
      have HP := Lib.hid (And.intro hpp (And.intro hxm hq))
      have HSZ := Lib.hid HW.out.below.size
      have HRW := Lib.hid HW.out.row
      clear hxe hcc1 hpr hp hxm hq hpp
      go_wp2_with (at_builtin; refine app_one (W0.heap.size) 22 50 (.int .u32 0) 1 4 [_] 1 _ _ rfl rfl Try.underlying22 info_u32 rfl (by decide) _ _ _ rfl rfl rfl (by intro u hu; simp at hu; subst hu; rfl) HRW.out (by omega) (by omega) HSZ.out ?_)
      intro v' w9 hown hg9
      have hk9 : Keep (fun g => (Value.slice A k c).ownBlock = some g) W w9 := Keep.of_grown hg9 (fun g hg => hg)
      obtain ⟨A9, c9, rfl⟩ := own_slice hown
      have HN9 : Hid (TimIs W0 w9 l1 m (out ++ [xm]) A9 c9 (k + 1) q) := Lib.hid (by
        refine ⟨by rw [List.map_append]; exact hown, HW.out.below.trans (hk9.below HW.out.below.size (own_base HRW.out)), by rw [List.length_append, HW.out.len]; rfl, ?_, hq1, ?_⟩
        · intro z hz
          rcases List.mem_append.1 hz with hz | hz
          · exact HW.out.lt z hz
          · simp at hz; subst hz; exact hxmlt
        · rw [vl_snoc, HW.out.len, vl_take_succ, HX.out]
          exact times_step (B := B32) HP.out.1 HP.out.2.1 HP.out.2.2 HW.out.val)
      clear hown hg9 hk9
      have wk : IntKind.i64.wrap ((k : Int) + 1) = (k : Int) + 1 := IntWalk.i64_in _ (by omega)
      go_wp2_with fail
      go_roundg (gk - 1)
      case measure => omega
      case rel => exact ⟨k + 1, _, _, A9, c9, by omega, by simp, rfl, rfl, HN9.out⟩
    · have hke : k = l1.length := by omega
      have hlt' : ¬ (k : Int) < (l1.length : Int) := by omega
      have hcy1 := HW.out.cy1
      have e2 : (cy : Int) % 4294967296 = (cy : Int) := by omega
      have hkl : k ≤ 100000 := by omega
      have HSZ := Lib.hid HW.out.below.size
      have HRW := Lib.hid HW.out.row
      have hv : vl B32 (out ++ [cy]) = m * n1 := by
        rw [vl_snoc, HW.out.len, HW.out.val, hke, List.take_length, HV.out]
      have HVV := Lib.hid hv
      clear hv hke
      go_wp2_with (at_builtin; refine app_one (W0.heap.size) 22 50 (.int .u32 0) 1 4 [_] 1 _ _ rfl rfl Try.underlying22 info_u32 rfl (by decide) _ _ _ rfl rfl rfl (by intro u hu; simp at hu; subst hu; rfl) HRW.out (by omega) (by omega) HSZ.out ?_)
      intro v' w9 hown hg9
      have hk9 : Keep (fun g => (Value.slice A k c).ownBlock = some g) W w9 := Keep.of_grown hg9 (fun g hg => hg)
      obtain ⟨A9, c9, rfl⟩ := own_slice hown
      have hb9 := HW.out.below.trans (hk9.below HW.out.below.size (own_base HRW.out))
      have hlen9 : k + 1 = (out ++ [cy]).length := by rw [List.length_append, HW.out.len]; rfl
      have HOW : Hid (Sl1 w9 A9 u32V (out ++ [cy])) := Lib.hid (by
        refine own_sl1 (base := W0.heap.size) (e := 50) (c := c9) (n := k + 1) ?_
        rw [List.map_append]; exact hown)
      have HCP := Lib.hid (own_len hown)
      have HB9 := Lib.hid hb9
      clear hown hg9 hk9 hb9
      have HTR : Hid (Calls Try.prog 32 #[.slice A9 (out ++ [cy]).length c9] w9 fun e w' => ∃ v, e = .returned v ∧ NatIs w' v (vl B32 (out ++ [cy])) ∧ Below w9.heap.size w9 w') := Lib.hid (by
        refine trim_any (out ++ [cy]) A9 c9 _ HOW.out (by rw [← hlen9]; exact HCP.out) ?_ (by rw [← hlen9]; omega)
        intro z hz
        rcases List.mem_append.1 hz with hz | hz
        · exact HW.out.lt z hz
        · simp at hz; subst hz; exact hcy1)
      rw [← hlen9] at HTR
      clear hlen9 e2
      go_wp2_with fail
      refine (HTR.out).mono ?_
      rintro e w2 ⟨v, rfl, h2, b2⟩
      rw [HVV.out] at h2
      obtain ⟨A2', c2', rfl, h2, h3⟩ := h2
      have hR2 := blk_below (HB9.out.trans (b2.mono HB9.out.size)) (blk_lt H3.out.2.1) H3.out.2.1
      obtain ⟨f0, f1⟩ := cell_facts hR2
      have HP := Lib.hid (cell_put hR2 (.slice A2' (dg B32 (m * n1)).length c2'))
      have HQ := Lib.hid (NatIs.put ⟨A2', c2', rfl, h2, h3⟩ hR2 (sl_ne_u32 _ _ _) (.slice A2' (dg B32 (m * n1)).length c2'))
      have HB := Lib.hid ((H3.out.2.2.1.trans ((HB9.out.trans (b2.mono HB9.out.size)).mono HRS.out)).setCell (p := ⟨r + 1, 0, none⟩) (by show r ≤ r + 1; omega) (.slice A2' (dg B32 (m * n1)).length c2'))
      clear h2 h3 b2 hR2
      go_wp2_with fail
      refine ret_cell1 rfl rfl (load_nat HP.out) ?_
      exact ⟨_, rfl, HQ.out, by rw [HR.out]; exact HB.out⟩
end Go.Proofs.Ytnfehhblmoliaaa
