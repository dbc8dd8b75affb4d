/- Layer 1 (nat), the document's answer: Add. -/
import Derived.Test.YtnfehhblmoliaaaNatI
namespace Go.Proofs.Ytnfehhblmoliaaa
open Go.RowKit Go.Maps Go.WideMaps
set_option maxRecDepth 100000
set_option linter.unusedVariables false
set_option linter.unusedSimpArgs false

structure RAdd (w W : World) (l1 l2 : List Nat) (N : Nat) (out : List Nat) (A : Option Addr) (c k cy : Nat) : Prop where
  row : W.ownsRow w.heap.size 5 1 (.slice A k c) k (out.map u8V)
  below : Below w.heap.size w W
  len : out.length = k
  lt : ∀ x ∈ out, x < 10
  cyb : cy ≤ 1
  kb : k ≤ N + 1
  kc : N < k → cy = 0
  val : vl 10 out + 10 ^ k * cy = vl 10 (l1.take k) + vl 10 (l2.take k)
set_option maxHeartbeats 16000000 in
theorem radd_at (v1 v2 : Value) (n1 n2 : Nat) (w : World) (h1 : DecIs w v1 n1) (h2 : DecIs w v2 n2) (hl1 : (dg 10 n1).length ≤ 1000000000) (hl2 : (dg 10 n2).length ≤ 1000000000) :
    Calls Try.prog 19 #[v1, v2] w fun e w' => ∃ v, e = .returned v ∧ DecIs w' v (n1 + n2) ∧ Below w.heap.size w w' ∧ ∀ A n c, v = .slice A n c → ∀ a, A = some a → w.heap.size ≤ a.block ∧ a.block < w'.heap.size := by
  obtain ⟨A1, c1, rfl, s1, k1⟩ := h1
  obtain ⟨A2, c2, rfl, s2, k2⟩ := h2
  have HD1 := Lib.hid (dg_lt (b := 10) (by decide) n1)
  have HD2 := Lib.hid (dg_lt (b := 10) (by decide) n2)
  have HV1 := Lib.hid (vl_dg (b := 10) (by decide) n1)
  have HV2 := Lib.hid (vl_dg (b := 10) (by decide) n2)
  have HS1 := Lib.hid s1
  have HS2 := Lib.hid s2
  clear s1 s2 k1 k2
  generalize dg 10 n1 = l1 at *
  generalize dg 10 n2 = l2 at *
  obtain ⟨N, hN⟩ : ∃ N, max l1.length l2.length = N := ⟨_, rfl⟩
  have HN : Hid (l1.length ≤ N ∧ l2.length ≤ N ∧ N ≤ 1000000000 ∧ (N = l1.length ∨ N = l2.length)) := Lib.hid (by omega)
  clear hN
  have HI : Hid (RAdd w w l1 l2 N [] none 0 0 0) := Lib.hid ⟨own_nil _ _ _ _, Below.refl _ _, rfl, by simp, by omega, by omega, by omega, by simp [vl]⟩
  go_enter Try.func19, Try.ntmps19
  go_wp2_with fail
  go_loopg [5, 6, 7] (N + 2) (fun ms v5 v6 v7 W => ∃ (k cy : Nat) (out : List Nat) (A : Option Addr) (c : Nat), k + ms = N + 2 ∧ v7 = .int .i64 (k : Int) ∧ v5 = .slice A k c ∧ v6 = .int .i64 (cy : Int) ∧ RAdd w W l1 l2 N out A c k cy)
  case atStart => exact ⟨0, 0, [], none, 0, by omega, rfl, rfl, rfl, HI.out⟩
  case round =>
    obtain ⟨k, cy, out, A, c, hms, rfl, rfl, rfl, hW⟩ := hrel
    rename World => W
    clear HI
    have HW := Lib.hid hW
    have hcyb := hW.cyb
    have hkb' := hW.kb
    have hkc' := hW.kc
    clear hW
    have k0 : (0 : Int) ≤ (k : Int) := by omega
    have hN' := HN.out
    by_cases h1 : k < l1.length
    · by_cases h2 : k < l2.length
      · obtain ⟨b1, o1, rfl, hcc1⟩ := HS1.out.at k h1
        have hce1 := below_cell HW.out.below (Nat.le_refl _) hcc1
        have hxe1 := atL_get h1
        have hx1 : l1[k] < 10 := HD1.out _ (List.getElem_mem _)
        generalize l1[k] = x at *
        unfold u8V at hce1
        have HX1 := Lib.hid hxe1
        have hi1 : (k : Int) < (l1.length : Int) := by omega
        clear hxe1 hcc1
        obtain ⟨b2, o2, rfl, hcc2⟩ := HS2.out.at k h2
        have hce2 := below_cell HW.out.below (Nat.le_refl _) hcc2
        have hxe2 := atL_get h2
        have hx2 : l2[k] < 10 := HD2.out _ (List.getElem_mem _)
        generalize l2[k] = y at *
        unfold u8V at hce2
        have HX2 := Lib.hid hxe2
        have hi2 : (k : Int) < (l2.length : Int) := by omega
        clear hxe2 hcc2
        obtain ⟨t, ht⟩ : ∃ t, cy + x = t := ⟨_, rfl⟩
        obtain ⟨s, hs0⟩ : ∃ s, t + y = s := ⟨_, rfl⟩
        have hs : s = x + y + cy := by omega
        have wa : IntKind.i64.wrap ((cy : Int) + (x : Int)) = (t : Int) := by rw [IntWalk.i64_in _ (by omega)]; omega
        have wb : IntKind.i64.wrap ((t : Int) + (y : Int)) = (s : Int) := by rw [IntWalk.i64_in _ (by omega)]; omega
        have wc : IntKind.i64.wrap (x : Int) = (x : Int) := IntWalk.i64_in _ (by omega)
        have wd : IntKind.i64.wrap (y : Int) = (y : Int) := IntWalk.i64_in _ (by omega)
        clear ht hs0
        obtain ⟨xm, hxm⟩ : ∃ xm, s % 10 = xm := ⟨_, rfl⟩
        obtain ⟨q, hq⟩ : ∃ q, s / 10 = q := ⟨_, rfl⟩
        have hsl : s ≤ 19 := by omega
        have e0 : (s : Int) % 10 = (xm : Int) := by omega
        have e1 : (s : Int) / 10 = (q : Int) := by omega
        have e0' : (s : Int).tmod 10 = (xm : Int) := by rw [Int.tmod_eq_emod_of_nonneg (by omega)]; exact e0
        have e1' : (s : Int).tdiv 10 = (q : Int) := by rw [Int.tdiv_eq_ediv_of_nonneg (by omega)]; exact e1
        have e2 : (xm : Int) % 256 = (xm : Int) := by omega
        have w1 : IntKind.i64.wrap (q : Int) = (q : Int) := IntWalk.i64_in _ (by omega)
        have hxml : xm < 10 := by omega
        have hql : q ≤ 1 := by omega
        have hkb2 : k + 1 ≤ N + 1 := by omega
        have hkc2 : N < k + 1 → q = 0 := by omega
        have HP := Lib.hid (And.intro hs (And.intro hxm hq))
        have HSZ := Lib.hid HW.out.below.size
        have HRW := Lib.hid HW.out.row
        have HK2 := Lib.hid (And.intro hkb2 hkc2)
        clear hs hxm hq hkb' hkc' hkb2 hkc2
        go_wp2_with (at_builtin; refine app_one (w.heap.size) 30 5 (.int .u8 0) 1 1 [_] 1 _ _ rfl rfl Try.underlying30 info_u8 rfl (by decide) _ _ _ rfl rfl rfl (by intro u hu; simp at hu; subst hu; rfl) HRW.out (by omega) (by omega) HSZ.out ?_)
        intro v' w9 hown hg9
        have hk9 : Keep (fun g => (Value.slice A k c).ownBlock = some g) W w9 := Keep.of_grown hg9 (fun g hg => hg)
        obtain ⟨A9, c9, rfl⟩ := own_slice hown
        have HN9 : Hid (RAdd w w9 l1 l2 N (out ++ [xm]) A9 c9 (k + 1) q) := Lib.hid (by
          refine ⟨by rw [List.map_append]; exact hown, HW.out.below.trans (hk9.below HW.out.below.size (own_base HRW.out)), by rw [List.length_append, HW.out.len]; rfl, ?_, hql, HK2.out.1, HK2.out.2, ?_⟩
          · intro z hz
            rcases List.mem_append.1 hz with hz | hz
            · exact HW.out.lt z hz
            · simp at hz; subst hz; exact hxml
          · rw [vl_snoc, HW.out.len, vl_take_succ, vl_take_succ, HX1.out, HX2.out]
            exact plus_step (B := 10) HP.out.1 HP.out.2.1.symm HP.out.2.2.symm HW.out.val)
        clear hown hg9 hk9
        have wk : IntKind.i64.wrap ((k : Int) + 1) = (k : Int) + 1 := IntWalk.i64_in _ (by omega)
        go_wp2_with fail
        go_roundg (gk - 1)
        case measure => omega
        case rel => exact ⟨k + 1, q, _, A9, c9, by omega, by simp, rfl, rfl, HN9.out⟩
      · obtain ⟨b1, o1, rfl, hcc1⟩ := HS1.out.at k h1
        have hce1 := below_cell HW.out.below (Nat.le_refl _) hcc1
        have hxe1 := atL_get h1
        have hx1 : l1[k] < 10 := HD1.out _ (List.getElem_mem _)
        generalize l1[k] = x at *
        unfold u8V at hce1
        have HX1 := Lib.hid hxe1
        have hi1 : (k : Int) < (l1.length : Int) := by omega
        clear hxe1 hcc1
        have HX2 := Lib.hid (atL_ge (l := l2) (i := k) (by omega))
        have hi2 : ¬ (k : Int) < (l2.length : Int) := by omega
        obtain ⟨s, hs0⟩ : ∃ s, cy + x = s := ⟨_, rfl⟩
        have hs : s = x + 0 + cy := by omega
        have wa : IntKind.i64.wrap ((cy : Int) + (x : Int)) = (s : Int) := by rw [IntWalk.i64_in _ (by omega)]; omega
        have wc : IntKind.i64.wrap (x : Int) = (x : Int) := IntWalk.i64_in _ (by omega)
        clear hs0
        obtain ⟨xm, hxm⟩ : ∃ xm, s % 10 = xm := ⟨_, rfl⟩
        obtain ⟨q, hq⟩ : ∃ q, s / 10 = q := ⟨_, rfl⟩
        have hsl : s ≤ 19 := by omega
        have e0 : (s : Int) % 10 = (xm : Int) := by omega
        have e1 : (s : Int) / 10 = (q : Int) := by omega
        have e0' : (s : Int).tmod 10 = (xm : Int) := by rw [Int.tmod_eq_emod_of_nonneg (by omega)]; exact e0
        have e1' : (s : Int).tdiv 10 = (q : Int) := by rw [Int.tdiv_eq_ediv_of_nonneg (by omega)]; exact e1
        have e2 : (xm : Int) % 256 = (xm : Int) := by omega
        have w1 : IntKind.i64.wrap (q : Int) = (q : Int) := IntWalk.i64_in _ (by omega)
        have hxml : xm < 10 := by omega
        have hql : q ≤ 1 := by omega
        have hkb2 : k + 1 ≤ N + 1 := by omega
        have hkc2 : N < k + 1 → q = 0 := by omega
        have HP := Lib.hid (And.intro hs (And.intro hxm hq))
        have HSZ := Lib.hid HW.out.below.size
        have HRW := Lib.hid HW.out.row
        have HK2 := Lib.hid (And.intro hkb2 hkc2)
        clear hs hxm hq hkb' hkc' hkb2 hkc2
        go_wp2_with (at_builtin; refine app_one (w.heap.size) 30 5 (.int .u8 0) 1 1 [_] 1 _ _ rfl rfl Try.underlying30 info_u8 rfl (by decide) _ _ _ rfl rfl rfl (by intro u hu; simp at hu; subst hu; rfl) HRW.out (by omega) (by omega) HSZ.out ?_)
        intro v' w9 hown hg9
        have hk9 : Keep (fun g => (Value.slice A k c).ownBlock = some g) W w9 := Keep.of_grown hg9 (fun g hg => hg)
        obtain ⟨A9, c9, rfl⟩ := own_slice hown
        have HN9 : Hid (RAdd w w9 l1 l2 N (out ++ [xm]) A9 c9 (k + 1) q) := Lib.hid (by
          refine ⟨by rw [List.map_append]; exact hown, HW.out.below.trans (hk9.below HW.out.below.size (own_base HRW.out)), by rw [List.length_append, HW.out.len]; rfl, ?_, hql, HK2.out.1, HK2.out.2, ?_⟩
          · intro z hz
            rcases List.mem_append.1 hz with hz | hz
            · exact HW.out.lt z hz
            · simp at hz; subst hz; exact hxml
          · rw [vl_snoc, HW.out.len, vl_take_succ, vl_take_succ, HX1.out, HX2.out]
            exact plus_step (B := 10) HP.out.1 HP.out.2.1.symm HP.out.2.2.symm HW.out.val)
        clear hown hg9 hk9
        have wk : IntKind.i64.wrap ((k : Int) + 1) = (k : Int) + 1 := IntWalk.i64_in _ (by omega)
        go_wp2_with fail
        go_roundg (gk - 1)
        case measure => omega
        case rel => exact ⟨k + 1, q, _, A9, c9, by omega, by simp, rfl, rfl, HN9.out⟩
    · by_cases h2 : k < l2.length
      · have HX1 := Lib.hid (atL_ge (l := l1) (i := k) (by omega))
        have hi1 : ¬ (k : Int) < (l1.length : Int) := by omega
        obtain ⟨b2, o2, rfl, hcc2⟩ := HS2.out.at k h2
        have hce2 := below_cell HW.out.below (Nat.le_refl _) hcc2
        have hxe2 := atL_get h2
        have hx2 : l2[k] < 10 := HD2.out _ (List.getElem_mem _)
        generalize l2[k] = y at *
        unfold u8V at hce2
        have HX2 := Lib.hid hxe2
        have hi2 : (k : Int) < (l2.length : Int) := by omega
        clear hxe2 hcc2
        obtain ⟨s, hs0⟩ : ∃ s, cy + y = s := ⟨_, rfl⟩
        have hs : s = 0 + y + cy := by omega
        have wa : IntKind.i64.wrap ((cy : Int) + (y : Int)) = (s : Int) := by rw [IntWalk.i64_in _ (by omega)]; omega
        have wc : IntKind.i64.wrap (y : Int) = (y : Int) := IntWalk.i64_in _ (by omega)
        clear hs0
        obtain ⟨xm, hxm⟩ : ∃ xm, s % 10 = xm := ⟨_, rfl⟩
        obtain ⟨q, hq⟩ : ∃ q, s / 10 = q := ⟨_, rfl⟩
        have hsl : s ≤ 19 := by omega
        have e0 : (s : Int) % 10 = (xm : Int) := by omega
        have e1 : (s : Int) / 10 = (q : Int) := by omega
        have e0' : (s : Int).tmod 10 = (xm : Int) := by rw [Int.tmod_eq_emod_of_nonneg (by omega)]; exact e0
        have e1' : (s : Int).tdiv 10 = (q : Int) := by rw [Int.tdiv_eq_ediv_of_nonneg (by omega)]; exact e1
        have e2 : (xm : Int) % 256 = (xm : Int) := by omega
        have w1 : IntKind.i64.wrap (q : Int) = (q : Int) := IntWalk.i64_in _ (by omega)
        have hxml : xm < 10 := by omega
        have hql : q ≤ 1 := by omega
        have hkb2 : k + 1 ≤ N + 1 := by omega
        have hkc2 : N < k + 1 → q = 0 := by omega
        have HP := Lib.hid (And.intro hs (And.intro hxm hq))
        have HSZ := Lib.hid HW.out.below.size
        have HRW := Lib.hid HW.out.row
        have HK2 := Lib.hid (And.intro hkb2 hkc2)
        clear hs hxm hq hkb' hkc' hkb2 hkc2
        go_wp2_with (at_builtin; refine app_one (w.heap.size) 30 5 (.int .u8 0) 1 1 [_] 1 _ _ rfl rfl Try.underlying30 info_u8 rfl (by decide) _ _ _ rfl rfl rfl (by intro u hu; simp at hu; subst hu; rfl) HRW.out (by omega) (by omega) HSZ.out ?_)
        intro v' w9 hown hg9
        have hk9 : Keep (fun g => (Value.slice A k c).ownBlock = some g) W w9 := Keep.of_grown hg9 (fun g hg => hg)
        obtain ⟨A9, c9, rfl⟩ := own_slice hown
        have HN9 : Hid (RAdd w w9 l1 l2 N (out ++ [xm]) A9 c9 (k + 1) q) := Lib.hid (by
          refine ⟨by rw [List.map_append]; exact hown, HW.out.below.trans (hk9.below HW.out.below.size (own_base HRW.out)), by rw [List.length_append, HW.out.len]; rfl, ?_, hql, HK2.out.1, HK2.out.2, ?_⟩
          · intro z hz
            rcases List.mem_append.1 hz with hz | hz
            · exact HW.out.lt z hz
            · simp at hz; subst hz; exact hxml
          · rw [vl_snoc, HW.out.len, vl_take_succ, vl_take_succ, HX1.out, HX2.out]
            exact plus_step (B := 10) HP.out.1 HP.out.2.1.symm HP.out.2.2.symm HW.out.val)
        clear hown hg9 hk9
        have wk : IntKind.i64.wrap ((k : Int) + 1) = (k : Int) + 1 := IntWalk.i64_in _ (by omega)
        go_wp2_with fail
        go_roundg (gk - 1)
        case measure => omega
        case rel => exact ⟨k + 1, q, _, A9, c9, by omega, by simp, rfl, rfl, HN9.out⟩
      · by_cases hcy0 : 0 < cy
        · have hcy0' : (0 : Int) < (cy : Int) := by omega
          have HX1 := Lib.hid (atL_ge (l := l1) (i := k) (by omega))
          have hi1 : ¬ (k : Int) < (l1.length : Int) := by omega
          have HX2 := Lib.hid (atL_ge (l := l2) (i := k) (by omega))
          have hi2 : ¬ (k : Int) < (l2.length : Int) := by omega
          obtain ⟨s, hs0⟩ : ∃ s, cy = s := ⟨_, rfl⟩
          subst hs0
          have hkN : k ≤ N := by
            rcases Nat.lt_or_ge N k with h | h
            · have := hkc' h; omega
            · exact h
          have hs : cy = 0 + 0 + cy := by omega
          obtain ⟨xm, hxm⟩ : ∃ xm, cy % 10 = xm := ⟨_, rfl⟩
          obtain ⟨q, hq⟩ : ∃ q, cy / 10 = q := ⟨_, rfl⟩
          have hsl : cy ≤ 19 := by omega
          have e0 : (cy : Int) % 10 = (xm : Int) := by omega
          have e1 : (cy : Int) / 10 = (q : Int) := by omega
          have e0' : (cy : Int).tmod 10 = (xm : Int) := by rw [Int.tmod_eq_emod_of_nonneg (by omega)]; exact e0
          have e1' : (cy : Int).tdiv 10 = (q : Int) := by rw [Int.tdiv_eq_ediv_of_nonneg (by omega)]; exact e1
          have e2 : (xm : Int) % 256 = (xm : Int) := by omega
          have w1 : IntKind.i64.wrap (q : Int) = (q : Int) := IntWalk.i64_in _ (by omega)
          have hxml : xm < 10 := by omega
          have hql : q ≤ 1 := by omega
          have hkb2 : k + 1 ≤ N + 1 := by omega
          have hkc2 : N < k + 1 → q = 0 := by omega
          have HP := Lib.hid (And.intro hs (And.intro hxm hq))
          have HSZ := Lib.hid HW.out.below.size
          have HRW := Lib.hid HW.out.row
          have HK2 := Lib.hid (And.intro hkb2 hkc2)
          clear hs hxm hq hkb' hkc' hkb2 hkc2
          go_wp2_with (at_builtin; refine app_one (w.heap.size) 30 5 (.int .u8 0) 1 1 [_] 1 _ _ rfl rfl Try.underlying30 info_u8 rfl (by decide) _ _ _ rfl rfl rfl (by intro u hu; simp at hu; subst hu; rfl) HRW.out (by omega) (by omega) HSZ.out ?_)
          intro v' w9 hown hg9
          have hk9 : Keep (fun g => (Value.slice A k c).ownBlock = some g) W w9 := Keep.of_grown hg9 (fun g hg => hg)
          obtain ⟨A9, c9, rfl⟩ := own_slice hown
          have HN9 : Hid (RAdd w w9 l1 l2 N (out ++ [xm]) A9 c9 (k + 1) q) := Lib.hid (by
            refine ⟨by rw [List.map_append]; exact hown, HW.out.below.trans (hk9.below HW.out.below.size (own_base HRW.out)), by rw [List.length_append, HW.out.len]; rfl, ?_, hql, HK2.out.1, HK2.out.2, ?_⟩
            · intro z hz
              rcases List.mem_append.1 hz with hz | hz
              · exact HW.out.lt z hz
              · simp at hz; subst hz; exact hxml
            · rw [vl_snoc, HW.out.len, vl_take_succ, vl_take_succ, HX1.out, HX2.out]
              exact plus_step (B := 10) HP.out.1 HP.out.2.1.symm HP.out.2.2.symm HW.out.val)
          clear hown hg9 hk9
          have wk : IntKind.i64.wrap ((k : Int) + 1) = (k : Int) + 1 := IntWalk.i64_in _ (by omega)
          go_wp2_with fail
          go_roundg (gk - 1)
          case measure => omega
          case rel => exact ⟨k + 1, q, _, A9, c9, by omega, by simp, rfl, rfl, HN9.out⟩
        · have HX1 := Lib.hid (atL_ge (l := l1) (i := k) (by omega))
          have hi1 : ¬ (k : Int) < (l1.length : Int) := by omega
          have HX2 := Lib.hid (atL_ge (l := l2) (i := k) (by omega))
          have hi2 : ¬ (k : Int) < (l2.length : Int) := by omega
          have hcy0' : ¬ (0 : Int) < (cy : Int) := by omega
          have hv : vl 10 out = n1 + n2 := by
            have h := HW.out.val
            rw [show cy = 0 by omega, Nat.mul_zero, Nat.add_zero, List.take_of_length_le (by omega), List.take_of_length_le (by omega), HV1.out, HV2.out] at h
            exact h
          have HTR : Hid (Calls Try.prog 37 #[.slice A k c] W fun e w' => ∃ v, e = .returned v ∧ DecIs W v (n1 + n2) ∧ w' = W ∧ ∃ n9 c9, v = .slice A n9 c9) := Lib.hid (by
            rw [← hv]
            have h := rtrim_at out A c W (own_sl1 (base := w.heap.size) (e := 5) (n := k) HW.out.row) (by rw [HW.out.len]; exact own_len HW.out.row) HW.out.lt (by rw [HW.out.len]; omega)
            rwa [HW.out.len] at h)
          clear hv hms hkb' hkc'
          go_wp2_with fail
          refine HTR.out.mono ?_
          rintro e w2 ⟨v, rfl, h2, rfl, n9, c9, rfl⟩
          have H2 := Lib.hid h2
          clear h2
          go_wp2_with fail
          go_ret
          refine ⟨.slice A n9 c9, rfl, H2.out, HW.out.below, fun A' n' c' e a ha => ?_⟩
          simp only [Value.slice.injEq] at e
          rw [← e.1] at ha
          subst ha
          rcases HW.out.row.2 with ⟨h1, _⟩ | ⟨g, cap, cur, h1, hb, hg, _⟩
          · cases h1
          · cases h1; exact ⟨hb, blk_lt hg⟩
theorem radd_any (v1 v2 : Value) (n1 n2 : Nat) (w : World) (h1 : DecIs w v1 n1) (h2 : DecIs w v2 n2) (hl1 : (dg 10 n1).length ≤ 1000000000) (hl2 : (dg 10 n2).length ≤ 1000000000) :
    Calls Try.prog 19 #[v1, v2] w fun e w' => ∃ v, e = .returned v ∧ DecIs w' v (n1 + n2) ∧ Below w.heap.size w w' := by
  refine (radd_at v1 v2 n1 n2 w h1 h2 hl1 hl2).mono ?_
  rintro e w1 ⟨v, h1, h2, h3, _⟩
  exact ⟨v, h1, h2, h3⟩
end Go.Proofs.Ytnfehhblmoliaaa
