/- Layer 1 (nat): Divide. -/
import Derived.Test.YtnfehhblmoliaaaNat6
import Derived.Laws.BitsAllLaws
namespace Go.Proofs.Ytnfehhblmoliaaa
open Go.RowKit Go.Maps Go.WideMaps
set_option maxRecDepth 100000
set_option linter.unusedVariables false
set_option linter.unusedSimpArgs false

theorem made_u32z (n : Nat) : (madeCells (Value.int .u32 0).cells (n * 1)).toList = (List.replicate n 0).map u32V := by
  apply List.ext_getElem
  · simp [madeCells]
  · intro i h1 h2
    simp [madeCells, Value.cells, Nat.mod_one, u32V]
theorem make_zeros (n : Nat) (w : World) (hn : n ≤ 1000000) : ∃ w', (Instr.makeSlice 22 (.int .i64 (n : Int)) (.int .i64 (n : Int))).run Try.prog w = .ok (.slice (some ⟨w.heap.size, 0, none⟩) n n) w' ∧
    w'.ownsRow w.heap.size 50 1 (.slice (some ⟨w.heap.size, 0, none⟩) n n) n ((List.replicate n 0).map u32V) ∧ Below w.heap.size w w' := by
  obtain ⟨i, hi, hz0, hz1, hz2⟩ := info_parts info_u32
  obtain ⟨w', h1, h2, h3⟩ := run_makeSlice_full (P := Try.prog) w w.heap.size 22 50 i (.int .u32 0) 1 Try.underlying22 hi hz0 hz1 .i64 .i64 n (by omega) (by rw [hz2]; omega) (by unfold maxLen; omega) (Nat.le_refl _)
  rw [made_u32z] at h2
  exact ⟨w', h1, h2, (Keep.of_grown (F := fun _ => False) h3 (fun k hk => by cases hk)).below (Nat.le_refl _) (fun x hx => hx.elim)⟩
theorem div_step {B m x rest r2 xm rest' vd vq : Nat} (hr2 : r2 = rest * B + x) (hx : xm = r2 / m) (hr : rest' = r2 % m) (h : vd = m * vq + rest) : x + B * vd = m * (xm + B * vq) + rest' := by
  have e : m * xm + rest' = r2 := by subst hx; subst hr; exact Nat.div_add_mod r2 m
  rw [h, Nat.mul_add, Nat.mul_add, Nat.mul_left_comm m B vq, Nat.mul_comm B rest]
  generalize B * (m * vq) = a1 at *
  generalize m * xm = a2 at *
  generalize rest * B = a3 at *
  omega
theorem div_lt {m x rest r2 : Nat} (hm : 0 < m) (hm2 : m < 4294967296) (hx : x < 4294967296) (hrest : rest < m) (hr2 : r2 = rest * 4294967296 + x) : r2 < 18446744073709551616 ∧ r2 / m < 4294967296 ∧ r2 % m < m := by
  refine ⟨by omega, ?_, Nat.mod_lt _ hm⟩
  apply Nat.div_lt_of_lt_mul
  have : (rest + 1) * 4294967296 ≤ m * 4294967296 := Nat.mul_le_mul_right _ hrest
  omega
theorem or_u64 (a x : Nat) (ha : a < 4294967296) (hx : x < 4294967296) : bits .or .u64 ((a : Int) * 4294967296) (x : Int) = ((a * 4294967296 + x : Nat) : Int) := by
  have h := bits_or_u64_nat (a * 4294967296) x (by omega) (by omega)
  rw [show ((a : Int) * 4294967296) = ((a * 4294967296 : Nat) : Int) by simp, h]
  have h2 := Nat.two_pow_add_eq_or_of_lt (i := 32) (b := x) hx a
  rw [show (2 ^ 32 : Nat) = 4294967296 by decide] at h2
  rw [Nat.mul_comm a, h2]
theorem vl_set {b : Nat} {l : List Nat} {i : Nat} (x : Nat) (hi : i < l.length) : vl b ((l.set i x).drop i) = x + b * vl b (l.drop (i + 1)) := by
  rw [vl_drop _ _ _ (by rw [List.length_set]; exact hi)]
  congr 1
  · rw [atL_get (by rw [List.length_set]; exact hi)]; simp
  · congr 2
    rw [List.drop_set, if_pos (by omega)]

theorem own_at {w : World} {base n c g : Nat} {e : TypeId} {size : Nat} {xs : List Value} (h : w.ownsRow base e size (.slice (some ⟨g, 0, none⟩) n c) n xs) (j : Nat) (u : Value) (hj : xs[j]? = some u) : w.cell? ⟨g, j, none⟩ = some u ∧ w.frozen? ⟨g, j, none⟩ = false := by
  have h' := h
  rcases h.2 with ⟨h1, _⟩ | ⟨g', cap', cur, h1, hb, hg, hc1, hc2, hc3, ht⟩
  · cases h1
  · cases h1
    refine ⟨?_, blk_froz hg j⟩
    have := h'.cells (g := g) rfl j u hj
    have hadd : ∀ k, (⟨g, 0, none⟩ : Addr).add k = ⟨g, k, none⟩ := by intro k; unfold Addr.add; split <;> simp_all
    rwa [hadd] at this
structure DivIs (W0 W : World) (l1 : List Nat) (m : Nat) (g : Nat) (out : List Nat) (j rest : Nat) : Prop where
  row : W.ownsRow W0.heap.size 50 1 (.slice (some ⟨g, 0, none⟩) l1.length l1.length) l1.length (out.map u32V)
  below : Below W0.heap.size W0 W
  len : out.length = l1.length
  lt : ∀ x ∈ out, x < B32
  rlt : rest < m
  val : vl B32 (l1.drop j) = m * vl B32 (out.drop j) + rest

set_option maxHeartbeats 8000000 in
theorem divide_any (v1 : Value) (n1 m : Nat) (w : World) (h1 : NatIs w v1 n1) (hm0 : 0 < m) (hm : m < 4294967296) (hl1 : (dg B32 n1).length ≤ 100000) :
    Calls Try.prog 28 #[v1, .int .u32 (m : Int)] w fun e w' => ∃ v, e = .returned (.tuple #[v, .int .u32 ((n1 % m : Nat) : Int)]) ∧ NatIs w' v (n1 / m) ∧ Below w.heap.size w w' ∧ ∀ A n c, v = .agg #[.slice A n c] → ∀ a, A = some a → w.heap.size ≤ a.block := by
  obtain ⟨A1, c1, rfl, s1, k1⟩ := h1
  have h3 := two_cells w (.cells #[.slice A1 (dg B32 n1).length c1] 26) (.cells #[.slice none 0 0] 26)
  have H3 := Lib.hid h3
  have HD := Lib.hid (dg_lt (b := B32) (by decide) n1)
  have HV := Lib.hid (vl_dg (b := B32) (by decide) n1)
  have HS1 := Lib.hid (s1.below h3.2.2.1 (Nat.le_refl _))
  clear s1 k1 h3
  generalize dg B32 n1 = l1 at *
  obtain ⟨f0, _⟩ := cell_facts H3.out.1
  have hm1 : ¬ (m : Int) = 0 := by omega
  have wm : IntKind.u64.wrap (m : Int) = (m : Int) := IntWalk.u64_in _ (by omega)
  go_enter Try.func28, Try.ntmps28
  go_upto_region 1 with fail
  generalize (w.alloc (.cells #[.slice A1 l1.length c1] 26)).alloc (.cells #[.slice none 0 0] 26) = W0 at *
  generalize hr : w.heap.size = r at *
  have HR := Lib.hid hr
  clear hr
  have HRS : Hid (r ≤ W0.heap.size) := Lib.hid (by rw [H3.out.2.2.2]; omega)
  obtain ⟨W1, hmk, hown, hbel⟩ := make_zeros l1.length W0 (by omega)
  have HI : Hid (DivIs W0 W1 l1 m W0.heap.size (List.replicate l1.length 0) l1.length 0) := Lib.hid ⟨hown, hbel, by simp, by intro x hx; have := List.eq_of_mem_replicate hx; subst this; decide, hm0, by rw [List.drop_length, List.drop_eq_nil_of_le (by simp)]; simp [vl]⟩
  have f0' := below_cell hbel (Nat.le_refl _) f0
  have F0 := Lib.hid (show ∀ V, Below W0.heap.size W0 V → V.cell? ⟨r, 0, none⟩ = some (.slice A1 l1.length c1) from fun V hV => below_cell hV (Nat.le_refl _) f0)
  clear hown hbel
  have wl : IntKind.i64.wrap ((l1.length : Int) - 1) = (l1.length : Int) - 1 := IntWalk.i64_in _ (by omega)
  go_wp2_with fail
  clear hmk f0 f0' wl
  go_loopg [7, 8] l1.length (fun n v7 v8 W => ∃ (j : Nat) (i : Int) (out : List Nat) (rest : Nat), j = n ∧ v8 = .int .i64 i ∧ i = (j : Int) - 1 ∧ j ≤ l1.length ∧ v7 = .int .u64 (rest : Int) ∧ DivIs W0 W l1 m W0.heap.size out j rest)
  case atStart => exact ⟨l1.length, _, _, 0, rfl, rfl, rfl, Nat.le_refl _, rfl, HI.out⟩
  case round =>
    obtain ⟨j, i, out, rest, rfl, rfl, hi, hj, rfl, hW⟩ := hrel
    rename World => W
    clear HI
    have HW := Lib.hid hW
    clear hW
    rcases Nat.eq_zero_or_pos j with rfl | hj0
    · obtain rfl : i = -1 := by omega
      clear hi
      have hval := HW.out.val
      rw [List.drop_zero, List.drop_zero, HV.out] at hval
      have hq : vl B32 out = n1 / m := by
        rw [hval, Nat.mul_comm, Nat.add_comm, Nat.add_mul_div_right _ _ hm0, Nat.div_eq_of_lt HW.out.rlt, Nat.zero_add]
      have hrr : rest = n1 % m := by
        rw [hval, Nat.mul_comm, Nat.add_comm, Nat.add_mul_mod_self_right, Nat.mod_eq_of_lt HW.out.rlt]
      have hrl : rest < 4294967296 := by have := HW.out.rlt; omega
      have e2 : (rest : Int) % 4294967296 = (rest : Int) := by omega
      have HRR := Lib.hid hrr
      have HQQ := Lib.hid hq
      have hlen9 : l1.length = out.length := HW.out.len.symm
      have HTR : Hid (Calls Try.prog 32 #[.slice (some ⟨W0.heap.size, 0, none⟩) out.length l1.length] W fun e w' => ∃ v, e = .returned v ∧ NatIs w' v (vl B32 out) ∧ Below W.heap.size W w' ∧ ∃ n c', v = .agg #[.slice (some ⟨W0.heap.size, 0, none⟩) n c']) := Lib.hid (by
        refine trim_at out _ _ _ ?_ (by rw [← hlen9]; exact Nat.le_refl _) HW.out.lt (by rw [← hlen9]; omega)
        exact own_sl1 (base := W0.heap.size) (e := 50) (n := l1.length) HW.out.row)
      rw [← hlen9] at HTR
      clear hlen9 hval hrr hq
      go_wp2_with fail
      refine (HTR.out).mono ?_
      rintro e w2 ⟨v, rfl, h2, b2, hfr⟩
      rw [HQQ.out] at h2
      obtain ⟨A2', c2', rfl, h2, h3⟩ := h2
      have HFR : Hid (A2' = some ⟨W0.heap.size, 0, none⟩) := Lib.hid (by obtain ⟨_, _, e⟩ := hfr; simp at e; exact e.1)
      clear hfr
      have hR2 := blk_below (HW.out.below.trans (b2.mono HW.out.below.size)) (blk_lt H3.out.2.1) H3.out.2.1
      obtain ⟨f0, f1⟩ := cell_facts hR2
      have HP := Lib.hid (cell_put hR2 (.slice A2' (dg B32 (n1 / m)).length c2'))
      have HQ := Lib.hid (NatIs.put ⟨A2', c2', rfl, h2, h3⟩ hR2 (sl_ne_u32 _ _ _) (.slice A2' (dg B32 (n1 / m)).length c2'))
      have HB := Lib.hid ((H3.out.2.2.1.trans ((HW.out.below.trans (b2.mono HW.out.below.size)).mono HRS.out)).setCell (p := ⟨r + 1, 0, none⟩) (by show r ≤ r + 1; omega) (.slice A2' (dg B32 (n1 / m)).length c2'))
      clear h2 h3 b2 hR2
      go_wp2_with fail
      refine ret_cells_bool (x := .int .u32 (rest : Int)) rfl rfl rfl (load_nat HP.out) ?_
      refine ⟨_, by rw [HRR.out], HQ.out, by rw [HR.out]; exact HB.out, ?_⟩
      intro A n c e a ha
      simp only [Value.agg.injEq, List.cons.injEq, Array.mk.injEq, and_true, Value.slice.injEq] at e
      rw [← e.1, HFR.out] at ha
      cases ha
      rw [HR.out]; exact HRS.out
    · obtain ⟨q, rfl⟩ : ∃ q, j = q + 1 := ⟨j - 1, by omega⟩
      obtain rfl : i = (q : Int) := by omega
      clear hi
      have q0 : (0 : Int) ≤ (q : Int) := by omega
      have q1 : (q : Int) < (l1.length : Int) := by omega
      have hq1 : q < l1.length := by omega
      obtain ⟨b1, o1, rfl, hcc1⟩ := HS1.out.at q hq1
      have hcc := below_cell HW.out.below (Nat.le_refl _) hcc1
      have ff := F0.out _ HW.out.below
      have hxe := atL_get hq1
      have hx : l1[q] < 4294967296 := HD.out _ (List.getElem_mem _)
      generalize l1[q] = x at *
      unfold u32V at hcc
      have HX := Lib.hid hxe
      have hrest := HW.out.rlt
      obtain ⟨r2, hr2⟩ : ∃ r2, rest * 4294967296 + x = r2 := ⟨_, rfl⟩
      obtain ⟨d1, d2, d3⟩ := div_lt hm0 hm hx hrest hr2.symm
      have wo := or_u64 rest x (by omega) hx
      rw [hr2] at wo
      obtain ⟨xm, hxm⟩ : ∃ xm, r2 / m = xm := ⟨_, rfl⟩
      obtain ⟨rs, hrs⟩ : ∃ rs, r2 % m = rs := ⟨_, rfl⟩
      rw [hxm] at d2
      rw [hrs] at d3
      have wx : IntKind.u64.wrap (x : Int) = (x : Int) := IntWalk.u64_in _ (by omega)
      have wsh : IntKind.u64.wrap ((rest : Int) * 4294967296) = (rest : Int) * 4294967296 := IntWalk.u64_in _ (by omega)
      have wdv : IntKind.u64.wrap ((r2 : Int) / (m : Int)) = (xm : Int) := by rw [IntWalk.up_div rfl rfl, hxm]; exact IntWalk.u64_in _ (by omega)
      have wrm : (r2 : Int).tmod (m : Int) = (rs : Int) := by rw [IntWalk.up_tmod rfl rfl, hrs]
      have exm : (xm : Int) % 4294967296 = (xm : Int) := by omega
      have HRS2 := Lib.hid (And.intro hr2 (And.intro hxm hrs))
      clear hr2 hxm hrs hxe hcc1
      obtain ⟨hcq0, hcq1⟩ := own_at HW.out.row q (u32V (out[q]'(by rw [HW.out.len]; exact hq1))) (by simp [HW.out.len, hq1])
      unfold u32V at hcq0
      have wk : IntKind.i64.wrap ((q : Int) - 1) = (q : Int) - 1 := IntWalk.i64_in _ (by omega)
      have HNX : Hid (DivIs W0 (W.setCell ⟨W0.heap.size, q, none⟩ (.int .u32 (xm : Int))) l1 m W0.heap.size (out.set q xm) q rs) := Lib.hid (by
        refine ⟨?_, HW.out.below.setCell (p := ⟨W0.heap.size, q, none⟩) (Nat.le_refl _) _, by rw [List.length_set]; exact HW.out.len, ?_, d3, ?_⟩
        · rw [List.map_set]; exact own_set HW.out.row q _
        · intro z hz
          rcases List.mem_or_eq_of_mem_set hz with hz | hz
          · exact HW.out.lt z hz
          · subst hz; exact d2
        · rw [vl_drop _ _ _ hq1, vl_set xm (by rw [HW.out.len]; exact hq1), HX.out]
          exact div_step HRS2.out.1.symm HRS2.out.2.1.symm HRS2.out.2.2.symm HW.out.val)
      go_wp2_with fail
      go_roundg q
      case measure => omega
      case rel => exact ⟨q, _, _, rs, rfl, rfl, rfl, by omega, rfl, HNX.out⟩
end Go.Proofs.Ytnfehhblmoliaaa
