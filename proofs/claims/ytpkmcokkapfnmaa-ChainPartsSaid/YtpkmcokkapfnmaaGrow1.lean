/- Layer 4 (token): the document's Grow. -/
import Derived.Test.YtpkmcokkapfnmaaGrow0
namespace Go.Proofs.Ytpkmcokkapfnmaa
open Go.RowKit Go.Maps Go.WideMaps
set_option maxRecDepth 100000
set_option linter.unusedVariables false
set_option linter.unusedSimpArgs false

theorem radd_any {w : World} {base : Nat} {T : List Ent} {A : Option Addr} {c : Nat} {A2 : Option Addr} {c2 : Nat} (a b : Int) (h : RefIs w base T (.slice A T.length c) (.slice A2 (mrgsT T).length c2)) (hT : OkT T) (hbase : base ≤ w.heap.size) :
    Calls Try.prog 49 #[.agg #[.slice A T.length c, .slice A2 (mrgsT T).length c2], .agg #[.int .i64 a, .int .i64 b]] w (RAddOk w base T a b) := by
  by_cases he : (addT T a b).2.1 = 0
  · exact radd_ok a b h hT he hbase
  · exact radd_err a b h hT he

/-- Grow's memory behind j rounds: the result, the table -/
structure GrowIs (w W : World) (l : List Nat) (r tb j : Nat) : Prop where
  ex : ∃ A c A2 c2, W.heap[tb]? = some (.cells #[.slice A (growT l j).length c, .slice A2 (mrgsT (growT l j)).length c2] 28) ∧ RefIs W w.heap.size (growT l j) (.slice A (growT l j).length c) (.slice A2 (mrgsT (growT l j)).length c2)
  res : W.heap[r]? = some (.cells #[.slice none 0 0, .slice none 0 0] 28)
  below : Below w.heap.size w W
  le : w.heap.size ≤ r ∧ w.heap.size ≤ tb
  ne : r ≠ tb
theorem grow_start {w w1 : World} {l : List Nat} {A1 : Option Addr} {c1 : Nat} (hr : RefIs w1 (w.alloc (.cells #[.slice none 0 0, .slice none 0 0] 28)).heap.size baseT (.slice A1 baseT.length c1) (.slice none 0 0))
    (hb : Below (w.alloc (.cells #[.slice none 0 0, .slice none 0 0] 28)).heap.size (w.alloc (.cells #[.slice none 0 0, .slice none 0 0] 28)) w1) :
    GrowIs w (w1.alloc (.cells #[.slice A1 baseT.length c1, .slice none 0 0] 28)) l w.heap.size w1.heap.size 0 := by
  have e0 : (mrgsT (growT l 0)).length = 0 := by rw [mrgs_len]; simp [growT, base_len]
  have hb2 := (Below.refl w1.heap.size w1).alloc (Nat.le_refl _) (.cells #[.slice A1 baseT.length c1, .slice none 0 0] 28)
  have hr2 := (hr.below hb2 (Nat.le_refl _)).less (base := w.heap.size) (by simp)
  have hsz := hb.size
  rw [size_alloc] at hsz
  refine ⟨⟨A1, c1, none, 0, ?_, ?_⟩, blk_alloc (blk_below hb (by simp) (blk_new w _)) _, ?_, ⟨Nat.le_refl _, by omega⟩, by omega⟩
  · rw [e0]; exact blk_new w1 _
  · rw [e0]; exact hr2
  · exact (((Below.refl w.heap.size w).alloc (Nat.le_refl _) _).trans (hb.mono (by simp))).alloc (by omega) _

theorem GrowIs.err {w W w2 : World} {l : List Nat} {r tb j : Nat} (h : GrowIs w W l r tb j) (hb : Below W.heap.size W w2) (he : growT l (j + 1) = growT l j) (o : Obj) : GrowIs w (w2.alloc o) l r tb (j + 1) := by
  obtain ⟨A, c, A2, c2, hbk, href⟩ := h.ex
  have hb2 := hb.alloc hb.size o
  refine ⟨⟨A, c, A2, c2, ?_, ?_⟩, blk_below hb2 (blk_lt h.res) h.res, h.below.trans (hb2.mono h.below.size), h.le, h.ne⟩
  · rw [he]; exact blk_below hb2 (blk_lt hbk) hbk
  · rw [he]; exact href.below hb2 (Nat.le_refl _)
theorem GrowIs.ok {w W w2 : World} {l : List Nat} {r tb j n m c c2 : Nat} {A A2 : Option Addr} (h : GrowIs w W l r tb j) (hb : Below W.heap.size W w2) (href : RefIs w2 w.heap.size (growT l (j + 1)) (.slice A n c) (.slice A2 m c2)) (o : Obj) :
    GrowIs w (((w2.alloc o).setCell ⟨tb, 0, none⟩ (.slice A n c)).setCell ⟨tb, 1, none⟩ (.slice A2 m c2)) l r tb (j + 1) := by
  obtain ⟨A0, c0, A20, c20, hbk, _⟩ := h.ex
  have hb2 := hb.alloc hb.size o
  have en : n = (growT l (j + 1)).length := by obtain ⟨_, _, e⟩ := own_slice href.row; injection e
  have em : m = (mrgsT (growT l (j + 1))).length := by obtain ⟨_, _, e⟩ := own_slice href.mrg; injection e
  subst en; subst em
  have hr1 := href.below ((Below.refl w2.heap.size w2).alloc (Nat.le_refl _) o) (Nat.le_refl _)
  have b1 := blk_set (blk_set (blk_below hb2 (blk_lt hbk) hbk) 0 (.slice A (growT l (j + 1)).length c)) 1 (.slice A2 (mrgsT (growT l (j + 1))).length c2)
  simp only [List.setIfInBounds_toArray, List.set_cons_zero, List.set_cons_succ] at b1
  have K3 : ∀ (W : World) (i : Nat) (u : Value), Keep (fun g => g = tb) W (W.setCell ⟨tb, i, none⟩ u) := fun W i u => Keep.setCell (F := fun g => g = tb) (p := ⟨tb, i, none⟩) (Keep.refl _ _) (Or.inl rfl) _
  have hk1 := blk_below hb2 (blk_lt hbk) hbk
  refine ⟨⟨A, c, A2, c2, b1, ?_, ?_, hr1.nil⟩, blk_far (p := ⟨tb, 1, none⟩) (blk_far (p := ⟨tb, 0, none⟩) (blk_below hb2 (blk_lt h.res) h.res) h.ne _) h.ne _, ((h.below.trans (hb2.mono h.below.size)).setCell (p := ⟨tb, 0, none⟩) h.le.2 _).setCell (p := ⟨tb, 1, none⟩) h.le.2 _, h.le, h.ne⟩
  · exact own_keep (own_keep hr1.row (K3 _ 0 _) (fun g hg e => row_ne hr1.row hk1 (by decide) (by rw [hg, e]))) (K3 _ 1 _) (fun g hg e => row_ne hr1.row hk1 (by decide) (by rw [hg, e]))
  · exact own_keep (own_keep hr1.mrg (K3 _ 0 _) (fun g hg e => row_ne hr1.mrg hk1 (by decide) (by rw [hg, e]))) (K3 _ 1 _) (fun g hg e => row_ne hr1.mrg hk1 (by decide) (by rw [hg, e]))
theorem GrowIs.fin {w W : World} {l : List Nat} {r tb j n m c c2 : Nat} {A A2 : Option Addr} (h : GrowIs w W l r tb j) (href : RefIs W w.heap.size (growT l j) (.slice A n c) (.slice A2 m c2)) :
    ((W.setCell ⟨r, 0, none⟩ (.slice A n c)).setCell ⟨r, 1, none⟩ (.slice A2 m c2)).heap[r]? = some (.cells #[.slice A n c, .slice A2 m c2] 28) ∧ Below w.heap.size w ((W.setCell ⟨r, 0, none⟩ (.slice A n c)).setCell ⟨r, 1, none⟩ (.slice A2 m c2)) ∧
      RefIs ((W.setCell ⟨r, 0, none⟩ (.slice A n c)).setCell ⟨r, 1, none⟩ (.slice A2 m c2)) w.heap.size (growT l j) (.slice A n c) (.slice A2 m c2) := by
  have b1 := blk_set (blk_set h.res 0 (.slice A n c)) 1 (.slice A2 m c2)
  simp only [List.setIfInBounds_toArray, List.set_cons_zero, List.set_cons_succ] at b1
  have K3 : ∀ (W : World) (i : Nat) (u : Value), Keep (fun g => g = r) W (W.setCell ⟨r, i, none⟩ u) := fun W i u => Keep.setCell (F := fun g => g = r) (p := ⟨r, i, none⟩) (Keep.refl _ _) (Or.inl rfl) _
  have n1 := blk_set h.res 0 (.slice A n c)
  refine ⟨b1, (h.below.setCell (p := ⟨r, 0, none⟩) h.le.1 _).setCell (p := ⟨r, 1, none⟩) h.le.1 _, ?_, ?_, href.nil⟩
  · exact own_keep (own_keep href.row (K3 _ 0 _) (fun g hg e => row_ne href.row h.res (by decide) (by rw [hg, e]))) (K3 _ 1 _) (fun g hg e => row_ne href.row h.res (by decide) (by rw [hg, e]))
  · exact own_keep (own_keep href.mrg (K3 _ 0 _) (fun g hg e => row_ne href.mrg h.res (by decide) (by rw [hg, e]))) (K3 _ 1 _) (fun g hg e => row_ne href.mrg h.res (by decide) (by rw [hg, e]))

theorem GrowIs.drewN {w W : World} {l : List Nat} {r tb j : Nat} (h : GrowIs w W l r tb j) (n : Nat) : GrowIs w (W.drewN n) l r tb j := by
  obtain ⟨A, c, A2, c2, hbk, href⟩ := h.ex
  exact ⟨⟨A, c, A2, c2, hbk, href.row, href.mrg, href.nil⟩, h.res, below_drewN h.below n, h.le, h.ne⟩

set_option maxHeartbeats 2000000 in
theorem grow_any (l : List Nat) (A : Option Addr) (c : Nat) (w : World) (hl : Sl1 w A (fun x : Nat => .int .u16 (x : Int)) l) (hsm : ∀ x ∈ l, x < 65536) (hlen : l.length < 9000000000000000000) :
    Calls Try.prog 34 #[.slice A l.length c] w fun e w' => Below w.heap.size w w' ∧ ∃ A1 n1 c1 A2 n2 c2, e = .returned (.agg #[.slice A1 n1 c1, .slice A2 n2 c2]) ∧
      RefIs w' w.heap.size (growT l (min (l.length / 2) 30)) (.slice A1 n1 c1) (.slice A2 n2 c2) := by
  have HL := Lib.hid hl
  clear hl
  go_enter Try.func34, Try.ntmps34
  go_wp2_with fail
  refine (rbegin_any _).mono ?_
  rintro e w1 ⟨vb, rfl, hr, hb⟩
  obtain ⟨A1, c1, rfl⟩ := own_slice hr.row
  go_wp2_with fail
  have HS := Lib.hid (grow_start (l := l) hr hb)
  clear hr hb
  generalize hW : w1.alloc (.cells #[.slice A1 baseT.length c1, .slice none 0 0] 28) = W0 at *
  obtain ⟨r, hr⟩ : ∃ r, w.heap.size = r := ⟨_, rfl⟩
  obtain ⟨tb, ht⟩ : ∃ tb, w1.heap.size = tb := ⟨_, rfl⟩
  have HS1 : Hid (GrowIs w W0 l r tb 0) := Lib.hid (by rw [← hr, ← ht]; exact HS.out)
  rw [hr, ht]
  clear HS hr ht hW
  go_loopg [4] 30 (fun n i W => ∃ j : Nat, j + n = 30 ∧ 2 * j ≤ l.length + 1 ∧ j ≤ l.length / 2 ∧ i = .int .i64 ((2 * j : Nat) : Int) ∧ GrowIs w W l r tb j)
  case atStart => exact ⟨0, by omega, by omega, by omega, rfl, HS1.out⟩
  case round =>
    obtain ⟨j, hj, hj2, hj3, rfl, hW⟩ := hrel
    have HW := Lib.hid hW
    clear HS1
    rename World => W
    by_cases hgo : 2 * j + 1 < l.length ∧ j < 30
    · obtain ⟨A3, c3, A4, c4, hbk, href⟩ := hW.ex
      have c0 := blk_cell hbk 0
      have c1' := blk_cell hbk 1
      simp only [List.getElem?_toArray, List.getElem?_cons_zero, List.getElem?_cons_succ] at c0 c1'
      have hT := okT_grow l j
      have hn1 := okT_256 hT
      have hn2 := hT.small
      have hm1 := mrgs_len (T := growT l j)
      have hLW := HL.out.below hW.below (Nat.le_refl _)
      obtain ⟨b, o, hA, x0⟩ := hLW.at (2 * j) (by omega)
      obtain ⟨_, _, hA', x1⟩ := hLW.at (2 * j + 1) hgo.1
      rw [hA] at hA'
      injection hA' with hA'
      injection hA' with e1 e2
      subst e1; subst e2
      have hx0 := hsm _ (List.getElem_mem (l := l) (n := 2 * j) (by omega))
      have hx1 := hsm _ (List.getElem_mem (l := l) (n := 2 * j + 1) hgo.1)
      have eX : l.getD (2 * j) 0 = l[2 * j]'(by omega) := by rw [List.getD_eq_getElem?_getD, List.getElem?_eq_getElem (by omega)]; rfl
      have eY : l.getD (2 * j + 1) 0 = l[2 * j + 1]'hgo.1 := by rw [List.getD_eq_getElem?_getD, List.getElem?_eq_getElem hgo.1]; rfl
      generalize hX : l[2 * j]'(by omega) = x at *
      generalize hY : l[2 * j + 1]'hgo.1 = y at *
      obtain ⟨n, hn⟩ : ∃ n, (growT l j).length = n := ⟨_, rfl⟩
      obtain ⟨m, hm⟩ : ∃ m, (mrgsT (growT l j)).length = m := ⟨_, rfl⟩
      have HREF := Lib.hid href
      have HEX := Lib.hid eX
      have HEY := Lib.hid eY
      have HN := Lib.hid hn
      have HM := Lib.hid hm
      have HOKT := Lib.hid hT
      rw [hn] at c0
      rw [hm] at c1'
      rw [hn] at hn1 hn2 hm1
      rw [hm] at hm1
      have g1 : (2 * (j : Int) + 1) < (l.length : Int) := by omega
      have g2 : (2 * (j : Int)) < 60 := by omega
      have g3 : (0 : Int) ≤ 2 * (j : Int) := by omega
      have g4 : (0 : Int) ≤ 2 * (j : Int) + 1 := by omega
      have g5 : (2 * (j : Int)) < (l.length : Int) := by omega
      have w1' : IntKind.i64.wrap (x : Int) = x := IntWalk.i64_in _ (by omega)
      have w2 : IntKind.i64.wrap (y : Int) = y := IntWalk.i64_in _ (by omega)
      have w3 : IntKind.i64.wrap ((n : Int) + m) = (n : Int) + m := IntWalk.i64_in _ (by omega)
      have w4 : IntKind.i64.wrap (2 * (j : Int) + 1) = 2 * (j : Int) + 1 := IntWalk.i64_in _ (by omega)
      have t1 : (2 * (j : Int)).toNat = 2 * j := by omega
      have t2 : (2 * (j : Int) + 1).toNat = 2 * j + 1 := by omega
      have hnm : ¬ ((n : Int) + m = 0) := by omega
      have HW2 := HW
      subst hA
      clear hW hbk href eX eY hn hm hLW hT
      go_wp2_with fail
      go_quiet (fail)
      have ex : (x : Int) % ((n : Int) + ((n - 256 : Nat) : Int)) = ((x % (n + (n - 256)) : Nat) : Int) := by push_cast; rfl
      have ey : (y : Int) % ((n : Int) + ((n - 256 : Nat) : Int)) = ((y % (n + (n - 256)) : Nat) : Int) := by push_cast; rfl
      rw [ex, ey]
      have hp := Nat.mod_lt x (show n + (n - 256) > 0 by omega)
      have hq := Nat.mod_lt y (show n + (n - 256) > 0 by omega)
      have fx : foldT (growT l j) x = if x % (n + (n - 256)) ≥ n then 256 + x % (n + (n - 256)) - n else x % (n + (n - 256)) := by unfold foldT; rw [HN.out]
      have fy : foldT (growT l j) y = if y % (n + (n - 256)) ≥ n then 256 + y % (n + (n - 256)) - n else y % (n + (n - 256)) := by unfold foldT; rw [HN.out]
      generalize x % (n + (n - 256)) = p at *
      generalize y % (n + (n - 256)) = q at *
      have HFX := Lib.hid fx
      have HFY := Lib.hid fy
      have HW3 := Lib.hid (HW2.out.drewN nq)
      have HREF3 : Hid (RefIs (W.drewN nq) w.heap.size (growT l j) (.slice A3 (growT l j).length c3) (.slice A4 (mrgsT (growT l j)).length c4)) := Lib.hid ⟨HREF.out.row, HREF.out.mrg, HREF.out.nil⟩
      have d0 : (W.drewN nq).cell? ⟨tb, 0, none⟩ = some (Value.slice A3 n c3) := c0
      have d1 : (W.drewN nq).cell? ⟨tb, 1, none⟩ = some (Value.slice A4 (n - 256) c4) := by rw [← hm1]; exact c1'
      clear fx fy c0 c1' HREF HW HW2 x0 x1 ex ey
      obtain ⟨W3, hW3⟩ : ∃ W3, W.drewN nq = W3 := ⟨_, rfl⟩
      rw [hW3] at HW3 HREF3 d0 d1
      rw [hW3]
      clear hW3
      have hstep : ∀ T' : List Ent, ∀ a' b' : Int, a' = (foldT (growT l j) x : Nat) → b' = (foldT (growT l j) y : Nat) → growT l (j + 1) = if (addT (growT l j) a' b').2.1 = 0 then (addT (growT l j) a' b').2.2 else growT l j := by
        intro _ a' b' ha hb
        subst ha; subst hb
        simp only [growT, growStep, HEX.out, HEY.out]
      have HSTEP := Lib.hid hstep
      clear hstep
      have HADD : Hid (∀ a b : Int, Calls Try.prog 49 #[.agg #[.slice A3 n c3, .slice A4 (n - 256) c4], .agg #[.int .i64 a, .int .i64 b]] W3 (RAddOk W3 w.heap.size (growT l j) a b)) := Lib.hid (fun a b => by
        have h := radd_any a b HREF3.out HOKT.out HW3.out.below.size
        rw [HM.out, HN.out, hm1] at h
        exact h)
      have w5 : IntKind.i64.wrap (2 * (j : Int) + 2) = 2 * (j : Int) + 2 := IntWalk.i64_in _ (by omega)
      by_cases hpn : n ≤ p
      · by_cases hqn : n ≤ q
        · have fpn : foldT (growT l j) x = 256 + p - n := by rw [HFX.out]; exact if_pos hpn
          have wp1 : IntKind.i64.wrap (256 + (p : Int)) = 256 + (p : Int) := IntWalk.i64_in _ (by omega)
          have wp2 : IntKind.i64.wrap (256 + (p : Int) - n) = 256 + (p : Int) - n := IntWalk.i64_in _ (by omega)
          have fqn : foldT (growT l j) y = 256 + q - n := by rw [HFY.out]; exact if_pos hqn
          have wq1 : IntKind.i64.wrap (256 + (q : Int)) = 256 + (q : Int) := IntWalk.i64_in _ (by omega)
          have wq2 : IntKind.i64.wrap (256 + (q : Int) - n) = 256 + (q : Int) - n := IntWalk.i64_in _ (by omega)
          go_wp2_with fail
          refine (HADD.out _ _).mono ?_
          rintro e w4 ⟨hb, A5, n5, c5, A6, n6, c6, rfl, href⟩
          have hst := HSTEP.out [] _ _ (show 256 + (p : Int) - n = _ by rw [fpn]; omega) (show 256 + (q : Int) - n = _ by rw [fqn]; omega)
          have HB := Lib.hid hb
          have HR := Lib.hid href
          clear hb href d0 d1
          rcases Decidable.em ((addT (growT l j) (256 + (p : Int) - n) (256 + (q : Int) - n)).2.1 = 0) with he | he
          · rw [if_pos he] at hst
            rw [← hst] at HR
            have HG := Lib.hid (HW3.out.ok HB.out HR.out (.cells #[.slice A5 n5 c5, .slice A6 n6 c6] 28))
            obtain ⟨_, _, _, _, hbk, _⟩ := HW3.out.ex
            have hb4 := HB.out.alloc HB.out.size (.cells #[.slice A5 n5 c5, .slice A6 n6 c6] 28)
            have e0 := blk_cell (blk_below hb4 (blk_lt hbk) hbk) 0
            have e1 := blk_cell (blk_below hb4 (blk_lt hbk) hbk) 1
            have z0 := blk_froz (blk_below hb4 (blk_lt hbk) hbk) 0
            have z1 := blk_froz (blk_below hb4 (blk_lt hbk) hbk) 1
            have f0 := blk_cell (blk_new w4 (.cells #[.slice A5 n5 c5, .slice A6 n6 c6] 28)) 0
            have f1 := blk_cell (blk_new w4 (.cells #[.slice A5 n5 c5, .slice A6 n6 c6] 28)) 1
            simp only [List.getElem?_toArray, List.getElem?_cons_zero, List.getElem?_cons_succ] at e0 e1 f0 f1
            clear hbk hb4 hst
            go_wp2_with fail
            go_roundg (gk - 1)
            case measure => omega
            case rel => exact ⟨j + 1, by omega, by omega, by omega, by simp [Int.mul_add], HG.out⟩
          · rw [if_neg he] at hst
            have HG := Lib.hid (HW3.out.err HB.out hst (.cells #[.slice A5 n5 c5, .slice A6 n6 c6] 28))
            clear hst
            go_wp2_with fail
            go_roundg (gk - 1)
            case measure => omega
            case rel => exact ⟨j + 1, by omega, by omega, by omega, by simp [Int.mul_add], HG.out⟩
        · have fpn : foldT (growT l j) x = 256 + p - n := by rw [HFX.out]; exact if_pos hpn
          have wp1 : IntKind.i64.wrap (256 + (p : Int)) = 256 + (p : Int) := IntWalk.i64_in _ (by omega)
          have wp2 : IntKind.i64.wrap (256 + (p : Int) - n) = 256 + (p : Int) - n := IntWalk.i64_in _ (by omega)
          have fqn : foldT (growT l j) y = q := by rw [HFY.out]; exact if_neg hqn
          go_wp2_with fail
          refine (HADD.out _ _).mono ?_
          rintro e w4 ⟨hb, A5, n5, c5, A6, n6, c6, rfl, href⟩
          have hst := HSTEP.out [] _ _ (show 256 + (p : Int) - n = _ by rw [fpn]; omega) (show (q : Int) = _ by rw [fqn])
          have HB := Lib.hid hb
          have HR := Lib.hid href
          clear hb href d0 d1
          rcases Decidable.em ((addT (growT l j) (256 + (p : Int) - n) ((q : Int))).2.1 = 0) with he | he
          · rw [if_pos he] at hst
            rw [← hst] at HR
            have HG := Lib.hid (HW3.out.ok HB.out HR.out (.cells #[.slice A5 n5 c5, .slice A6 n6 c6] 28))
            obtain ⟨_, _, _, _, hbk, _⟩ := HW3.out.ex
            have hb4 := HB.out.alloc HB.out.size (.cells #[.slice A5 n5 c5, .slice A6 n6 c6] 28)
            have e0 := blk_cell (blk_below hb4 (blk_lt hbk) hbk) 0
            have e1 := blk_cell (blk_below hb4 (blk_lt hbk) hbk) 1
            have z0 := blk_froz (blk_below hb4 (blk_lt hbk) hbk) 0
            have z1 := blk_froz (blk_below hb4 (blk_lt hbk) hbk) 1
            have f0 := blk_cell (blk_new w4 (.cells #[.slice A5 n5 c5, .slice A6 n6 c6] 28)) 0
            have f1 := blk_cell (blk_new w4 (.cells #[.slice A5 n5 c5, .slice A6 n6 c6] 28)) 1
            simp only [List.getElem?_toArray, List.getElem?_cons_zero, List.getElem?_cons_succ] at e0 e1 f0 f1
            clear hbk hb4 hst
            go_wp2_with fail
            go_roundg (gk - 1)
            case measure => omega
            case rel => exact ⟨j + 1, by omega, by omega, by omega, by simp [Int.mul_add], HG.out⟩
          · rw [if_neg he] at hst
            have HG := Lib.hid (HW3.out.err HB.out hst (.cells #[.slice A5 n5 c5, .slice A6 n6 c6] 28))
            clear hst
            go_wp2_with fail
            go_roundg (gk - 1)
            case measure => omega
            case rel => exact ⟨j + 1, by omega, by omega, by omega, by simp [Int.mul_add], HG.out⟩
      · by_cases hqn : n ≤ q
        · have fpn : foldT (growT l j) x = p := by rw [HFX.out]; exact if_neg hpn
          have fqn : foldT (growT l j) y = 256 + q - n := by rw [HFY.out]; exact if_pos hqn
          have wq1 : IntKind.i64.wrap (256 + (q : Int)) = 256 + (q : Int) := IntWalk.i64_in _ (by omega)
          have wq2 : IntKind.i64.wrap (256 + (q : Int) - n) = 256 + (q : Int) - n := IntWalk.i64_in _ (by omega)
          go_wp2_with fail
          refine (HADD.out _ _).mono ?_
          rintro e w4 ⟨hb, A5, n5, c5, A6, n6, c6, rfl, href⟩
          have hst := HSTEP.out [] _ _ (show (p : Int) = _ by rw [fpn]) (show 256 + (q : Int) - n = _ by rw [fqn]; omega)
          have HB := Lib.hid hb
          have HR := Lib.hid href
          clear hb href d0 d1
          rcases Decidable.em ((addT (growT l j) ((p : Int)) (256 + (q : Int) - n)).2.1 = 0) with he | he
          · rw [if_pos he] at hst
            rw [← hst] at HR
            have HG := Lib.hid (HW3.out.ok HB.out HR.out (.cells #[.slice A5 n5 c5, .slice A6 n6 c6] 28))
            obtain ⟨_, _, _, _, hbk, _⟩ := HW3.out.ex
            have hb4 := HB.out.alloc HB.out.size (.cells #[.slice A5 n5 c5, .slice A6 n6 c6] 28)
            have e0 := blk_cell (blk_below hb4 (blk_lt hbk) hbk) 0
            have e1 := blk_cell (blk_below hb4 (blk_lt hbk) hbk) 1
            have z0 := blk_froz (blk_below hb4 (blk_lt hbk) hbk) 0
            have z1 := blk_froz (blk_below hb4 (blk_lt hbk) hbk) 1
            have f0 := blk_cell (blk_new w4 (.cells #[.slice A5 n5 c5, .slice A6 n6 c6] 28)) 0
            have f1 := blk_cell (blk_new w4 (.cells #[.slice A5 n5 c5, .slice A6 n6 c6] 28)) 1
            simp only [List.getElem?_toArray, List.getElem?_cons_zero, List.getElem?_cons_succ] at e0 e1 f0 f1
            clear hbk hb4 hst
            go_wp2_with fail
            go_roundg (gk - 1)
            case measure => omega
            case rel => exact ⟨j + 1, by omega, by omega, by omega, by simp [Int.mul_add], HG.out⟩
          · rw [if_neg he] at hst
            have HG := Lib.hid (HW3.out.err HB.out hst (.cells #[.slice A5 n5 c5, .slice A6 n6 c6] 28))
            clear hst
            go_wp2_with fail
            go_roundg (gk - 1)
            case measure => omega
            case rel => exact ⟨j + 1, by omega, by omega, by omega, by simp [Int.mul_add], HG.out⟩
        · have fpn : foldT (growT l j) x = p := by rw [HFX.out]; exact if_neg hpn
          have fqn : foldT (growT l j) y = q := by rw [HFY.out]; exact if_neg hqn
          go_wp2_with fail
          refine (HADD.out _ _).mono ?_
          rintro e w4 ⟨hb, A5, n5, c5, A6, n6, c6, rfl, href⟩
          have hst := HSTEP.out [] _ _ (show (p : Int) = _ by rw [fpn]) (show (q : Int) = _ by rw [fqn])
          have HB := Lib.hid hb
          have HR := Lib.hid href
          clear hb href d0 d1
          rcases Decidable.em ((addT (growT l j) ((p : Int)) ((q : Int))).2.1 = 0) with he | he
          · rw [if_pos he] at hst
            rw [← hst] at HR
            have HG := Lib.hid (HW3.out.ok HB.out HR.out (.cells #[.slice A5 n5 c5, .slice A6 n6 c6] 28))
            obtain ⟨_, _, _, _, hbk, _⟩ := HW3.out.ex
            have hb4 := HB.out.alloc HB.out.size (.cells #[.slice A5 n5 c5, .slice A6 n6 c6] 28)
            have e0 := blk_cell (blk_below hb4 (blk_lt hbk) hbk) 0
            have e1 := blk_cell (blk_below hb4 (blk_lt hbk) hbk) 1
            have z0 := blk_froz (blk_below hb4 (blk_lt hbk) hbk) 0
            have z1 := blk_froz (blk_below hb4 (blk_lt hbk) hbk) 1
            have f0 := blk_cell (blk_new w4 (.cells #[.slice A5 n5 c5, .slice A6 n6 c6] 28)) 0
            have f1 := blk_cell (blk_new w4 (.cells #[.slice A5 n5 c5, .slice A6 n6 c6] 28)) 1
            simp only [List.getElem?_toArray, List.getElem?_cons_zero, List.getElem?_cons_succ] at e0 e1 f0 f1
            clear hbk hb4 hst
            go_wp2_with fail
            go_roundg (gk - 1)
            case measure => omega
            case rel => exact ⟨j + 1, by omega, by omega, by omega, by simp [Int.mul_add], HG.out⟩
          · rw [if_neg he] at hst
            have HG := Lib.hid (HW3.out.err HB.out hst (.cells #[.slice A5 n5 c5, .slice A6 n6 c6] 28))
            clear hst
            go_wp2_with fail
            go_roundg (gk - 1)
            case measure => omega
            case rel => exact ⟨j + 1, by omega, by omega, by omega, by simp [Int.mul_add], HG.out⟩
    · have hmin : min (l.length / 2) 30 = j := by omega
      obtain ⟨A3, c3, A4, c4, hbk, href⟩ := hW.ex
      have c0 := blk_cell hbk 0
      have c1' := blk_cell hbk 1
      have d0 := blk_cell hW.res 0
      have d1 := blk_cell hW.res 1
      have z0 := blk_froz hW.res 0
      have z1 := blk_froz hW.res 1
      simp only [List.getElem?_toArray, List.getElem?_cons_zero, List.getElem?_cons_succ] at c0 c1' d0 d1
      have hfin := hW.fin href
      have HFIN := Lib.hid hfin
      have HMIN := Lib.hid hmin
      clear hW hbk href hmin hfin
      by_cases h1 : 2 * j + 1 < l.length
      · have h2 : j = 30 := by omega
        subst h2
        have h3 : (2 * 30 + 1 : Int) < (l.length : Int) := by omega
        go_wp2_with fail
        refine ret_cell1 (r := r) rfl rfl (load_ref HFIN.out.1) ⟨HFIN.out.2.1, _, _, _, _, _, _, rfl, ?_⟩
        rw [HMIN.out]; exact HFIN.out.2.2
      · have h3 : ¬ ((2 * j : Nat) : Int) + 1 < (l.length : Int) := by omega
        go_wp2_with fail
        refine ret_cell1 (r := r) rfl rfl (load_ref HFIN.out.1) ⟨HFIN.out.2.1, _, _, _, _, _, _, rfl, ?_⟩
        rw [HMIN.out]; exact HFIN.out.2.2
end Go.Proofs.Ytpkmcokkapfnmaa
