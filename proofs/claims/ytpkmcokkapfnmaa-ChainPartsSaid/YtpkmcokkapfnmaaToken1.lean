/- Layer 4 (token): Bytes and Parents. -/
import Derived.Test.YtpkmcokkapfnmaaToken0
import Derived.Laws.ResultCell
namespace Go.Proofs.Ytpkmcokkapfnmaa
open Go.RowKit Go.Maps Go.WideMaps
set_option maxRecDepth 100000
set_option linter.unusedVariables false
set_option linter.unusedSimpArgs false

def bytesT (T : List Ent) (id : Int) : List UInt8 := if hasT T id then (entT T id).1 else []
def bornT (T : List Ent) (id : Int) : Bool := hasT T id && (entT T id).2 != (-1, -1)
def parT (T : List Ent) (id : Int) : Int × Int := if bornT T id then (entT T id).2 else (0, 0)

theorem encE_len (e : Ent) : (encE e).length = 3 := rfl
theorem hasT_at {T : List Ent} {id : Int} (h : hasT T id = true) : ∃ k : Nat, id = (k : Int) ∧ ∃ hk : k < T.length, entT T id = T[k] := by
  simp only [hasT, Bool.and_eq_true, decide_eq_true_eq] at h
  obtain ⟨k, rfl⟩ := Int.eq_ofNat_of_zero_le h.1
  have hk : k < T.length := by omega
  exact ⟨k, rfl, hk, entT_nat _ _ hk⟩

section
variable {w : World} {base tb : Nat} {T : List Ent} {sv : Value} {mb mp : Nat}
theorem tab_at (h : TabIs w base tb T sv mb mp) (k : Nat) (hk : k < T.length) : ∃ b o c, sv = .slice (some ⟨b, o, none⟩) T.length c ∧
    w.cell? ⟨b, o + k * 3, none⟩ = some (strV T[k].1) ∧ w.cell? ⟨b, o + k * 3 + 1, none⟩ = some (.int .i64 T[k].2.1) ∧ w.cell? ⟨b, o + k * 3 + 2, none⟩ = some (.int .i64 T[k].2.2) := by
  have hr := h.row
  obtain ⟨A, c, rfl⟩ := own_slice hr
  obtain ⟨b, o, rfl, hc⟩ := (own_sl encE_len hr (by decide)).at k hk
  exact ⟨b, o, c, rfl, hc 0 _ rfl, hc 1 _ rfl, hc 2 _ rfl⟩

theorem bytes_nil (id : Int) (w : World) : Calls Try.prog 41 #[.pointer none, .int .i64 id] w fun e w' => e = .returned (.tuple #[strV [], .bool false]) ∧ w' = w := by
  go_enter Try.func41, Try.ntmps41
  go_wp2_with fail
  refine (has_nil _ _).mono ?_
  rintro e w' ⟨rfl, rfl⟩
  go_wp2_with fail
  go_ret2
  exact ⟨rfl, rfl⟩
theorem bytes_tab (id : Int) (h : TabIs w base tb T sv mb mp) : Calls Try.prog 41 #[.pointer (some ⟨tb, 0, none⟩), .int .i64 id] w fun e w' => e = .returned (.tuple #[strV (bytesT T id), .bool (hasT T id)]) ∧ w' = w := by
  have HH := Lib.hid (has_tab id h)
  cases hh : hasT T id with
  | false =>
    have HF := Lib.hid hh
    clear hh h
    go_enter Try.func41, Try.ntmps41
    go_wp2_with fail
    refine HH.out.mono ?_
    rintro e w' ⟨rfl, rfl⟩
    rw [HF.out]
    go_wp2_with fail
    go_ret2
    refine ⟨?_, rfl⟩
    simp only [bytesT, HF.out]
    rfl
  | true =>
    have HF := Lib.hid hh
    obtain ⟨k, rfl, hk, hE⟩ := hasT_at hh
    obtain ⟨b, o, c, rfl, g0, _, _⟩ := tab_at h k hk
    have c0 := blk_cell h.blk 0
    simp only [List.getElem?_toArray, List.getElem?_cons_zero] at c0
    have HE := Lib.hid hE
    unfold strV at g0
    obtain ⟨x, hx⟩ : ∃ x, bs T[k].1 = x := ⟨_, rfl⟩
    rw [hx] at g0
    have HX := Lib.hid hx
    clear hh h hE hx
    go_enter Try.func41, Try.ntmps41
    go_wp2_with fail
    refine HH.out.mono ?_
    rintro e w' ⟨rfl, rfl⟩
    rw [HF.out]
    go_wp2_with fail
    go_ret2
    refine ⟨?_, rfl⟩
    simp only [bytesT, HF.out, if_true, HE.out, strV, HX.out]
    rfl

/-- a struct of two that is the first of two results -/
theorem ret_cell {P : Program} {fn : Func} {R : Ending → World → Prop} {tmps : Array Value} {w : World} {r : Nat} {x y : Int} {u : Bool} {p q : Tmp} {ty : TypeId} {t0 t1 : TypeId}
    (h : fn.results = #[.cell p ty, .tmp q]) (hp : tmps.getD p undef = .pointer (some ⟨r, 0, none⟩)) (hq : tmps.getD q undef = .bool u)
    (hl : (loadVar ty ⟨r, 0, none⟩).run P w = .ok (.agg #[.int .i64 x, .int .i64 y]) w)
    (hR : R (.returned (.tuple #[pairV (x, y), .bool u])) w) : bodyPost P fn R .ret ⟨tmps, []⟩ w := by
  refine bodyPost_ret (v := .tuple #[pairV (x, y), .bool u]) ?_ rfl hR
  rw [results_cell_tmp h, hp, hq]
  simp [asAddr, hl, Result.andThen, pairV]
theorem load_mrg {w : World} {r : Nat} {x y : Int} (h : w.heap[r]? = some (.cells #[.int .i64 x, .int .i64 y] 71)) : (loadVar 71 ⟨r, 0, none⟩).run Try.prog w = .ok (.agg #[.int .i64 x, .int .i64 y]) w := by
  have n0 := blk_cell h 0
  have n1 := blk_cell h 1
  simp only [List.getElem?_toArray, List.getElem?_cons_zero, List.getElem?_cons_succ] at n0 n1
  simp [go_sem, n0, n1]

theorem par_nil (id : Int) (w : World) : Calls Try.prog 44 #[.pointer none, .int .i64 id] w fun e w' => e = .returned (.tuple #[pairV (0, 0), .bool false]) ∧ Below w.heap.size w w' := by
  go_enter Try.func44, Try.ntmps44
  go_wp2_with fail
  refine (has_nil _ _).mono ?_
  rintro e w' ⟨rfl, rfl⟩
  go_wp2_with fail
  refine bodyPost_ret (v := .tuple #[pairV (0, 0), .bool false]) (by simp [results, Try.results44, go_sem, pairV]) rfl ⟨rfl, ?_⟩
  exact (Below.refl _ _).alloc (Nat.le_refl _) _
theorem par_tab (id : Int) (h : TabIs w base tb T sv mb mp) : Calls Try.prog 44 #[.pointer (some ⟨tb, 0, none⟩), .int .i64 id] w fun e w' => e = .returned (.tuple #[pairV (parT T id), .bool (bornT T id)]) ∧ Below w.heap.size w w' := by
  have hb0 := (Below.refl w.heap.size w).alloc (Nat.le_refl _) (.cells #[.int .i64 0, .int .i64 0] 71)
  have HH := Lib.hid (has_tab id (h.below hb0 (Nat.le_refl _)))
  have HB := Lib.hid hb0
  clear hb0
  cases hh : hasT T id with
  | false =>
    have HF := Lib.hid hh
    have HN := Lib.hid (show bornT T id = false by simp [bornT, hh])
    clear hh h
    go_enter Try.func44, Try.ntmps44
    go_wp2_with fail
    refine HH.out.mono ?_
    rintro e w' ⟨rfl, rfl⟩
    rw [HF.out]
    clear HH
    go_wp2_with fail
    refine bodyPost_ret (v := .tuple #[pairV (0, 0), .bool false]) (by simp [results, Try.results44, go_sem, pairV]) rfl ⟨?_, HB.out⟩
    rw [HN.out]
    simp only [parT, HN.out]
    rfl
  | true =>
    have HF := Lib.hid hh
    obtain ⟨k, rfl, hk, hE⟩ := hasT_at hh
    obtain ⟨b, o, c, rfl, _, g1o, g2o⟩ := tab_at h k hk
    have c0o := blk_cell h.blk 0
    simp only [List.getElem?_toArray, List.getElem?_cons_zero] at c0o
    have hne : b ≠ w.heap.size := Nat.ne_of_lt (World.block_lt_of_cell? w _ g1o)
    have g1 := below_cell HB.out (Nat.le_refl _) g1o
    have g2 := below_cell HB.out (Nat.le_refl _) g2o
    have c0 := below_cell HB.out (Nat.le_refl _) c0o
    have bnew := blk_new w (.cells #[.int .i64 0, .int .i64 0] 71)
    have n0 := blk_cell bnew 0
    have n1 := blk_cell bnew 1
    have z0 := blk_froz bnew 0
    have z1 := blk_froz bnew 1
    simp only [List.getElem?_toArray, List.getElem?_cons_zero, List.getElem?_cons_succ] at n0 n1
    have HN := Lib.hid (show bornT T (k : Int) = (T[k].2 != (-1, -1)) by simp [bornT, hh, hE])
    have HE := Lib.hid hE
    obtain ⟨x, hx⟩ : ∃ x, T[k].2 = x := ⟨_, rfl⟩
    rw [hx] at g1 g2
    have HX := Lib.hid hx
    clear hh h hE hx
    obtain ⟨x, y⟩ := x
    simp only [] at g1 g2
    have HBN := Lib.hid bnew
    clear c0o g1o g2o bnew
    go_enter Try.func44, Try.ntmps44
    go_wp2_with fail
    refine HH.out.mono ?_
    rintro e w' ⟨rfl, rfl⟩
    rw [HF.out]
    clear HH
    generalize hW : w.alloc (.cells #[.int .i64 0, .int .i64 0] 71) = W at *
    generalize hr : w.heap.size = r at *
    have HR := Lib.hid hr
    clear hW hr
    cases hq : ((x, y) != ((-1 : Int), (-1 : Int))) with
    | false =>
      have HQ := Lib.hid hq
      simp only [bne_eq_false_iff_eq, Prod.mk.injEq] at hq
      obtain ⟨rfl, rfl⟩ := hq
      go_wp2_with fail
      refine ret_cell (r := r) (x := 0) (y := 0) (u := false) (t0 := 0) (t1 := 0) rfl rfl rfl (load_mrg (by exact blk_set (blk_set HBN.out 0 _) 1 _)) ⟨?_, ?_⟩
      · rw [HN.out, HX.out, HQ.out]
        simp only [parT, HN.out, HX.out, HQ.out]
        rfl
      · have hb := HB.out
        rw [← HR.out] at hb ⊢
        exact (hb.setCell (Nat.le_refl _) _).setCell (Nat.le_refl _) _
    | true =>
      have HQ := Lib.hid hq
      have hq1 : ¬ (x = -1 ∧ y = -1) := by
        rintro ⟨rfl, rfl⟩
        simp at hq
      clear hq
      go_wp2_with fail
      all_goals (first | (exfalso; omega) | skip)
      all_goals
        refine ret_cell (r := r) (x := _) (y := y) (u := true) (t0 := 0) (t1 := 0) rfl rfl rfl (load_mrg (by exact blk_set (blk_set HBN.out 0 _) 1 _)) ⟨?_, ?_⟩
        · rw [HN.out, HX.out, HQ.out]
          simp only [parT, HN.out, HX.out, HQ.out, HE.out, if_true]
          try (subst_vars; rfl)
        · have hb := HB.out
          rw [← HR.out] at hb ⊢
          exact (hb.setCell (Nat.le_refl _) _).setCell (Nat.le_refl _) _
end
end Go.Proofs.Ytpkmcokkapfnmaa
