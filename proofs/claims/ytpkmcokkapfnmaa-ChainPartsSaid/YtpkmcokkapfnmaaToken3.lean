/- Layer 4 (token): Add. -/
import Derived.Test.YtpkmcokkapfnmaaToken2
namespace Go.Proofs.Ytpkmcokkapfnmaa
open Go.RowKit Go.Maps Go.WideMaps
set_option maxRecDepth 100000
set_option linter.unusedVariables false
set_option linter.unusedSimpArgs false

theorem bs_append (a b : List UInt8) : bs a ++ bs b = bs (a ++ b) := by
  apply ByteArray.ext
  simp [bs]

theorem addT_long {T : List Ent} {a b : Int} {X Y : List UInt8} (ha : hasT T a = true) (hb : hasT T b = true) (hx : (entT T a).1 = X) (hy : (entT T b).1 = Y) (h : 64 < (X ++ Y).length) : addT T a b = (0, 3, T) := by
  subst hx hy
  unfold addT
  rw [ha, hb, if_neg (by simp), if_pos h]
theorem addT_full {T : List Ent} {a b : Int} {X Y : List UInt8} (ha : hasT T a = true) (hb : hasT T b = true) (hx : (entT T a).1 = X) (hy : (entT T b).1 = Y) (h : ¬ 64 < (X ++ Y).length) (h1 : 1000 ≤ T.length) : addT T a b = (0, 5, T) := by
  subst hx hy
  unfold addT
  rw [ha, hb, if_neg (by simp), if_neg h, if_pos h1]
theorem addT_twice {T : List Ent} {a b : Int} {X Y : List UInt8} (ha : hasT T a = true) (hb : hasT T b = true) (hx : (entT T a).1 = X) (hy : (entT T b).1 = Y) (h : ¬ 64 < (X ++ Y).length) (h1 : ¬ 1000 ≤ T.length) (h2 : (findT T (X ++ Y)).isSome = true) : addT T a b = (0, 10, T) := by
  subst hx hy
  unfold addT
  rw [ha, hb, if_neg (by simp), if_neg h, if_neg h1, if_pos h2]
theorem addT_ok {T : List Ent} {a b : Int} {X Y : List UInt8} (ha : hasT T a = true) (hb : hasT T b = true) (hx : (entT T a).1 = X) (hy : (entT T b).1 = Y) (h : ¬ 64 < (X ++ Y).length) (h1 : ¬ 1000 ≤ T.length) (h2 : (findT T (X ++ Y)).isSome = false) : addT T a b = ((T.length : Int), 0, T ++ [(X ++ Y, a, b)]) := by
  subst hx hy
  unfold addT
  rw [ha, hb, if_neg (by simp), if_neg h, if_neg h1, if_neg (by rw [h2]; simp)]

/-- what Add leaves -/
structure Added (w w' : World) (base tb : Nat) (T' : List Ent) (sv : Value) (mb mp : Nat) : Prop where
  ex : ∃ sv', TabIs w' base tb T' sv' mb mp ∧ (sv'.ownBlock = sv.ownBlock ∨ ∃ g, sv'.ownBlock = some g ∧ w.heap.size ≤ g)
  keep : Keep (tabF tb sv mb mp) w w'

section
variable {w : World} {base tb : Nat} {T : List Ent} {sv : Value} {mb mp : Nat}
theorem add_nil (a b : Int) (w : World) : Calls Try.prog 43 #[.pointer none, .agg #[.int .i64 a, .int .i64 b]] w fun e w' => e = .returned (.tuple #[.int .i64 0, .int .i64 1]) ∧ Below w.heap.size w w' := by
  have HB := Lib.hid ((Below.refl w.heap.size w).alloc (Nat.le_refl _) (.cells #[.int .i64 a, .int .i64 b] 71))
  go_enter Try.func43, Try.ntmps43
  go_wp2_with fail
  go_ret2
  exact ⟨rfl, HB.out⟩

set_option maxHeartbeats 2000000 in
theorem add_err (a b : Int) (h : TabIs w base tb T sv mb mp) (hT : OkT T) (he : (addT T a b).2.1 ≠ 0) :
    Calls Try.prog 43 #[.pointer (some ⟨tb, 0, none⟩), .agg #[.int .i64 a, .int .i64 b]] w fun e w' => e = .returned (.tuple #[.int .i64 0, .int .i64 (addT T a b).2.1]) ∧ Below w.heap.size w w' := by
  have hb0 := (Below.refl w.heap.size w).alloc (Nat.le_refl _) (.cells #[.int .i64 a, .int .i64 b] 71)
  have HB := Lib.hid hb0
  have h0 := h.below hb0 (Nat.le_refl _)
  have bnew := blk_new w (.cells #[.int .i64 a, .int .i64 b] 71)
  have n0 := blk_cell bnew 0
  have n1 := blk_cell bnew 1
  simp only [List.getElem?_toArray, List.getElem?_cons_zero, List.getElem?_cons_succ] at n0 n1
  have HT := Lib.hid h0
  have HA := Lib.hid (has_tab a h0)
  have HE := Lib.hid he
  have HOK := Lib.hid hT
  clear h h0 bnew hb0 he hT
  go_enter Try.func43, Try.ntmps43
  go_wp2_with fail
  generalize hW : w.alloc (.cells #[.int .i64 a, .int .i64 b] 71) = W at *
  clear hW
  refine HA.out.mono ?_
  rintro e w' ⟨rfl, rfl⟩
  clear HA
  cases ha : hasT T a with
  | false =>
    go_wp2_with fail
    go_ret2
    refine ⟨?_, HB.out⟩
    simp [addT, ha]
  | true =>
    have HA := Lib.hid ha
    have HC := Lib.hid (has_tab b HT.out)
    clear ha
    go_wp2_with fail
    refine HC.out.mono ?_
    rintro e w' ⟨rfl, rfl⟩
    clear HC
    cases hb : hasT T b with
    | false =>
      go_wp2_with fail
      go_ret2
      refine ⟨?_, HB.out⟩
      simp [addT, hb]
    | true =>
      have HAB := Lib.hid hb
      obtain ⟨k, rfl, hk, ek⟩ := hasT_at HA.out
      obtain ⟨l, rfl, hl, el⟩ := hasT_at hb
      obtain ⟨ba, o, c, rfl, g0, _, _⟩ := tab_at HT.out k hk
      obtain ⟨ba', o', c', e', g1, _, _⟩ := tab_at HT.out l hl
      cases e'
      have c0 := blk_cell HT.out.blk 0
      simp only [List.getElem?_toArray, List.getElem?_cons_zero] at c0
      have hX := HOK.out.len T[k] (List.getElem_mem hk)
      have hY := HOK.out.len T[l] (List.getElem_mem hl)
      have EK := Lib.hid ek
      have EL := Lib.hid el
      have HS := Lib.hid HOK.out.small
      obtain ⟨X, hXe⟩ : ∃ X, T[k].1 = X := ⟨_, rfl⟩
      obtain ⟨Y, hYe⟩ : ∃ Y, T[l].1 = Y := ⟨_, rfl⟩
      rw [hXe] at g0 hX
      rw [hYe] at g1 hY
      have HXE := Lib.hid hXe
      have HYE := Lib.hid hYe
      have hbig : (9223372036854775807 < (bs X).size + (bs Y).size) = False := by rw [eq_iff_iff, iff_false, bs_size, bs_size]; omega
      have HX := Lib.hid hX
      have HY := Lib.hid hY
      unfold strV at g0 g1
      have q0 : 0 ≤ (k : Int) := by omega
      have q1 : (k : Int) < (T.length : Int) := by omega
      have q2 : 0 ≤ (l : Int) := by omega
      have q3 : (l : Int) < (T.length : Int) := by omega
      rename_i j1 j2 j3 j4
      clear hb ek el hXe hYe hX hY j1 j2 j3 j4
      go_wp2_with fail
      go_quiet (fail)
      rw [bs_append]
      obtain ⟨z, hz⟩ : ∃ z, bs (X ++ Y) = z := ⟨_, rfl⟩
      have hzs : z.size = (X ++ Y).length := by rw [← hz, bs_size]
      have HZ := Lib.hid hz
      have HZS := Lib.hid hzs
      rw [hz]
      clear hz hbig g0 g1 q0 q1 q2 q3 hzs
      by_cases h64 : (64 : Int) < (z.size : Int)
      · go_wp2_with fail
        go_ret2
        refine ⟨?_, below_drewN HB.out _⟩
        rw [addT_long HA.out HAB.out (by rw [EK.out, HXE.out]) (by rw [EL.out, HYE.out]) (by have := HZS.out; omega)]
        rfl
      · by_cases h1000 : (1000 : Int) ≤ (T.length : Int)
        · go_wp2_with fail
          go_ret2
          refine ⟨?_, below_drewN HB.out _⟩
          rw [addT_full HA.out HAB.out (by rw [EK.out, HXE.out]) (by rw [EL.out, HYE.out]) (by have := HZS.out; omega) (by omega)]
          rfl
        · have hkz : strV (X ++ Y) = .string z := by unfold strV; rw [HZ.out]
          have hke := key_str (X ++ Y) (by have := HX.out; have := HY.out; rw [List.length_append]; unfold maxLen; omega)
          have c1 : (w'.drewN nq).cell? ⟨tb, 1, none⟩ = _ := blk_cell HT.out.blk 1
          simp only [List.getElem?_toArray, List.getElem?_cons_zero, List.getElem?_cons_succ] at c1
          cases hf : (findT T (X ++ Y)).isSome with
          | true =>
            go_wp2_with (refine map_look 94 _ _ rfl rfl keyed_str Try.underlying94 Try.underlying3 (zero_int _) rfl (HT.out.drewN nq).bys (X ++ Y) hkz.symm hke ?_)
            go_ret2
            refine ⟨?_, below_drewN HB.out _⟩
            rw [addT_twice HA.out HAB.out (by rw [EK.out, HXE.out]) (by rw [EL.out, HYE.out]) (by have := HZS.out; omega) (by omega) hf]
            rfl
          | false =>
            exfalso
            have := HE.out
            rw [addT_ok HA.out HAB.out (by rw [EK.out, HXE.out]) (by rw [EL.out, HYE.out]) (by have := HZS.out; omega) (by omega) hf] at this
            exact this rfl
end
end Go.Proofs.Ytpkmcokkapfnmaa
