/- Layer 5 (chain): the document's examples. -/
import Derived.Test.YtpkmcokkapfnmaaChainG
namespace Go.Proofs.Ytpkmcokkapfnmaa
open Go.RowKit Go.Maps Go.WideMaps
set_option maxRecDepth 100000
set_option linter.unusedVariables false
set_option linter.unusedSimpArgs false

def ac0 : List (Int × Int) := [(97, 98), (256, 99)]
def ac1 : List (Int × Int) := [(98, 99), (97, 98), (257, 99)]
def acT1 : List Ent := baseT ++ [([97, 98], 97, 98)]
def acT2 : List Ent := acT1 ++ [([97, 98, 99], 256, 99)]
def acU1 : List Ent := baseT ++ [([98, 99], 98, 99)]
def acU2 : List Ent := acU1 ++ [([97, 98], 97, 98)]
def acU3 : List Ent := acU2 ++ [([97, 98, 99], 257, 99)]
theorem ac_add1 : addT baseT 97 98 = (256, 0, acT1) := by kernel_rfl
theorem ac_add2 : addT acT1 256 99 = (257, 0, acT2) := by kernel_rfl
theorem ac_add3 : addT baseT 98 99 = (256, 0, acU1) := by kernel_rfl
theorem ac_add4 : addT acU1 97 98 = (257, 0, acU2) := by kernel_rfl
theorem ac_add5 : addT acU2 257 99 = (258, 0, acU3) := by kernel_rfl
theorem ac_adds0 : addsT baseT ac0 = some acT2 := by
  simp only [ac0, addsT, ac_add1, ac_add2, if_true]
theorem ac_adds1 : addsT baseT ac1 = some acU3 := by
  simp only [ac1, addsT, ac_add3, ac_add4, ac_add5, if_true]
theorem ac_enc0 : encT acT2 acT2.length [97, 98, 99, 97, 98] = [257, 256] := by kernel_rfl
theorem ac_enc1 : encT acU3 acU3.length [97, 98, 99] = [97, 256] := by kernel_rfl
/-- New of merges that can be added -/
theorem new_ok {l : List (Int × Int)} {T : List Ent} (hT : addsT baseT l = some T) (A : Option Addr) (c : Nat) (w : World) (hl : Sl w A encM 2 l) (hlen : l.length < 9000000000000000000) :
    Calls Try.prog 22 #[.slice A l.length c] w fun e w' => ∃ tb sv mb mp, e = .returned (.tuple #[.pointer (some ⟨tb, 0, none⟩), .int .i64 (l.length : Nat), .int .i64 0]) ∧ OkT T ∧ TabIs w' w.heap.size tb T sv mb mp ∧ Below w.heap.size w w' := by
  refine (new_any l A c w hl hlen).mono ?_
  rintro e w' ⟨hb, (⟨T', tb, sv, mb, mp, rfl, ha, hok, ht⟩ | ⟨k, hk, T', ha, hok, he, rfl⟩)⟩
  · rw [hT] at ha
    injection ha with ha
    subst ha
    exact ⟨tb, sv, mb, mp, rfl, hok, ht, hb⟩
  · exact absurd (adds_take l baseT T k hk T' hT ha) he
/-- merges that were just built -/
theorem sl_mrg {w : World} {g : Nat} {l : List (Int × Int)} (h : w.heap[g]? = some (.cells (l.flatMap encM).toArray 71)) : Sl w (some ⟨g, 0, none⟩) encM 2 l := by
  intro i x hx
  refine ⟨g, 0, rfl, fun j v hv => ?_⟩
  rw [blk_cell h, List.getElem?_toArray, Nat.zero_add]
  have key : ∀ (l : List (Int × Int)) (i : Nat), l[i]? = some x → (l.flatMap encM)[i * 2 + j]? = some v := by
    intro l
    induction l with
    | nil => intro i h; simp at h
    | cons y ys ih =>
      intro i hx
      have hj : j < 2 := (List.getElem?_eq_some_iff.1 hv).1
      cases i with
      | zero =>
        simp at hx
        subst hx
        rw [List.flatMap_cons, List.getElem?_append_left (by show 0 * 2 + j < 2; omega)]
        simpa using hv
      | succ i =>
        simp at hx
        rw [List.flatMap_cons, List.getElem?_append_right (by show 2 ≤ _; omega)]
        have := ih i hx
        rw [show (i + 1) * 2 + j - (encM y).length = i * 2 + j by show (i + 1) * 2 + j - 2 = _; omega]
        exact this
  exact key l i hx
/-- numbers that were just built -/
theorem sl_int {w : World} {g : Nat} {l : List Int} (h : w.heap[g]? = some (.cells (l.map (Value.int .i64)).toArray 3)) : Sl1 w (some ⟨g, 0, none⟩) (Value.int .i64) l := by
  intro i x hx
  refine ⟨g, 0, rfl, ?_⟩
  rw [blk_cell h, List.getElem?_toArray, Nat.zero_add, List.getElem?_map, hx]
  rfl
theorem ints_sl {w : World} {base : Nat} {v : Value} {l : List Int} (h : IntsIs w base v l) : ∃ A c, v = .slice A l.length c ∧ Sl1 w A (Value.int .i64) l := by
  obtain ⟨A, c, e, hr⟩ := h
  exact ⟨A, c, e, own_sl1 hr⟩
set_option maxHeartbeats 4000000 in
theorem awake5_any (w : World) : Calls Try.prog 11 #[] w fun e w' => e = .returned (.bool true) ∧ Below w.heap.size w w' := by
  have HB0 := Lib.hid ((Below.refl w.heap.size w).alloc (Nat.le_refl _) (.cells #[.int .i64 97, .int .i64 98, .int .i64 256, .int .i64 99] 71))
  have HSL := Lib.hid (sl_mrg (l := ac0) (blk_new w (.cells #[.int .i64 97, .int .i64 98, .int .i64 256, .int .i64 99] 71)))
  go_enter Try.func11, Try.ntmps11
  go_wp2_with fail
  generalize w.alloc (.cells #[.int .i64 97, .int .i64 98, .int .i64 256, .int .i64 99] 71) = w1 at *
  refine (new_ok ac_adds0 _ 2 w1 HSL.out (by decide)).mono ?_
  rintro e w2 ⟨tb, sv, mb, mp, rfl, hok, ht, hb⟩
  have HB2 := Lib.hid (HB0.out.trans (hb.mono HB0.out.size))
  have HT := Lib.hid ht
  have HOK := Lib.hid hok
  clear hb ht hok HSL HB0
  have HBA := Lib.hid ((Below.refl w2.heap.size w2).alloc (Nat.le_refl _) (.cells #[.int .i64 98, .int .i64 99, .int .i64 97, .int .i64 98, .int .i64 257, .int .i64 99] 71))
  have HSL := Lib.hid (sl_mrg (l := ac1) (blk_new w2 (.cells #[.int .i64 98, .int .i64 99, .int .i64 97, .int .i64 98, .int .i64 257, .int .i64 99] 71)))
  have HL0 : Hid (((ac0.length : Nat) : Int) = 2) := Lib.hid rfl
  rw [HL0.out]
  go_wp2_with fail
  have HB3 := Lib.hid (HB2.out.trans (HBA.out.mono HB2.out.size))
  replace HT := Lib.hid (HT.out.below HBA.out (Nat.le_refl _))
  clear HBA HB2 HL0
  generalize w2.alloc (.cells #[.int .i64 98, .int .i64 99, .int .i64 97, .int .i64 98, .int .i64 257, .int .i64 99] 71) = w3 at *
  generalize w2.heap.size = g2 at *
  refine (new_ok ac_adds1 _ 3 w3 HSL.out (by decide)).mono ?_
  rintro e w4 ⟨ub, su, nb, np, rfl, hok, ht, hb⟩
  have HB4 := Lib.hid (HB3.out.trans (hb.mono HB3.out.size))
  replace HT := Lib.hid (HT.out.below hb (Nat.le_refl _))
  have HU := Lib.hid ht
  have HOU := Lib.hid hok
  clear hb ht hok HSL HB3
  have HL0 : Hid (((ac1.length : Nat) : Int) = 3) := Lib.hid rfl
  rw [HL0.out]
  go_wp2_with fail
  refine (encode_any HT.out HOK.out _ (by decide)).mono ?_
  rintro e w5 ⟨⟨v, rfl, hv⟩, hb⟩
  have hv : IntsIs w5 w4.heap.size v [257, 256] := hv
  have hba := (Below.refl w5.heap.size w5).alloc (Nat.le_refl _) (.cells #[.int .i64 257, .int .i64 256] 3)
  have hn := blk_new w5 (.cells #[.int .i64 257, .int .i64 256] 3)
  obtain ⟨A, c, rfl, hs⟩ := ints_sl (ints_below hv hba (Nat.le_refl _))
  have HI := Lib.hid (ints_any [257, 256] [257, 256] A (some ⟨w5.heap.size, 0, none⟩) c 2 _ hs (sl_int (l := [257, 256]) hn) (by decide))
  have hb6 := hb.trans (hba.mono hb.size)
  have HB6 := Lib.hid (HB4.out.trans (hb6.mono HB4.out.size))
  replace HU := Lib.hid (HU.out.below hb6 (Nat.le_refl _))
  clear hv hba hn hs hb hb6 HT HL0
  go_wp2_with fail
  generalize w5.alloc (.cells #[.int .i64 257, .int .i64 256] 3) = w6 at *
  refine HI.out.mono ?_
  rintro e w7 ⟨rfl, hb⟩
  have HB7 := Lib.hid (HB6.out.trans (hb.mono HB6.out.size))
  replace HU := Lib.hid (HU.out.below hb (Nat.le_refl _))
  clear hb HI
  go_wp2_with fail
  refine (encode_any HU.out HOU.out _ (by decide)).mono ?_
  rintro e w8 ⟨⟨v, rfl, hv⟩, hb⟩
  have hv : IntsIs w8 w7.heap.size v [97, 256] := hv
  have hba := (Below.refl w8.heap.size w8).alloc (Nat.le_refl _) (.cells #[.int .i64 97, .int .i64 256] 3)
  have hn := blk_new w8 (.cells #[.int .i64 97, .int .i64 256] 3)
  obtain ⟨A, c, rfl, hs⟩ := ints_sl (ints_below hv hba (Nat.le_refl _))
  have HI := Lib.hid (ints_any [97, 256] [97, 256] A (some ⟨w8.heap.size, 0, none⟩) c 2 _ hs (sl_int (l := [97, 256]) hn) (by decide))
  have hb6 := hb.trans (hba.mono hb.size)
  have HB6 := Lib.hid (HB7.out.trans (hb6.mono HB7.out.size))
  clear hv hba hn hs hb hb6 HU
  go_wp2_with fail
  generalize w8.alloc (.cells #[.int .i64 97, .int .i64 256] 3) = w9 at *
  refine HI.out.mono ?_
  rintro e w10 ⟨rfl, hb⟩
  have HB10 := Lib.hid (HB6.out.trans (hb.mono HB6.out.size))
  clear hb HI
  go_wp2_with fail
  go_ret
  exact ⟨rfl, HB10.out⟩
end Go.Proofs.Ytpkmcokkapfnmaa
