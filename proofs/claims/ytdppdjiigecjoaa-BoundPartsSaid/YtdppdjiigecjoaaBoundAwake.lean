/- Layer 8 (bound): the document's example holds. -/
import Derived.Test.YtdppdjiigecjoaaBound5
import Derived.Test.YtdppdjiigecjoaaTexts
namespace Go.Proofs.Ytdppdjiigecjoaa
open Go.RowKit
set_option maxRecDepth 100000
set_option linter.unusedVariables false
set_option linter.unusedSimpArgs false

/-- New of right classes and joins -/
theorem new_ok (cs : List Cls) (js : List Jn) (A B : Option Addr) (cA cB : Nat) (w : World) (hA : Sl w A encCls 3 cs) (hB : Sl w B encJn 2 js) (hcs : cs.length < 9000000000000000000) (hjs : js.length < 9000000000000000000) (h1 : cs.all spanB = true) (h2 : js.all jnB = true) :
    Calls Try.prog 15 #[.slice A cs.length cA, .slice B js.length cB] w fun e w' => Below w.heap.size w w' ∧ ∃ bk, w.heap.size ≤ bk ∧ e = .returned (.tuple #[.pointer (some ⟨bk, 0, none⟩), .int .i64 0]) ∧ TP w' (some ⟨bk, 0, none⟩) (cutB (Cof cs) (Jof js)) := by
  refine (new_any cs js A B cA cB w hA hB hcs hjs).mono ?_
  rintro e w' ⟨hb, h⟩
  rw [if_pos (by simp [h1, h2])] at h
  obtain ⟨bk, hbk, rfl, ht⟩ := h
  exact ⟨hb, bk, hbk, rfl, .inr ⟨bk, _, _, rfl, ht, rfl⟩⟩

def exC : List Cls := [⟨97, 122, 1⟩]
def exJ : List Jn := [⟨1, 0⟩]
def ex1 : ByteArray := bs [97, 98, 99, 49, 50]
def ex2 : ByteArray := bs [97, 49]
theorem ex_pcs : pcs (cutB (Cof exC) (Jof [])) ex1.data.toList = [[97, 98, 99], [49, 50]] := by decide +kernel
theorem ex_whole : decide ((pcs (cutB (Cof exC) (Jof exJ)) ex1.data.toList).length ≤ 1) = true := by decide +kernel
theorem ex_part : decide ((pcs (cutB (Cof exC) (Jof [])) ex2.data.toList).length ≤ 1) = false := by decide +kernel

theorem sl_one {α : Type} (w : World) (enc : α → List Value) (sz : Nat) (x : α) (t : TypeId) : Sl (w.alloc (.cells (enc x).toArray t)) (some ⟨w.heap.size, 0, none⟩) enc sz [x] := by
  intro i y hy
  cases i with
  | zero =>
    simp at hy
    subst hy
    refine ⟨_, _, rfl, fun j v hv => ?_⟩
    rw [blk_cell (blk_new w _) _]
    simpa using hv
  | succ i => simp at hy
theorem sl1_new {α : Type} (w : World) (enc : α → Value) (xs : List α) (t : TypeId) : Sl1 (w.alloc (.cells (xs.map enc).toArray t)) (some ⟨w.heap.size, 0, none⟩) enc xs := by
  intro i y hy
  refine ⟨_, _, rfl, ?_⟩
  rw [blk_cell (blk_new w _) _]
  simp [hy]
theorem tp_alloc {w : World} {p : Option Addr} {cut : Nat → Nat → Bool} (h : TP w p cut) (o : Obj) : TP (w.alloc o) p cut := h.below ((Below.refl _ _).alloc (Nat.le_refl _) _) (Nat.le_refl _)

set_option maxHeartbeats 1000000 in
theorem bawake (w : World) : Calls Try.prog 14 #[] w fun e w' => e = .returned (.bool true) ∧ Below w.heap.size w w' := by
  go_enter Try.func14, Try.ntmps14
  go_wp2_with fail
  refine (new_ok exC [] (some ⟨w.heap.size, 0, none⟩) none 1 0 _ (sl_one w encCls 3 ⟨97, 122, 1⟩ 99) (Sl.nil _ _ _ _) (by decide) (by decide) rfl rfl).mono ?_
  rintro e w1 ⟨hb1, bk, hbk, rfl, ht1⟩
  have hs1 := hb1.size
  rw [size_alloc] at hs1 hbk
  have HB1 := Lib.hid (below_then ((Below.refl w.heap.size w).alloc (Nat.le_refl _) _) (by simp) hb1)
  clear hb1
  go_wp2_with fail
  refine (new_ok exC exJ (some ⟨w1.heap.size, 0, none⟩) (some ⟨w1.heap.size + 1, 0, none⟩) 1 1 _ ((sl_one w1 encCls 3 ⟨97, 122, 1⟩ 99).below ((Below.refl _ _).alloc (Nat.le_refl _) _) (Nat.le_refl _)) (by have := sl_one (w1.alloc (.cells #[.int .i64 97, .int .i64 122, .int .i64 1] 99)) encJn 2 ⟨1, 0⟩ 100; rw [size_alloc] at this; exact this) (by decide) (by decide) rfl rfl).mono ?_
  rintro e w2 ⟨hb2, bk2, hbk2, rfl, ht2⟩
  have hs2 := hb2.size
  simp only [size_alloc] at hs2 hbk2 hb2
  have HB2 := Lib.hid (below_then HB1.out (C := w1.heap.size) (by omega) (below_then (((Below.refl w1.heap.size w1).alloc (Nat.le_refl _) _).alloc (by simp) _) (by omega) hb2))
  have ht1 := ht1.below (below_then (((Below.refl w1.heap.size w1).alloc (Nat.le_refl _) _).alloc (by simp) _) (by omega) hb2) (Nat.le_refl _)
  have HT1 := Lib.hid ht1
  have HT2 := Lib.hid ht2
  clear hb2 ht1 ht2 HB1
  go_wp2_with fail
  refine (pieces_any _ _ ex1 _ HT1.out (by decide)).mono ?_
  rintro e w3 ⟨v, rfl, hb3, ho3⟩
  rw [ex_pcs] at ho3
  obtain ⟨A3, c3, rfl⟩ := own_slice ho3
  have hs3 := hb3.size
  have HT1' := Lib.hid (HT1.out.below hb3 (Nat.le_refl _))
  have HT2' := Lib.hid (HT2.out.below hb3 (Nat.le_refl _))
  have HB3 := Lib.hid (below_then HB2.out (by omega) hb3)
  have HO3 := Lib.hid ho3
  clear hb3 ho3 HB2 HT1 HT2
  go_wp2_with fail
  refine (texts_any [[97, 98, 99], [49, 50]] [[97, 98, 99], [49, 50]] A3 (some ⟨w3.heap.size, 0, none⟩) c3 2 _ ((own_sl1 HO3.out).below ((Below.refl _ _).alloc (Nat.le_refl _) _) (Nat.le_refl _)) (sl1_new w3 strV [[97, 98, 99], [49, 50]] 9) (by decide) (by decide)).mono ?_
  rintro e w4 ⟨rfl, m4, hw4⟩
  have hb4 : Below w3.heap.size w3 w4 := by rw [hw4]; exact below_drewN ((Below.refl w3.heap.size w3).alloc (Nat.le_refl _) _) _
  have hs4 := hb4.size
  have HT1 := Lib.hid (HT1'.out.below hb4 (Nat.le_refl _))
  have HT2 := Lib.hid (HT2'.out.below hb4 (Nat.le_refl _))
  have HB4 := Lib.hid (below_then HB3.out (by omega) hb4)
  clear hb4 hw4 HB3 HT1' HT2' HO3
  go_wp2_with fail
  refine (whole_any _ _ ex1 _ HT2.out (by decide)).mono ?_
  rw [ex_whole]
  rintro e w5 ⟨rfl, hb5⟩
  have hs5 := hb5.size
  have HT1' := Lib.hid (HT1.out.below hb5 (Nat.le_refl _))
  have HB5 := Lib.hid (below_then HB4.out (by omega) hb5)
  clear hb5 HB4 HT1 HT2
  go_wp2_with fail
  refine (whole_any _ _ ex2 _ HT1'.out (by decide)).mono ?_
  rw [ex_part]
  rintro e w6 ⟨rfl, hb6⟩
  have HB6 := Lib.hid (below_then HB5.out (by omega) hb6)
  clear hb6 HB5 HT1'
  go_wp2_with fail
  go_ret
  exact ⟨by simp, HB6.out⟩
end Go.Proofs.Ytdppdjiigecjoaa
