/- Layer 8 (bound): the contracts of the document's answer: Right, Pieces; two lists of texts are the same. -/
import Derived.Test.YtdppdjiigecjoaaBound3
namespace Go.Proofs.Ytdppdjiigecjoaa
open Go.RowKit
set_option maxRecDepth 100000
set_option linter.unusedVariables false
set_option linter.unusedSimpArgs false

set_option maxHeartbeats 2000000 in
theorem right_any (cs : List Cls) (js : List Jn) (A B : Option Addr) (cA cB : Nat) (w : World) (hA : Sl w A encCls 3 cs) (hB : Sl w B encJn 2 js) (hcs : cs.length < 9000000000000000000) (hjs : js.length < 9000000000000000000) :
    Calls Try.prog 16 #[.agg #[.slice A cs.length cA, .slice B js.length cB]] w fun e w' => e = .returned (.bool (cs.all spanB && js.all jnB)) ∧ Below w.heap.size w w' := by
  have H0 : RTab w cs js A B (w.alloc (.cells #[.slice A cs.length cA, .slice B js.length cB] 30)) := RTab.step ⟨Below.refl _ _, hA, hB⟩ ((Below.refl w.heap.size w).alloc (Nat.le_refl _) _)
  have HBK := Lib.hid (blk_new w (.cells #[.slice A cs.length cA, .slice B js.length cB] 30))
  have HH := Lib.hid H0
  clear H0 hA hB
  go_enter Try.func16, Try.ntmps16
  go_wp2_with fail
  go_loopw [3] (fun i W => ∃ k : Nat, k ≤ cs.length ∧ i = .int .i64 (k : Int) ∧ (cs.take k).all spanB = true ∧ RTab w cs js A B W ∧ W.heap[w.heap.size]? = some (.cells #[.slice A cs.length cA, .slice B js.length cB] 30 (0, 0))) (fun i _ => cs.length - (intOf i).toNat)
  case atStart => exact ⟨0, Nat.zero_le _, rfl, rfl, HH.out, HBK.out⟩
  case round =>
    obtain ⟨k, hk, rfl, hall, hT, hbk⟩ := hrel
    rename World => W
    have d0 := blk_cell hbk 0
    have d1 := blk_cell hbk 1
    simp only [List.getElem?_toArray, List.getElem?_cons_zero, List.getElem?_cons_succ] at d0 d1
    have HAL := Lib.hid hall
    have HT := Lib.hid hT
    have HB := Lib.hid hbk
    have hsz := hT.below.size
    have hsz2 := blk_lt hbk
    clear hall hT hbk HH HBK
    by_cases hlt : k < cs.length
    · have hck : cs[k]? = some cs[k] := by simp
      obtain ⟨ba, o, rfl, hc0⟩ := HT.out.cl.at k hlt
      have g0 : W.cell? ⟨ba, o + k * 3, none⟩ = some (.int .i64 cs[k].lo) := hc0 0 _ rfl
      have g1 : W.cell? ⟨ba, o + k * 3 + 1, none⟩ = some (.int .i64 cs[k].hi) := hc0 1 _ rfl
      have g2 : W.cell? ⟨ba, o + k * 3 + 2, none⟩ = some (.int .i64 cs[k].n) := hc0 2 _ rfl
      have HTK := Lib.hid (take_snoc hlt)
      have HCK := Lib.hid hck
      generalize cs[k] = c at *
      clear hc0 hck
      obtain ⟨lo, hi, n⟩ := c
      simp only at *
      go_wp2_with fail
      all_goals first
        | (go_ret
           have hsp : spanB ⟨lo, hi, n⟩ = false := by simp only [spanB, decide_eq_false_iff_not]; omega
           refine ⟨ret_bool ?_, (HT.out.below.alloc hsz _)⟩
           rw [all_false HCK.out hsp]; rfl)
        | (go_roundw
           case rel =>
             have hsp : spanB ⟨lo, hi, n⟩ = true := by simp only [spanB, decide_eq_true_eq]; omega
             refine ⟨k + 1, by omega, by go_num, ?_, HT.out.step ((Below.refl _ _).alloc (Nat.le_refl _) _), blk_alloc HB.out _⟩
             rw [HTK.out, all_snoc, HAL.out, hsp]; rfl
           case measure => (simp [intOf]; try omega))
    · obtain rfl : k = cs.length := by omega
      have HAC := Lib.hid (show cs.all spanB = true by have := HAL.out; rwa [List.take_length] at this)
      clear HAL
      go_wp2_with fail
      go_loopw [5] (fun i W => ∃ k : Nat, k ≤ js.length ∧ i = .int .i64 (k : Int) ∧ (js.take k).all jnB = true ∧ RTab w cs js A B W ∧ W.heap[w.heap.size]? = some (.cells #[.slice A cs.length cA, .slice B js.length cB] 30 (0, 0))) (fun i _ => js.length - (intOf i).toNat)
      case atStart => exact ⟨0, Nat.zero_le _, rfl, rfl, HT.out, HB.out⟩
      case round =>
        obtain ⟨k, hk, rfl, hall, hT, hbk⟩ := hrel
        rename World => U
        have e0 := blk_cell hbk 0
        have e1 := blk_cell hbk 1
        simp only [List.getElem?_toArray, List.getElem?_cons_zero, List.getElem?_cons_succ] at e0 e1
        have HAL := Lib.hid hall
        have HTU := Lib.hid hT
        have HBU := Lib.hid hbk
        have hsz3 := hT.below.size
        have hsz4 := blk_lt hbk
        clear hall hT hbk HT HB d0 d1
        by_cases hlt : k < js.length
        · have hck : js[k]? = some js[k] := by simp
          obtain ⟨ba, o, rfl, hc0⟩ := HTU.out.jn.at k hlt
          have g0 : U.cell? ⟨ba, o + k * 2, none⟩ = some (.int .i64 js[k].a) := hc0 0 _ rfl
          have g1 : U.cell? ⟨ba, o + k * 2 + 1, none⟩ = some (.int .i64 js[k].b) := hc0 1 _ rfl
          have HTK := Lib.hid (take_snoc hlt)
          have HCK := Lib.hid hck
          generalize js[k] = c at *
          clear hc0 hck
          obtain ⟨ja, jb⟩ := c
          simp only at *
          go_wp2_with fail
          all_goals first
            | (go_ret
               have hsp : jnB ⟨ja, jb⟩ = false := by simp only [jnB, clsB, Bool.and_eq_false_iff, decide_eq_false_iff_not]; omega
               refine ⟨ret_bool ?_, (HTU.out.below.alloc hsz3 _)⟩
               rw [all_false HCK.out hsp, HAC.out]; rfl)
            | (go_roundw
               case rel =>
                 have hsp : jnB ⟨ja, jb⟩ = true := by simp only [jnB, clsB, Bool.and_eq_true, decide_eq_true_eq]; omega
                 refine ⟨k + 1, by omega, by go_num, ?_, HTU.out.step ((Below.refl _ _).alloc (Nat.le_refl _) _), blk_alloc HBU.out _⟩
                 rw [HTK.out, all_snoc, HAL.out, hsp]; rfl
               case measure => (simp [intOf]; try omega))
        · obtain rfl : k = js.length := by omega
          have HAJ := Lib.hid (show js.all jnB = true by have := HAL.out; rwa [List.take_length] at this)
          clear HAL
          go_wp2_with fail
          go_ret
          refine ⟨ret_bool ?_, HTU.out.below⟩
          rw [HAC.out, HAJ.out]; rfl
end Go.Proofs.Ytdppdjiigecjoaa
