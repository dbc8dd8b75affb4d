/- Two lists of texts are the same: the contract of Texts. -/
import Derived.Test.YtdppdjiigecjoaaProg
import Derived.Test.YtdppdjiigecjoaaMem
namespace Go.Proofs.Ytdppdjiigecjoaa
open Go.RowKit
set_option maxRecDepth 100000
set_option linter.unusedVariables false
set_option linter.unusedSimpArgs false

theorem bs_toList (l : List UInt8) : (bs l).toList = l := by rw [ByteArray.toList_eq]; rfl
set_option maxHeartbeats 1000000 in
theorem texts_any (xs ys : List (List UInt8)) (A B : Option Addr) (cA cB : Nat) (w : World) (hA : Sl1 w A strV xs) (hB : Sl1 w B strV ys) (hx : xs.length < 9000000000000000000) (hy : ys.length < 9000000000000000000) :
    Calls Try.prog 19 #[.slice A xs.length cA, .slice B ys.length cB] w fun e w' => e = .returned (.bool (decide (xs = ys))) ∧ ∃ m, w' = w.drewN m := by
  by_cases hl : xs.length = ys.length
  · have HA := Lib.hid hA
    have HB := Lib.hid hB
    have HL := Lib.hid hl
    have t1 : ((xs.length : Int) != (ys.length : Int)) = false := by rw [bne_eq_false_iff_eq]; omega
    have t2 : (xs.length != ys.length) = false := by rw [bne_eq_false_iff_eq]; omega
    clear hA hB hl
    go_enter Try.func19, Try.ntmps19
    go_wp2_with fail
    go_loopg [5] xs.length (fun n i W => ∃ k : Nat, k + n = xs.length ∧ i = .int .i64 (k : Int) ∧ xs.take k = ys.take k ∧ ∃ m, W = w.drewN m)
    case atStart => exact ⟨0, by omega, rfl, rfl, 0, rfl⟩
    case round =>
      obtain ⟨k, hk, rfl, heq, m, rfl⟩ := hrel
      have HEQ := Lib.hid heq
      clear heq t1 t2
      by_cases hlt : k < xs.length
      · have hlt2 : k < ys.length := by have := HL.out; omega
        obtain ⟨ba, o, rfl, g0⟩ := HA.out.at k hlt
        obtain ⟨ba2, o2, rfl, g1⟩ := HB.out.at k hlt2
        have HT := Lib.hid (take_snoc hlt)
        have HT2 := Lib.hid (take_snoc hlt2)
        have HGX := Lib.hid (List.getElem?_eq_getElem hlt)
        have HGY := Lib.hid (List.getElem?_eq_getElem hlt2)
        have i1 : (k : Int) < (xs.length : Int) := by omega
        have i2 : (k : Int) < (ys.length : Int) := by omega
        have i0 : 0 ≤ (k : Int) := by omega
        generalize xs[k] = x at *
        generalize ys[k] = y at *
        simp only [strV] at g0 g1
        by_cases e : x = y
        · subst e
          go_wp2_with fail
          go_quiet (fail)
          go_wp2_with fail
          go_roundg (gk - 1)
          case measure => omega
          case rel => exact ⟨k + 1, by omega, by go_num, by rw [HT.out, HT2.out, HEQ.out], _, rfl⟩
        · have hne : ((bs x).toList != (bs y).toList) = true := by rw [bs_toList, bs_toList, bne_iff_ne]; exact e
          have hne2 : ((bs x).toList == (bs y).toList) = false := by rw [bs_toList, bs_toList, beq_eq_false_iff_ne]; exact e
          have HE := Lib.hid e
          clear e
          go_wp2_with fail
          go_quiet (fail)
          go_wp2_with fail
          go_ret
          refine ⟨ret_bool ?_, m + nq, World.drewN_drewN _ _ _⟩
          have : ¬ xs = ys := by
            intro h
            have h1 := HGX.out
            rw [h, HGY.out] at h1
            exact HE.out (Option.some.inj h1).symm
          simp [this]
      · go_wp2_with fail
        go_ret
        refine ⟨ret_bool ?_, _, rfl⟩
        have h1 : k = xs.length := by omega
        have h2 := HEQ.out
        rw [h1, List.take_length, HL.out, List.take_length] at h2
        simp [h2]
  · have hne : ¬ xs = ys := fun h => hl (by rw [h])
    have HN := Lib.hid hne
    have t1 : ((xs.length : Int) != (ys.length : Int)) = true := by rw [bne_iff_ne]; omega
    have t2 : (xs.length != ys.length) = true := by rw [bne_iff_ne]; omega
    clear hne hA hB hl
    go_enter Try.func19, Try.ntmps19
    go_wp2_with fail
    go_ret
    exact ⟨ret_bool (by simp [HN.out]), 0, rfl⟩
end Go.Proofs.Ytdppdjiigecjoaa
