/- BoundNone: of no table nothing is cut: the walk. -/
import Derived.Test.YtdppdjiigecjoaaBoundAwake
import Derived.Test.YtdppdjiigecjoaaOpen
namespace Go.Proofs.Ytdppdjiigecjoaa
open Go.RowKit
set_option maxRecDepth 100000
set_option linter.unusedVariables false
set_option linter.unusedSimpArgs false

def noCut : Nat → Nat → Bool := fun _ _ => false
theorem addByte_no (p : List UInt8) (c : UInt8) : addByte noCut [p] c = [p ++ [c]] := by
  have : cutLast noCut p c = false := by unfold cutLast noCut; split <;> rfl
  simp [addByte, this]
theorem pcs_no_fold (l : List UInt8) : ∀ p, l.foldl (addByte noCut) [p] = [p ++ l] := by
  induction l with
  | nil => intro p; simp
  | cons c l ih => intro p; rw [List.foldl_cons, addByte_no, ih]; simp
theorem pcs_no (c : UInt8) (l : List UInt8) : pcs noCut (c :: l) = [c :: l] := by
  unfold pcs
  rw [List.foldl_cons]
  exact pcs_no_fold l [c]
theorem betB_no (a b : List UInt8) : betB noCut a b = false := by
  unfold betB noCut; split <;> rfl


set_option maxHeartbeats 2000000 in
theorem bnone_small (s : ByteArray) (a b : Int) (w : World) (hs : s.size ≤ 100) : Calls Try.prog 6 #[.string s, .int .u8 a, .int .u8 b] w (RetTrue w) := by
  have HW : ∀ W : World, Calls Try.prog 21 #[.pointer none, .string s] W fun e w' => e = .returned (.bool true) ∧ Below W.heap.size W w' := by
    intro W
    refine (whole_any none noCut s W (.inl ⟨rfl, rfl⟩) (by omega)).mono ?_
    rintro e w' ⟨rfl, hb⟩
    refine ⟨ret_bool ?_, hb⟩
    cases h : s.data.toList with
    | nil => rfl
    | cons c l => rw [pcs_no]; rfl
  have HB : ∀ W : World, Calls Try.prog 22 #[.pointer none, .string s, .string ⟨#[120]⟩] W fun e w' => e = .returned (.bool false) ∧ ∃ m, w' = W.drewN m := by
    intro W
    refine (between_any none noCut s ⟨#[120]⟩ W (.inl ⟨rfl, rfl⟩) (by omega)).mono ?_
    rintro e w' ⟨rfl, hb⟩
    exact ⟨ret_bool (betB_no _ _), hb⟩
  have HHW := Lib.hid HW
  have HHB := Lib.hid HB
  clear HW HB
  cases h : s.data.toList with
  | nil =>
    have h1 : s.toList = [] := by rw [toList_data]; exact h
    have HP : ∀ W : World, Calls Try.prog 20 #[.pointer none, .string s] W fun e w' => (∃ A c, e = .returned (.slice A 0 c)) ∧ Below W.heap.size W w' := by
      intro W
      refine (pieces_any none noCut s W (.inl ⟨rfl, rfl⟩) (by omega)).mono ?_
      rintro e w' ⟨v, rfl, hb, ho⟩
      rw [h] at ho
      obtain ⟨A, c, rfl⟩ := own_slice ho
      exact ⟨⟨A, c, rfl⟩, hb⟩
    have HHP := Lib.hid HP
    clear HP h
    go_enter Try.func6, Try.ntmps6
    go_wp2_with fail
    refine (cls_nil _ _).mono ?_
    rintro e w1 ⟨rfl, m1, rfl⟩
    go_wp2_with fail
    refine (cuts_nil _ _ _).mono ?_
    rintro e w1 ⟨rfl, m2, rfl⟩
    go_wp2_with fail
    refine (HHW.out _).mono ?_
    rintro e w1 ⟨rfl, hb1⟩
    have HB1 := Lib.hid (below_then (below_drewN (Below.refl w.heap.size w) (m1 + m2)) (Nat.le_refl _) hb1)
    clear hb1
    go_wp2_with fail
    refine (HHP.out _).mono ?_
    rintro e w2 ⟨⟨A2, c2, rfl⟩, hb2⟩
    have HB2 := Lib.hid (below_then HB1.out HB1.out.size hb2)
    clear hb2 HB1
    go_wp2_with fail
    refine (HHP.out _).mono ?_
    rintro e w3 ⟨⟨A3, c3, rfl⟩, hb3⟩
    have HB3 := Lib.hid (below_then HB2.out HB2.out.size hb3)
    clear hb3 HB2
    go_wp2_with fail
    refine (HHB.out _).mono ?_
    rintro e w4 ⟨rfl, m4, rfl⟩
    have HB4 := Lib.hid (below_drewN HB3.out m4)
    clear HB3
    go_wp2_with fail
    refine (bawake _).mono ?_
    rintro e w5 ⟨rfl, hb5⟩
    have HB5 := Lib.hid (below_then HB4.out HB4.out.size hb5)
    clear hb5 HB4
    go_wp2_with fail
    go_ret
    exact ⟨by simp, HB5.out⟩
  | cons c l =>
    have HP : ∀ W : World, Calls Try.prog 20 #[.pointer none, .string s] W fun e w' => (∃ A c, e = .returned (.slice A 1 c)) ∧ Below W.heap.size W w' := by
      intro W
      refine (pieces_any none noCut s W (.inl ⟨rfl, rfl⟩) (by omega)).mono ?_
      rintro e w' ⟨v, rfl, hb, ho⟩
      rw [h, pcs_no] at ho
      obtain ⟨A, c, rfl⟩ := own_slice ho
      exact ⟨⟨A, c, rfl⟩, hb⟩
    have HHP := Lib.hid HP
    clear HP h
    go_enter Try.func6, Try.ntmps6
    go_wp2_with fail
    refine (cls_nil _ _).mono ?_
    rintro e w1 ⟨rfl, m1, rfl⟩
    go_wp2_with fail
    refine (cuts_nil _ _ _).mono ?_
    rintro e w1 ⟨rfl, m2, rfl⟩
    go_wp2_with fail
    refine (HHW.out _).mono ?_
    rintro e w1 ⟨rfl, hb1⟩
    have HB1 := Lib.hid (below_then (below_drewN (Below.refl w.heap.size w) (m1 + m2)) (Nat.le_refl _) hb1)
    clear hb1
    go_wp2_with fail
    refine (HHP.out _).mono ?_
    rintro e w2 ⟨⟨A2, c2, rfl⟩, hb2⟩
    have HB2 := Lib.hid (below_then HB1.out HB1.out.size hb2)
    clear hb2 HB1
    go_wp2_with fail
    refine (HHB.out _).mono ?_
    rintro e w4 ⟨rfl, m4, rfl⟩
    have HB4 := Lib.hid (below_drewN HB2.out m4)
    clear HB2
    go_wp2_with fail
    refine (bawake _).mono ?_
    rintro e w5 ⟨rfl, hb5⟩
    have HB5 := Lib.hid (below_then HB4.out HB4.out.size hb5)
    clear hb5 HB4
    go_wp2_with fail
    go_ret
    exact ⟨by simp, HB5.out⟩

theorem bnone_any (s : ByteArray) (a b : Int) (w : World) : Calls Try.prog 6 #[.string s, .int .u8 a, .int .u8 b] w (RetTrue w) := by
  by_cases hs : s.size ≤ 100
  · exact bnone_small s a b w hs
  · have h1 : (100 : Int) < (s.size : Int) := by omega
    go_enter Try.func6, Try.ntmps6
    go_wp2_with fail
    refine (bawake _).mono ?_
    rintro e w1 ⟨rfl, hb1⟩
    go_wp2_with fail
    go_ret
    exact ⟨by simp, hb1⟩
end Go.Proofs.Ytdppdjiigecjoaa
namespace Go.Proofs.Ytdppdjiigecjoaa
theorem bnone_law (s : ByteArray) (a b : Int) (w : World) (_ : s.size ≤ maxLen) (_ : (Lit.int .u8 a).wf = true) (_ : (Lit.int .u8 b).wf = true) : Calls Try.prog 6 #[.string s, .int .u8 a, .int .u8 b] w (RetTrue w) := bnone_any s a b w
end Go.Proofs.Ytdppdjiigecjoaa
