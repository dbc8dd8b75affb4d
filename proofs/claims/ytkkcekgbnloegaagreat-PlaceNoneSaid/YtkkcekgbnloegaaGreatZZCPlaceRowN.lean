/- PlaceNone returns true for any number and ids. -/
import Derived.Test.YtkkcekgbnloegaaGreatZZC4
import Derived.Test.YtkkcekgbnloegaaGreatRows
import Derived.WalkKit
import Derived.ProofKit
import Derived.OpenShut
import Derived.ShutString
import Derived.ChangeOld
import Derived.Below
import Derived.Lib.SmallJoins
namespace Go.Proofs.YtkkcekgbnloegaaGreat.placeNone
open Go.ChangeShapes Go.WideShapes Go.ChangeAt Go.RowKit Go.Joins
open Go.ChangeMaps (open_string shut_string)
set_option linter.unusedVariables false

theorem own : ownKnob Tryz.prog.godebug = none := by kernel_rfl
theorem laidOut : laidOutB Tryz.prog = true := by kernel_rfl

set_option maxRecDepth 100000 in
theorem lifted (os : Os) (started : os.Started) (H : Type) (enc : TypeId × Value → H) :
    ReturnsInHanded {} Tryz.checked os 15 .any (Rows.placeNoneSpec.pre6 enc Tryz.prog Tryz.f15 Rows.placeNoneRow.domain false) (Rows.placeNoneSpec.post enc Tryz.prog Tryz.f15 false true false false) := by
  refine returnsInHanded_of_change (C := Tryz.checked) own started (by kernel_rfl) Tryz.func15
    (ChangeSpec.witness6 (enc := enc) (C := Tryz.checked) false ⟨#[], #[.int .u64 0, .slice none 0 0], []⟩ 8 (by kernel_rfl) (by kernel_rfl) (by kernel_rfl) (by kernel_rfl)) ?_
  intro W base args ds gs before hval0 hW hcnd _
  have hval : ∀ (j : Nat) t v, Tryz.f15.params[j]? = some t → args[j]? = some v → Value.okWide Tryz.prog W .any base t v := hval0
  have hW' := hW
  obtain ⟨p, q, hA0, hV, rfl, hfz, hnd⟩ := hW
  have hA : DataW.TrodAll enc Tryz.prog W 0 (fun _ => true) true Tryz.f15.params.toList args.toList ds p := hA0
  rw [Tryz.params15] at hA hval
  obtain ⟨v0, vs0, d0, ds0, p0, q0, hargs, rfl, rfl, h0, r0⟩ := trodAll_cons hA
  obtain ⟨v1, vs1, d1, ds1, p1, q1, rfl, rfl, rfl, h1, r1⟩ := trodAll_cons r0
  obtain ⟨rfl, rfl, rfl⟩ := trodAll_nil r1
  obtain rfl : args = #[v0, v1] := by cases args; simp_all
  obtain ⟨rfl, rfl⟩ := trodVars_none hV
  obtain ⟨a0, rfl, rfl, rfl, w0⟩ := open_int Tryz.underlying55 (hval 0 55 v0 rfl rfl) h0
  obtain ⟨a1, n1, c1, rfl⟩ := okWide_slice Tryz.underlying48 (hval 1 48 v1 rfl rfl)
  have k1 := h1
  have lt1 : ∀ x ∈ p1, x.block < W.heap.size := by obtain ⟨m, hm⟩ := k1; exact DataW.trod_lt m _ _ _ hm
  obtain ⟨fuel1, hf1⟩ := h1
  obtain ⟨x1, rfl, l1, m1, w1, s1⟩ := arg_ints Tryz.underlying48 Tryz.underlying3 (by kernel_rfl) hf1
  clear hA0 hval0
  refine (pnone_law a0 x1 a1 c1 W w0 l1 m1 w1 s1).mono fun e W' ⟨he, bel⟩ => ?_
  subst he
  exact ⟨_, rfl, _, _, _, [], _, [], hW', trodAll_mk1 (shut_bool Tryz.underlying4 _), (trodAll_cons_mk (shut_int Tryz.underlying55 w0) (trodAll_cons_mk (Below.trod laidOut (by kernel_rfl) (of_decide_eq_true (by kernel_rfl)) k1 bel lt1) trodAll_mk0)), rfl, bel.frame _, fun h => by cases h⟩

theorem oNamed : Tryz.pinned.checked.prog.funcNamed Rows.placeNoneRow.func = some 15 := by kernel_rfl
theorem oClosed : joinedFacts Tryz.pinned.checked.prog 15 Tryz.f15 Rows.placeNoneSpec Rows.placeNoneRow = true := by kernel_rfl
theorem oInst : Tryz.f15.isInstance Tryz.pinned.checked.prog Rows.placeNoneRow.origin Rows.placeNoneRow.targs := of_decide_eq_true (by kernel_rfl)
theorem oWrap : Tryz.f15.isWrapper Tryz.pinned.checked.prog Rows.placeNoneRow.wrapper Rows.placeNoneRow.mainSum := by unfold Func.isWrapper; first | (rw [if_pos (by decide +kernel)]; kernel_rfl) | (rw [if_neg (by decide +kernel)]; exact ⟨rfl, rfl⟩)
theorem over : Rows.placeNoneRow.holds Tryz.pinned (OpenSpec.ofChange Rows.placeNoneSpec) :=
  OpenClaim.holds_of_wide 15 Tryz.f15 rfl rfl rfl rfl rfl rfl rfl ⟨rfl, rfl, rfl, rfl, rfl⟩ rfl rfl rfl rfl rfl oNamed Tryz.func15 oClosed oInst oWrap
    (fun os started H enc _ => lifted os started H enc)
end Go.Proofs.YtkkcekgbnloegaaGreat.placeNone
namespace Go.Proofs.YtkkcekgbnloegaaGreat
theorem placeNone_holds : Rows.PlaceNoneSaid := placeNone.over
#print axioms placeNone_holds
end Go.Proofs.YtkkcekgbnloegaaGreat
