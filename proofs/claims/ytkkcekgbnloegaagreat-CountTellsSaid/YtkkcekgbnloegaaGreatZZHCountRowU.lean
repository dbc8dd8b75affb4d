/- CountTells returns true for any case, text, place and token. -/
import Derived.Test.YtkkcekgbnloegaaGreatZZH5
import Derived.Test.YtkkcekgbnloegaaGreatRows
import Derived.Test.YtkkcekgbnloegaaGreatRows
import Derived.WalkKit
import Derived.ProofKit
import Derived.OpenShut
import Derived.ShutString
import Derived.ChangeOld
import Derived.Below
import Derived.Lib.SmallJoins
namespace Go.Proofs.YtkkcekgbnloegaaGreat.countTells
open Go.ChangeShapes Go.WideShapes Go.ChangeAt Go.RowKit Go.Joins
open Go.ChangeMaps (open_string shut_string)
set_option linter.unusedVariables false
set_option linter.unusedSimpArgs false

theorem own : ownKnob Tryz.prog.godebug = none := by kernel_rfl
theorem laidOut : laidOutB Tryz.prog = true := by kernel_rfl

set_option maxRecDepth 100000 in
theorem lifted (os : Os) (started : os.Started) (H : Type) (enc : TypeId × Value → H) :
    ReturnsInHanded {} Tryz.checked os 8 .any (Rows.countTellsSpec.pre6 enc Tryz.prog Tryz.f8 Rows.countTellsRow.domain false) (Rows.countTellsSpec.post enc Tryz.prog Tryz.f8 false true false false) := by
  refine returnsInHanded_of_change (C := Tryz.checked) own started (by kernel_rfl) Tryz.func8
    (ChangeSpec.witness6 (enc := enc) (C := Tryz.checked) false ⟨#[], #[.agg #[.slice none 0 0, .slice none 0 0, .slice none 0 0, .slice none 0 0], .string ByteArray.empty, .int .i64 0, .int .i64 0], []⟩ 8 (by kernel_rfl) (by kernel_rfl) (by kernel_rfl) (by kernel_rfl)) ?_
  intro W base args ds gs before hval0 hW hcnd _
  have hval : ∀ (j : Nat) t v, Tryz.f8.params[j]? = some t → args[j]? = some v → Value.okWide Tryz.prog W .any base t v := hval0
  have hW' := hW
  obtain ⟨p, q, hA0, hV, rfl, hfz, hnd⟩ := hW
  have hA : DataW.TrodAll enc Tryz.prog W 0 (fun _ => true) true Tryz.f8.params.toList args.toList ds p := hA0
  rw [Tryz.params8] at hA hval
  obtain ⟨v0, vs0, d0, ds0, p0, q0, hargs, rfl, rfl, h0, r0⟩ := trodAll_cons hA
  obtain ⟨v1, vs1, d1, ds1, p1, q1, rfl, rfl, rfl, h1, r1⟩ := trodAll_cons r0
  obtain ⟨v2, vs2, d2, ds2, p2, q2, rfl, rfl, rfl, h2, r2⟩ := trodAll_cons r1
  obtain ⟨v3, vs3, d3, ds3, p3, q3, rfl, rfl, rfl, h3, r3⟩ := trodAll_cons r2
  obtain ⟨rfl, rfl, rfl⟩ := trodAll_nil r3
  obtain rfl : args = #[v0, v1, v2, v3] := by cases args; simp_all
  obtain ⟨rfl, rfl⟩ := trodVars_none hV
  have k0 := h0
  have lt0 : ∀ x ∈ p0, x.block < W.heap.size := by obtain ⟨m, hm⟩ := k0; exact DataW.trod_lt m _ _ _ hm
  obtain ⟨vs0, m0, rfl, hl0, hf0⟩ := open_fields Tryz.underlying27 (by kernel_rfl) (by kernel_rfl) (hval 0 27 v0 rfl rfl) h0
  obtain ⟨z0_0, z0_1, z0_2, z0_3, rfl⟩ := list4 hl0
  clear hl0
  obtain ⟨zz0_0, y0_0, ez0_0, t0_0⟩ := hf0 0 _ rfl
  simp only [List.getElem?_cons_zero, List.getElem?_cons_succ, Option.some.injEq] at ez0_0
  subst ez0_0
  obtain ⟨a0_0, n0_0, c0_0, e0_0⟩ := slice_form Tryz.underlying22 t0_0
  simp only [List.cons.injEq, and_true] at e0_0
  subst e0_0
  obtain ⟨x0_0, rfl, l0_0, m0_0, w0_0, s0_0⟩ := arg_ints Tryz.underlying22 Tryz.underlying99 (by kernel_rfl) t0_0
  obtain ⟨zz0_1, y0_1, ez0_1, t0_1⟩ := hf0 1 _ rfl
  simp only [List.getElem?_cons_zero, List.getElem?_cons_succ, Option.some.injEq] at ez0_1
  subst ez0_1
  obtain ⟨a0_1, n0_1, c0_1, e0_1⟩ := slice_form Tryz.underlying23 t0_1
  simp only [List.cons.injEq, and_true] at e0_1
  subst e0_1
  obtain ⟨x0_1, rfl, l0_1, m0_1, w0_1, s0_1⟩ := arg_structs Tryz.underlying23 Tryz.underlying181 (by kernel_rfl) (by kernel_rfl) (by intro j f h; rcases j with _ | _ | _ | j <;> simp at h <;> subst h <;> exact Tryz.underlying3) (by decide) t0_1
  obtain ⟨zz0_2, y0_2, ez0_2, t0_2⟩ := hf0 2 _ rfl
  simp only [List.getElem?_cons_zero, List.getElem?_cons_succ, Option.some.injEq] at ez0_2
  subst ez0_2
  obtain ⟨a0_2, n0_2, c0_2, e0_2⟩ := slice_form Tryz.underlying24 t0_2
  simp only [List.cons.injEq, and_true] at e0_2
  subst e0_2
  obtain ⟨x0_2, rfl, l0_2, m0_2, w0_2, s0_2⟩ := arg_structs Tryz.underlying24 Tryz.underlying182 (by kernel_rfl) (by kernel_rfl) (by intro j f h; rcases j with _ | _ | j <;> simp at h <;> subst h <;> exact Tryz.underlying3) (by decide) t0_2
  obtain ⟨zz0_3, y0_3, ez0_3, t0_3⟩ := hf0 3 _ rfl
  simp only [List.getElem?_cons_zero, List.getElem?_cons_succ, Option.some.injEq] at ez0_3
  subst ez0_3
  obtain ⟨a0_3, n0_3, c0_3, e0_3⟩ := slice_form Tryz.underlying25 t0_3
  simp only [List.cons.injEq, and_true] at e0_3
  subst e0_3
  obtain ⟨x0_3, rfl, l0_3, m0_3, w0_3, s0_3⟩ := arg_pairs Tryz.underlying25 Tryz.underlying170 (by kernel_rfl) (by kernel_rfl) Tryz.underlying3 Tryz.underlying9 t0_3
  obtain ⟨a1, rfl, rfl, rfl, w1⟩ := open_string Tryz.underlying9 (hval 1 9 v1 rfl rfl) h1
  obtain ⟨a2, rfl, rfl, rfl, w2⟩ := open_int Tryz.underlying3 (hval 2 3 v2 rfl rfl) h2
  obtain ⟨a3, rfl, rfl, rfl, w3⟩ := open_int Tryz.underlying3 (hval 3 3 v3 rfl rfl) h3
  clear hA0 hval0
  refine (ctells_law x0_0 a0_0 c0_0 x0_1 a0_1 c0_1 x0_2 a0_2 c0_2 x0_3 a0_3 c0_3 a1 a2 a3 W l0_0 m0_0 w0_0 s0_0 l0_1 m0_1 w0_1 s0_1 l0_2 m0_2 w0_2 s0_2 l0_3 m0_3 w0_3 s0_3 w1 w2 w3).mono fun e W' ⟨he, bel⟩ => ?_
  subst he
  exact ⟨_, rfl, _, _, _, [], _, [], hW', trodAll_mk1 (shut_bool Tryz.underlying4 _), (trodAll_cons_mk (Below.trod laidOut (by kernel_rfl) (of_decide_eq_true (by kernel_rfl)) k0 bel lt0) (trodAll_cons_mk (shut_string Tryz.underlying9 w1) (trodAll_cons_mk (shut_int Tryz.underlying3 w2) (trodAll_cons_mk (shut_int Tryz.underlying3 w3) trodAll_mk0)))), rfl, bel.frame _, fun h => by cases h⟩

theorem oNamed : Tryz.pinned.checked.prog.funcNamed Rows.countTellsRow.func = some 8 := by kernel_rfl
theorem oClosed : joinedFacts Tryz.pinned.checked.prog 8 Tryz.f8 Rows.countTellsSpec Rows.countTellsRow = true := by kernel_rfl
theorem oInst : Tryz.f8.isInstance Tryz.pinned.checked.prog Rows.countTellsRow.origin Rows.countTellsRow.targs := of_decide_eq_true (by kernel_rfl)
theorem oWrap : Tryz.f8.isWrapper Tryz.pinned.checked.prog Rows.countTellsRow.wrapper Rows.countTellsRow.mainSum := by unfold Func.isWrapper; first | (rw [if_pos (by decide +kernel)]; kernel_rfl) | (rw [if_neg (by decide +kernel)]; exact ⟨rfl, rfl⟩)
theorem over : Rows.countTellsRow.holds Tryz.pinned (OpenSpec.ofChange Rows.countTellsSpec) :=
  OpenClaim.holds_of_wide 8 Tryz.f8 rfl rfl rfl rfl rfl rfl rfl ⟨rfl, rfl, rfl, rfl, rfl⟩ rfl rfl rfl rfl rfl oNamed Tryz.func8 oClosed oInst oWrap
    (fun os started H enc _ => lifted os started H enc)
end Go.Proofs.YtkkcekgbnloegaaGreat.countTells
namespace Go.Proofs.YtkkcekgbnloegaaGreat
theorem countTells_holds : Rows.CountTellsSaid := countTells.over
#print axioms countTells_holds
end Go.Proofs.YtkkcekgbnloegaaGreat
