/- CountSums returns true for any case, text and byte: the row. -/
import Derived.Test.YtkkcekgbnloegaaGreatZZB5
import Derived.Test.YtkkcekgbnloegaaGreatRows
import Derived.WalkKit
import Derived.ProofKit
import Derived.OpenShut
import Derived.ShutString
import Derived.ChangeOld
import Derived.Below
import Derived.Lib.SmallJoins
namespace Go.Proofs.YtkkcekgbnloegaaGreat.countSums
open Go.ChangeShapes Go.WideShapes Go.ChangeAt Go.RowKit Go.Joins
open Go.ChangeMaps (open_string shut_string)
set_option linter.unusedVariables false
set_option linter.unusedSimpArgs false

theorem oNamed : Tryz.pinned.checked.prog.funcNamed Rows.countSumsRow.func = some 7 := by kernel_rfl
theorem oClosed : joinedFacts Tryz.pinned.checked.prog 7 Tryz.f7 Rows.countSumsSpec Rows.countSumsRow = true := by kernel_rfl
theorem oInst : Tryz.f7.isInstance Tryz.pinned.checked.prog Rows.countSumsRow.origin Rows.countSumsRow.targs := of_decide_eq_true (by kernel_rfl)
theorem oWrap : Tryz.f7.isWrapper Tryz.pinned.checked.prog Rows.countSumsRow.wrapper Rows.countSumsRow.mainSum := by unfold Func.isWrapper; first | (rw [if_pos (by decide +kernel)]; kernel_rfl) | (rw [if_neg (by decide +kernel)]; exact ⟨rfl, rfl⟩)
theorem over : Rows.countSumsRow.holds Tryz.pinned (OpenSpec.ofChange Rows.countSumsSpec) :=
  OpenClaim.holds_of_wide 7 Tryz.f7 rfl rfl rfl rfl rfl rfl rfl ⟨rfl, rfl, rfl, rfl, rfl⟩ rfl rfl rfl rfl rfl oNamed Tryz.func7 oClosed oInst oWrap
    (fun os started H enc _ => lifted os started H enc)
end Go.Proofs.YtkkcekgbnloegaaGreat.countSums
namespace Go.Proofs.YtkkcekgbnloegaaGreat
theorem countSums_holds : Rows.CountSumsSaid := countSums.over
#print axioms countSums_holds
end Go.Proofs.YtkkcekgbnloegaaGreat
