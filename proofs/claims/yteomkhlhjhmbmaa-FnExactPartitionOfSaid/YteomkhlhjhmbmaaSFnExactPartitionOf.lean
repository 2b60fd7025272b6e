-- Written for this claim by a program of this session (wip/myprint in the proofs' repo)
import Derived.Test.YteomkhlhjhmbmaaPFnExactPartitionOfx9
namespace Go.Proofs.Yteomkhlhjhmbmaa.PFnExactPartitionOf
open Go.RowKit Go.Proofs.YteomkhlhjhmbmaaW.PrintWords Go.Proofs.YteomkhlhjhmbmaaW.PrintLast Go.Proofs.YteomkhlhjhmbmaaW.PrintMore
attribute [local go_sem] max2_int min2_int max_two min_two max_three min_three max_four min_four   -- for this text's walks alone
set_option linter.unusedVariables false
set_option linter.unusedSimpArgs false

/-- THE ONE PURE STATEMENT of laws_FnExactPartitionOf. -/
def laws_FnExactPartitionOf.Pure : Prop := ∀ (l0 : List ByteArray), (l0.length ≤ maxLen ∧ ∀ a ∈ l0, a.size ≤ maxLen) → ∃ k, laws_FnExactPartitionOf.f k l0 = some true
end Go.Proofs.Yteomkhlhjhmbmaa.PFnExactPartitionOf
