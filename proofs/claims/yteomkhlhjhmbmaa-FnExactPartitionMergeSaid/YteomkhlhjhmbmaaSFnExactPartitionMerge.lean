-- Written for this claim by a program of this session (wip/myprint in the proofs' repo)
import Derived.Test.YteomkhlhjhmbmaaPFnExactPartitionMergex9
namespace Go.Proofs.Yteomkhlhjhmbmaa.PFnExactPartitionMerge
open Go.RowKit Go.Proofs.YteomkhlhjhmbmaaW.PrintWords Go.Proofs.YteomkhlhjhmbmaaW.PrintLast Go.Proofs.YteomkhlhjhmbmaaW.PrintMore
attribute [local go_sem] max2_int min2_int max_two min_two max_three min_three max_four min_four   -- for this text's walks alone
set_option linter.unusedVariables false
set_option linter.unusedSimpArgs false

/-- THE ONE PURE STATEMENT of laws_FnExactPartitionMerge. -/
def laws_FnExactPartitionMerge.Pure : Prop := ∀ (l0 : List (S76)) (a1 : Int), (l0.length ≤ maxLen ∧ ∀ a ∈ l0, a.f0.size ≤ maxLen ∧ a.f1.size ≤ maxLen) → (Lit.int .i64 a1).wf = true → ∃ k, laws_FnExactPartitionMerge.f k l0 a1 = some true
end Go.Proofs.Yteomkhlhjhmbmaa.PFnExactPartitionMerge
