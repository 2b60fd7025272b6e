-- Written for this claim by a program of this session (wip/myprint in the proofs' repo)
import Derived.Test.YteomkhlhjhmbmaaPFnExactPairChangesx6
namespace Go.Proofs.Yteomkhlhjhmbmaa.PFnExactPairChanges
open Go.RowKit Go.Proofs.YteomkhlhjhmbmaaW.PrintWords Go.Proofs.YteomkhlhjhmbmaaW.PrintLast Go.Proofs.YteomkhlhjhmbmaaW.PrintMore
attribute [local go_sem] max2_int min2_int max_two min_two max_three min_three max_four min_four   -- for this text's walks alone
set_option linter.unusedVariables false
set_option linter.unusedSimpArgs false

/-- THE ONE PURE STATEMENT of laws_FnExactPairChanges. -/
def laws_FnExactPairChanges.Pure : Prop := ∀ (l0 : List (S69)) (l1 : List (S69)), (l0.length ≤ maxLen ∧ ∀ a ∈ l0, a.f0.size ≤ maxLen ∧ (Lit.int .i64 a.f1).wf = true) → (l1.length ≤ maxLen ∧ ∀ a ∈ l1, a.f0.size ≤ maxLen ∧ (Lit.int .i64 a.f1).wf = true) → ∃ k, laws_FnExactPairChanges.f k l0 l1 = some true
end Go.Proofs.Yteomkhlhjhmbmaa.PFnExactPairChanges
