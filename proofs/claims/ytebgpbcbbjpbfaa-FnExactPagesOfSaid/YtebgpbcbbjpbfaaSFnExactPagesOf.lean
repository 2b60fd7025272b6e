-- Written for this claim by a program of this session (wip/myprint in the proofs' repo)
import Derived.Test.YtebgpbcbbjpbfaaPFnExactPagesOfx6
namespace Go.Proofs.Ytebgpbcbbjpbfaa.PFnExactPagesOf
open Go.RowKit Go.Proofs.YtebgpbcbbjpbfaaW.PrintWords Go.Proofs.YtebgpbcbbjpbfaaW.PrintLast Go.Proofs.YtebgpbcbbjpbfaaW.PrintMore
attribute [local go_sem] max2_int min2_int max_two min_two max_three min_three max_four min_four   -- for this text's walks alone
set_option linter.unusedVariables false
set_option linter.unusedSimpArgs false

/-- THE ONE PURE STATEMENT of laws_FnExactPagesOf. -/
def laws_FnExactPagesOf.Pure : Prop := ∀ (l0 : List (S96)), (l0.length ≤ maxLen ∧ ∀ a ∈ l0, a.f0.size ≤ maxLen ∧ (Lit.int .i64 a.f1).wf = true) → ∃ k, laws_FnExactPagesOf.f k l0 = some true
end Go.Proofs.Ytebgpbcbbjpbfaa.PFnExactPagesOf
