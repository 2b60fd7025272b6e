-- Written for this claim by a program of this session (wip/myprint in the proofs' repo)
import Derived.Test.YtdceajeldlnkkaaPFnExactPairsValidx4
namespace Go.Proofs.Ytdceajeldlnkkaa.PFnExactPairsValid
open Go.RowKit Go.Proofs.YtdceajeldlnkkaaW.PrintWords Go.Proofs.YtdceajeldlnkkaaW.PrintLast Go.Proofs.YtdceajeldlnkkaaW.PrintMore
attribute [local go_sem] max2_int min2_int max_two min_two max_three min_three max_four min_four   -- for this text's walks alone
set_option linter.unusedVariables false
set_option linter.unusedSimpArgs false

/-- THE ONE PURE STATEMENT of laws_FnExactPairsValid. -/
def laws_FnExactPairsValid.Pure : Prop := ∀ (l0 : List (S61)), (l0.length ≤ maxLen ∧ ∀ a ∈ l0, a.f0.size ≤ maxLen ∧ (Lit.int .i64 a.f1).wf = true) → ∃ k, laws_FnExactPairsValid.f k l0 = some true
end Go.Proofs.Ytdceajeldlnkkaa.PFnExactPairsValid
