-- Written for this claim by a program of this session (wip/myprint in the proofs' repo)
import Derived.Test.YtdceajeldlnkkaaPFnExactIntervalCutx3
namespace Go.Proofs.Ytdceajeldlnkkaa.PFnExactIntervalCut
open Go.RowKit Go.Proofs.YtdceajeldlnkkaaW.PrintWords Go.Proofs.YtdceajeldlnkkaaW.PrintLast Go.Proofs.YtdceajeldlnkkaaW.PrintMore
attribute [local go_sem] max2_int min2_int max_two min_two max_three min_three max_four min_four   -- for this text's walks alone
set_option linter.unusedVariables false
set_option linter.unusedSimpArgs false

/-- THE ONE PURE STATEMENT of laws_FnExactIntervalCut. -/
def laws_FnExactIntervalCut.Pure : Prop := ∀ (a0_0 : ByteArray) (a0_1 : ByteArray) (a1 : ByteArray), (a0_0.size ≤ maxLen ∧ a0_1.size ≤ maxLen) → a1.size ≤ 140737488351232 → ∃ k, laws_FnExactIntervalCut.f k a0_0 a0_1 a1 = some true
end Go.Proofs.Ytdceajeldlnkkaa.PFnExactIntervalCut
