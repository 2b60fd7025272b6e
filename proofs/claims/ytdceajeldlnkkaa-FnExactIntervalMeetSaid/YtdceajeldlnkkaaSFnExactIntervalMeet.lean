-- Written for this claim by a program of this session (wip/myprint in the proofs' repo)
import Derived.Test.YtdceajeldlnkkaaPFnExactIntervalMeetx5
namespace Go.Proofs.Ytdceajeldlnkkaa.PFnExactIntervalMeet
open Go.RowKit Go.Proofs.YtdceajeldlnkkaaW.PrintWords Go.Proofs.YtdceajeldlnkkaaW.PrintLast Go.Proofs.YtdceajeldlnkkaaW.PrintMore
attribute [local go_sem] max2_int min2_int max_two min_two max_three min_three max_four min_four   -- for this text's walks alone
set_option linter.unusedVariables false
set_option linter.unusedSimpArgs false

/-- THE ONE PURE STATEMENT of laws_FnExactIntervalMeet. -/
def laws_FnExactIntervalMeet.Pure : Prop := ∀ (a0_0 : ByteArray) (a0_1 : ByteArray) (a1_0 : ByteArray) (a1_1 : ByteArray), (a0_0.size ≤ maxLen ∧ a0_1.size ≤ maxLen) → (a1_0.size ≤ maxLen ∧ a1_1.size ≤ maxLen) → ∃ k, laws_FnExactIntervalMeet.f k a0_0 a0_1 a1_0 a1_1 = some true
end Go.Proofs.Ytdceajeldlnkkaa.PFnExactIntervalMeet
