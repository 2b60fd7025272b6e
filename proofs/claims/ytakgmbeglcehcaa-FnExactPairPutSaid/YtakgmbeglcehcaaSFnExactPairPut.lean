-- Written for this claim by a program of this session (wip/myprint in the proofs' repo)
import Derived.Test.YtakgmbeglcehcaaPFnExactPairPutx6
namespace Go.Proofs.Ytakgmbeglcehcaa.PFnExactPairPut
open Go.RowKit Go.Proofs.YtakgmbeglcehcaaW.PrintWords Go.Proofs.YtakgmbeglcehcaaW.PrintLast Go.Proofs.YtakgmbeglcehcaaW.PrintMore
attribute [local go_sem] max2_int min2_int max_two min_two max_three min_three max_four min_four   -- for this text's walks alone
set_option linter.unusedVariables false
set_option linter.unusedSimpArgs false

/-- THE ONE PURE STATEMENT of laws_FnExactPairPut. -/
def laws_FnExactPairPut.Pure : Prop := ∀ (l0 : List (S66)) (a1 : ByteArray) (a2 : Int), (l0.length ≤ maxLen ∧ ∀ a ∈ l0, a.f0.size ≤ maxLen ∧ (Lit.int .i64 a.f1).wf = true) → a1.size ≤ 140737488351232 → (Lit.int .i64 a2).wf = true → ∃ k, laws_FnExactPairPut.f k l0 a1 a2 = some true
end Go.Proofs.Ytakgmbeglcehcaa.PFnExactPairPut
