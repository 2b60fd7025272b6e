-- Written for this claim by a program of this session (wip/myprint in the proofs' repo)
import Derived.Test.YtebgpbcbbjpbfaaPFnExactPartitionSplitx10
namespace Go.Proofs.Ytebgpbcbbjpbfaa.PFnExactPartitionSplit
open Go.RowKit Go.Proofs.YtebgpbcbbjpbfaaW.PrintWords Go.Proofs.YtebgpbcbbjpbfaaW.PrintLast Go.Proofs.YtebgpbcbbjpbfaaW.PrintMore
attribute [local go_sem] max2_int min2_int max_two min_two max_three min_three max_four min_four   -- for this text's walks alone
set_option linter.unusedVariables false
set_option linter.unusedSimpArgs false

/-- THE ONE PURE STATEMENT of laws_FnExactPartitionSplit. -/
def laws_FnExactPartitionSplit.Pure : Prop := ∀ (l0 : List (S74)) (a1 : ByteArray), (l0.length ≤ maxLen ∧ ∀ a ∈ l0, a.f0.size ≤ maxLen ∧ a.f1.size ≤ maxLen) → a1.size ≤ 140737488351232 → ∃ k, laws_FnExactPartitionSplit.f k l0 a1 = some true
end Go.Proofs.Ytebgpbcbbjpbfaa.PFnExactPartitionSplit
