-- Written for this claim by a program of this session (wip/myprint in the proofs' repo)
import Derived.Test.YtengnnhehjcfhaaPFnExactPagesDropx11
namespace Go.Proofs.Ytengnnhehjcfhaa.PFnExactPagesDrop
open Go.RowKit Go.Proofs.YtengnnhehjcfhaaW.PrintWords Go.Proofs.YtengnnhehjcfhaaW.PrintLast Go.Proofs.YtengnnhehjcfhaaW.PrintMore
attribute [local go_sem] max2_int min2_int max_two min_two max_three min_three max_four min_four   -- for this text's walks alone
set_option linter.unusedVariables false
set_option linter.unusedSimpArgs false

/-- THE ONE PURE STATEMENT of laws_FnExactPagesDrop. -/
def laws_FnExactPagesDrop.Pure : Prop := ∀ (l0 : List (S47)) (a1 : ByteArray), (l0.length ≤ maxLen ∧ ∀ a ∈ l0, (a.f0.length ≤ maxLen ∧ ∀ b ∈ a.f0, b.f0.size ≤ maxLen ∧ (Lit.int .i64 b.f1).wf = true)) → a1.size ≤ 140737488351232 → ∃ k, laws_FnExactPagesDrop.f k l0 a1 = some true
end Go.Proofs.Ytengnnhehjcfhaa.PFnExactPagesDrop
