-- Written for this claim by a program of this session (wip/myprint in the proofs' repo)
import Derived.Test.YtebgpbcbbjpbfaaPFnExactPagesOfx0
import Derived.Test.YtebgpbcbbjpbfaaPFnExactPagesOfx1
import Derived.Test.YtebgpbcbbjpbfaaPFnExactPagesOfx2
import Derived.Test.YtebgpbcbbjpbfaaPFnExactPagesOfx3
import Derived.Test.YtebgpbcbbjpbfaaPFnExactPagesOfx4
import Derived.Test.YtebgpbcbbjpbfaaPFnExactPagesOfx5
import Derived.Test.YtebgpbcbbjpbfaaPFnExactPagesOfx6
namespace Go.Proofs.Ytebgpbcbbjpbfaa.PFnExactPagesOf
open Go.RowKit Go.Proofs.YtebgpbcbbjpbfaaW.PrintWords Go.Proofs.YtebgpbcbbjpbfaaW.PrintLast Go.Proofs.YtebgpbcbbjpbfaaW.PrintMore
attribute [local go_sem] max2_int min2_int max_two min_two max_three min_three max_four min_four max2_strs min2_strs   -- for this text's walks alone
set_option linter.unusedVariables false
set_option linter.unusedSimpArgs false

end Go.Proofs.Ytebgpbcbbjpbfaa.PFnExactPagesOf
