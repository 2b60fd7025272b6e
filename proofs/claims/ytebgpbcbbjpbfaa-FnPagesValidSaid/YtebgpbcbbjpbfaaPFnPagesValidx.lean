-- Written for this claim by a program of this session (wip/myprint in the proofs' repo)
import Derived.Test.YtebgpbcbbjpbfaaPFnPagesValidx0
import Derived.Test.YtebgpbcbbjpbfaaPFnPagesValidx1
import Derived.Test.YtebgpbcbbjpbfaaPFnPagesValidx2
import Derived.Test.YtebgpbcbbjpbfaaPFnPagesValidx3
import Derived.Test.YtebgpbcbbjpbfaaPFnPagesValidx4
import Derived.Test.YtebgpbcbbjpbfaaPFnPagesValidx5
import Derived.Test.YtebgpbcbbjpbfaaPFnPagesValidx6
import Derived.Test.YtebgpbcbbjpbfaaPFnPagesValidx7
import Derived.Test.YtebgpbcbbjpbfaaPFnPagesValidx8
import Derived.Test.YtebgpbcbbjpbfaaPFnPagesValidx9
import Derived.Test.YtebgpbcbbjpbfaaPFnPagesValidx10
import Derived.Test.YtebgpbcbbjpbfaaPFnPagesValidx11
import Derived.Test.YtebgpbcbbjpbfaaPFnPagesValidx12
namespace Go.Proofs.Ytebgpbcbbjpbfaa.PFnPagesValid
open Go.RowKit Go.Proofs.YtebgpbcbbjpbfaaW.PrintWords Go.Proofs.YtebgpbcbbjpbfaaW.PrintLast Go.Proofs.YtebgpbcbbjpbfaaW.PrintMore
attribute [local go_sem] max2_int min2_int max_two min_two max_three min_three max_four min_four max2_strs min2_strs   -- for this text's walks alone
set_option linter.unusedVariables false
set_option linter.unusedSimpArgs false

end Go.Proofs.Ytebgpbcbbjpbfaa.PFnPagesValid
