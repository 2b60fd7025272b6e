-- Written for this claim by a program of this session (wip/myprint in the proofs' repo)
import Derived.Test.YtebgpbcbbjpbfaaPFnPagesListx0
import Derived.Test.YtebgpbcbbjpbfaaPFnPagesListx1
import Derived.Test.YtebgpbcbbjpbfaaPFnPagesListx2
import Derived.Test.YtebgpbcbbjpbfaaPFnPagesListx3
import Derived.Test.YtebgpbcbbjpbfaaPFnPagesListx4
import Derived.Test.YtebgpbcbbjpbfaaPFnPagesListx5
import Derived.Test.YtebgpbcbbjpbfaaPFnPagesListx6
import Derived.Test.YtebgpbcbbjpbfaaPFnPagesListx7
import Derived.Test.YtebgpbcbbjpbfaaPFnPagesListx8
import Derived.Test.YtebgpbcbbjpbfaaPFnPagesListx9
import Derived.Test.YtebgpbcbbjpbfaaPFnPagesListx10
import Derived.Test.YtebgpbcbbjpbfaaPFnPagesListx11
import Derived.Test.YtebgpbcbbjpbfaaPFnPagesListx12
import Derived.Test.YtebgpbcbbjpbfaaPFnPagesListx13
namespace Go.Proofs.Ytebgpbcbbjpbfaa.PFnPagesList
open Go.RowKit Go.Proofs.YtebgpbcbbjpbfaaW.PrintWords Go.Proofs.YtebgpbcbbjpbfaaW.PrintLast Go.Proofs.YtebgpbcbbjpbfaaW.PrintMore
attribute [local go_sem] max2_int min2_int max_two min_two max_three min_three max_four min_four max2_strs min2_strs   -- for this text's walks alone
set_option linter.unusedVariables false
set_option linter.unusedSimpArgs false

end Go.Proofs.Ytebgpbcbbjpbfaa.PFnPagesList
