-- Written for this claim by a program of this session (wip/myprint in the proofs' repo)
import Derived.Test.YtebgpbcbbjpbfaaPFnPageFindx0
import Derived.Test.YtebgpbcbbjpbfaaPFnPageFindx1
import Derived.Test.YtebgpbcbbjpbfaaPFnPageFindx2
import Derived.Test.YtebgpbcbbjpbfaaPFnPageFindx3
import Derived.Test.YtebgpbcbbjpbfaaPFnPageFindx4
import Derived.Test.YtebgpbcbbjpbfaaPFnPageFindx5
import Derived.Test.YtebgpbcbbjpbfaaPFnPageFindx6
import Derived.Test.YtebgpbcbbjpbfaaPFnPageFindx7
import Derived.Test.YtebgpbcbbjpbfaaPFnPageFindx8
import Derived.Test.YtebgpbcbbjpbfaaPFnPageFindx9
import Derived.Test.YtebgpbcbbjpbfaaPFnPageFindx10
import Derived.Test.YtebgpbcbbjpbfaaPFnPageFindx11
import Derived.Test.YtebgpbcbbjpbfaaPFnPageFindx12
import Derived.Test.YtebgpbcbbjpbfaaPFnPageFindx13
import Derived.Test.YtebgpbcbbjpbfaaPFnPageFindx14
namespace Go.Proofs.Ytebgpbcbbjpbfaa.PFnPageFind
open Go.RowKit Go.Proofs.YtebgpbcbbjpbfaaW.PrintWords Go.Proofs.YtebgpbcbbjpbfaaW.PrintLast Go.Proofs.YtebgpbcbbjpbfaaW.PrintMore
attribute [local go_sem] max2_int min2_int max_two min_two max_three min_three max_four min_four max2_strs min2_strs   -- for this text's walks alone
set_option linter.unusedVariables false
set_option linter.unusedSimpArgs false

end Go.Proofs.Ytebgpbcbbjpbfaa.PFnPageFind
