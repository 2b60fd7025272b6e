-- Written for this claim by a program of this session (wip/myprint in the proofs' repo)
import Derived.Test.YtebgpbcbbjpbfaaPFnExactPartitionSplitx0
import Derived.Test.YtebgpbcbbjpbfaaPFnExactPartitionSplitx1
import Derived.Test.YtebgpbcbbjpbfaaPFnExactPartitionSplitx2
import Derived.Test.YtebgpbcbbjpbfaaPFnExactPartitionSplitx3
import Derived.Test.YtebgpbcbbjpbfaaPFnExactPartitionSplitx4
import Derived.Test.YtebgpbcbbjpbfaaPFnExactPartitionSplitx5
import Derived.Test.YtebgpbcbbjpbfaaPFnExactPartitionSplitx6
import Derived.Test.YtebgpbcbbjpbfaaPFnExactPartitionSplitx7
import Derived.Test.YtebgpbcbbjpbfaaPFnExactPartitionSplitx8
import Derived.Test.YtebgpbcbbjpbfaaPFnExactPartitionSplitx9
import Derived.Test.YtebgpbcbbjpbfaaPFnExactPartitionSplitx10
namespace Go.Proofs.Ytebgpbcbbjpbfaa.PFnExactPartitionSplit
open Go.RowKit Go.Proofs.YtebgpbcbbjpbfaaW.PrintWords Go.Proofs.YtebgpbcbbjpbfaaW.PrintLast Go.Proofs.YtebgpbcbbjpbfaaW.PrintMore
attribute [local go_sem] max2_int min2_int max_two min_two max_three min_three max_four min_four max2_strs min2_strs   -- for this text's walks alone
set_option linter.unusedVariables false
set_option linter.unusedSimpArgs false

end Go.Proofs.Ytebgpbcbbjpbfaa.PFnExactPartitionSplit
