-- Written for this claim by a program of this session (wip/myprint in the proofs' repo)
import Derived.Test.YtohafpgcnknooaaPFnPartitionSplitx0
import Derived.Test.YtohafpgcnknooaaPFnPartitionSplitx1
import Derived.Test.YtohafpgcnknooaaPFnPartitionSplitx2
import Derived.Test.YtohafpgcnknooaaPFnPartitionSplitx3
import Derived.Test.YtohafpgcnknooaaPFnPartitionSplitx4
import Derived.Test.YtohafpgcnknooaaPFnPartitionSplitx5
import Derived.Test.YtohafpgcnknooaaPFnPartitionSplitx6
import Derived.Test.YtohafpgcnknooaaPFnPartitionSplitx7
import Derived.Test.YtohafpgcnknooaaPFnPartitionSplitx8
import Derived.Test.YtohafpgcnknooaaPFnPartitionSplitx9
import Derived.Test.YtohafpgcnknooaaPFnPartitionSplitx10
import Derived.Test.YtohafpgcnknooaaPFnPartitionSplitx11
import Derived.Test.YtohafpgcnknooaaPFnPartitionSplitx12
namespace Go.Proofs.Ytohafpgcnknooaa.PFnPartitionSplit
open Go.RowKit Go.Proofs.YtohafpgcnknooaaW.PrintWords Go.Proofs.YtohafpgcnknooaaW.PrintLast Go.Proofs.YtohafpgcnknooaaW.PrintMore
attribute [local go_sem] max2_int min2_int max_two min_two max_three min_three max_four min_four max2_strs min2_strs   -- for this text's walks alone
set_option linter.unusedVariables false
set_option linter.unusedSimpArgs false

end Go.Proofs.Ytohafpgcnknooaa.PFnPartitionSplit
