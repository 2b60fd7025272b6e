-- Written for this claim by a program of this session (wip/myprint in the proofs' repo)
import Derived.Test.YtohafpgcnknooaaPFnPartitionFindx0
import Derived.Test.YtohafpgcnknooaaPFnPartitionFindx1
import Derived.Test.YtohafpgcnknooaaPFnPartitionFindx2
import Derived.Test.YtohafpgcnknooaaPFnPartitionFindx3
import Derived.Test.YtohafpgcnknooaaPFnPartitionFindx4
import Derived.Test.YtohafpgcnknooaaPFnPartitionFindx5
import Derived.Test.YtohafpgcnknooaaPFnPartitionFindx6
import Derived.Test.YtohafpgcnknooaaPFnPartitionFindx7
namespace Go.Proofs.Ytohafpgcnknooaa.PFnPartitionFind
open Go.RowKit Go.Proofs.YtohafpgcnknooaaW.PrintWords Go.Proofs.YtohafpgcnknooaaW.PrintLast Go.Proofs.YtohafpgcnknooaaW.PrintMore
attribute [local go_sem] max2_int min2_int max_two min_two max_three min_three max_four min_four max2_strs min2_strs   -- for this text's walks alone
set_option linter.unusedVariables false
set_option linter.unusedSimpArgs false

end Go.Proofs.Ytohafpgcnknooaa.PFnPartitionFind
