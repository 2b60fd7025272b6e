-- Written for this claim by a program of this session (wip/myprint in the proofs' repo)
import Derived.Test.YtohafpgcnknooaaPFnPartitionMergex0
import Derived.Test.YtohafpgcnknooaaPFnPartitionMergex1
import Derived.Test.YtohafpgcnknooaaPFnPartitionMergex2
import Derived.Test.YtohafpgcnknooaaPFnPartitionMergex3
import Derived.Test.YtohafpgcnknooaaPFnPartitionMergex4
import Derived.Test.YtohafpgcnknooaaPFnPartitionMergex5
import Derived.Test.YtohafpgcnknooaaPFnPartitionMergex6
import Derived.Test.YtohafpgcnknooaaPFnPartitionMergex7
import Derived.Test.YtohafpgcnknooaaPFnPartitionMergex8
import Derived.Test.YtohafpgcnknooaaPFnPartitionMergex9
import Derived.Test.YtohafpgcnknooaaPFnPartitionMergex10
import Derived.Test.YtohafpgcnknooaaPFnPartitionMergex11
import Derived.Test.YtohafpgcnknooaaPFnPartitionMergex12
namespace Go.Proofs.Ytohafpgcnknooaa.PFnPartitionMerge
open Go.RowKit Go.Proofs.YtohafpgcnknooaaW.PrintWords Go.Proofs.YtohafpgcnknooaaW.PrintLast Go.Proofs.YtohafpgcnknooaaW.PrintMore
attribute [local go_sem] max2_int min2_int max_two min_two max_three min_three max_four min_four max2_strs min2_strs   -- for this text's walks alone
set_option linter.unusedVariables false
set_option linter.unusedSimpArgs false

end Go.Proofs.Ytohafpgcnknooaa.PFnPartitionMerge
