-- Written for this claim by a program of this session (wip/myprint in the proofs' repo)
import Derived.Test.YtohafpgcnknooaaPFnPartitionBoundsx0
import Derived.Test.YtohafpgcnknooaaPFnPartitionBoundsx1
import Derived.Test.YtohafpgcnknooaaPFnPartitionBoundsx2
import Derived.Test.YtohafpgcnknooaaPFnPartitionBoundsx3
import Derived.Test.YtohafpgcnknooaaPFnPartitionBoundsx4
import Derived.Test.YtohafpgcnknooaaPFnPartitionBoundsx5
import Derived.Test.YtohafpgcnknooaaPFnPartitionBoundsx6
import Derived.Test.YtohafpgcnknooaaPFnPartitionBoundsx7
import Derived.Test.YtohafpgcnknooaaPFnPartitionBoundsx8
import Derived.Test.YtohafpgcnknooaaPFnPartitionBoundsx9
namespace Go.Proofs.Ytohafpgcnknooaa.PFnPartitionBounds
open Go.RowKit Go.Proofs.YtohafpgcnknooaaW.PrintWords Go.Proofs.YtohafpgcnknooaaW.PrintLast Go.Proofs.YtohafpgcnknooaaW.PrintMore
attribute [local go_sem] max2_int min2_int max_two min_two max_three min_three max_four min_four max2_strs min2_strs   -- for this text's walks alone
set_option linter.unusedVariables false
set_option linter.unusedSimpArgs false

end Go.Proofs.Ytohafpgcnknooaa.PFnPartitionBounds
