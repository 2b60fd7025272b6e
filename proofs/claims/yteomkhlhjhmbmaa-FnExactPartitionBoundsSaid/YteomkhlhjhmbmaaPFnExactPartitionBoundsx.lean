-- Written for this claim by a program of this session (wip/myprint in the proofs' repo)
import Derived.Test.YteomkhlhjhmbmaaPFnExactPartitionBoundsx0
import Derived.Test.YteomkhlhjhmbmaaPFnExactPartitionBoundsx1
import Derived.Test.YteomkhlhjhmbmaaPFnExactPartitionBoundsx2
import Derived.Test.YteomkhlhjhmbmaaPFnExactPartitionBoundsx3
import Derived.Test.YteomkhlhjhmbmaaPFnExactPartitionBoundsx4
import Derived.Test.YteomkhlhjhmbmaaPFnExactPartitionBoundsx5
import Derived.Test.YteomkhlhjhmbmaaPFnExactPartitionBoundsx6
import Derived.Test.YteomkhlhjhmbmaaPFnExactPartitionBoundsx7
namespace Go.Proofs.Yteomkhlhjhmbmaa.PFnExactPartitionBounds
open Go.RowKit Go.Proofs.YteomkhlhjhmbmaaW.PrintWords Go.Proofs.YteomkhlhjhmbmaaW.PrintLast Go.Proofs.YteomkhlhjhmbmaaW.PrintMore
attribute [local go_sem] max2_int min2_int max_two min_two max_three min_three max_four min_four max2_strs min2_strs   -- for this text's walks alone
set_option linter.unusedVariables false
set_option linter.unusedSimpArgs false

end Go.Proofs.Yteomkhlhjhmbmaa.PFnExactPartitionBounds
