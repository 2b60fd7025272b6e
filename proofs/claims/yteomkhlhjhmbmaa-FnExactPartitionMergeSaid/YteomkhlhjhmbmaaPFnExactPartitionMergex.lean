-- Written for this claim by a program of this session (wip/myprint in the proofs' repo)
import Derived.Test.YteomkhlhjhmbmaaPFnExactPartitionMergex0
import Derived.Test.YteomkhlhjhmbmaaPFnExactPartitionMergex1
import Derived.Test.YteomkhlhjhmbmaaPFnExactPartitionMergex2
import Derived.Test.YteomkhlhjhmbmaaPFnExactPartitionMergex3
import Derived.Test.YteomkhlhjhmbmaaPFnExactPartitionMergex4
import Derived.Test.YteomkhlhjhmbmaaPFnExactPartitionMergex5
import Derived.Test.YteomkhlhjhmbmaaPFnExactPartitionMergex6
import Derived.Test.YteomkhlhjhmbmaaPFnExactPartitionMergex7
import Derived.Test.YteomkhlhjhmbmaaPFnExactPartitionMergex8
import Derived.Test.YteomkhlhjhmbmaaPFnExactPartitionMergex9
namespace Go.Proofs.Yteomkhlhjhmbmaa.PFnExactPartitionMerge
open Go.RowKit Go.Proofs.YteomkhlhjhmbmaaW.PrintWords Go.Proofs.YteomkhlhjhmbmaaW.PrintLast Go.Proofs.YteomkhlhjhmbmaaW.PrintMore
attribute [local go_sem] max2_int min2_int max_two min_two max_three min_three max_four min_four max2_strs min2_strs   -- for this text's walks alone
set_option linter.unusedVariables false
set_option linter.unusedSimpArgs false

end Go.Proofs.Yteomkhlhjhmbmaa.PFnExactPartitionMerge
