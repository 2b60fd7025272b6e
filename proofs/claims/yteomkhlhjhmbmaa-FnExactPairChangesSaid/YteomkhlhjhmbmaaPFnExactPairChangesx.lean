-- Written for this claim by a program of this session (wip/myprint in the proofs' repo)
import Derived.Test.YteomkhlhjhmbmaaPFnExactPairChangesx0
import Derived.Test.YteomkhlhjhmbmaaPFnExactPairChangesx1
import Derived.Test.YteomkhlhjhmbmaaPFnExactPairChangesx2
import Derived.Test.YteomkhlhjhmbmaaPFnExactPairChangesx3
import Derived.Test.YteomkhlhjhmbmaaPFnExactPairChangesx4
import Derived.Test.YteomkhlhjhmbmaaPFnExactPairChangesx5
import Derived.Test.YteomkhlhjhmbmaaPFnExactPairChangesx6
namespace Go.Proofs.Yteomkhlhjhmbmaa.PFnExactPairChanges
open Go.RowKit Go.Proofs.YteomkhlhjhmbmaaW.PrintWords Go.Proofs.YteomkhlhjhmbmaaW.PrintLast Go.Proofs.YteomkhlhjhmbmaaW.PrintMore
attribute [local go_sem] max2_int min2_int max_two min_two max_three min_three max_four min_four max2_strs min2_strs   -- for this text's walks alone
set_option linter.unusedVariables false
set_option linter.unusedSimpArgs false

end Go.Proofs.Yteomkhlhjhmbmaa.PFnExactPairChanges
