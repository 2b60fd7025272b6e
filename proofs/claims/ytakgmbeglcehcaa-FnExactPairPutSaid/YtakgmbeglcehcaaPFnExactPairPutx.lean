-- Written for this claim by a program of this session (wip/myprint in the proofs' repo)
import Derived.Test.YtakgmbeglcehcaaPFnExactPairPutx0
import Derived.Test.YtakgmbeglcehcaaPFnExactPairPutx1
import Derived.Test.YtakgmbeglcehcaaPFnExactPairPutx2
import Derived.Test.YtakgmbeglcehcaaPFnExactPairPutx3
import Derived.Test.YtakgmbeglcehcaaPFnExactPairPutx4
import Derived.Test.YtakgmbeglcehcaaPFnExactPairPutx5
import Derived.Test.YtakgmbeglcehcaaPFnExactPairPutx6
namespace Go.Proofs.Ytakgmbeglcehcaa.PFnExactPairPut
open Go.RowKit Go.Proofs.YtakgmbeglcehcaaW.PrintWords Go.Proofs.YtakgmbeglcehcaaW.PrintLast Go.Proofs.YtakgmbeglcehcaaW.PrintMore
attribute [local go_sem] max2_int min2_int max_two min_two max_three min_three max_four min_four max2_strs min2_strs   -- for this text's walks alone
set_option linter.unusedVariables false
set_option linter.unusedSimpArgs false

end Go.Proofs.Ytakgmbeglcehcaa.PFnExactPairPut
