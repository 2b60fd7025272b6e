-- Written for this claim by a program of this session (wip/myprint in the proofs' repo)
import Derived.Test.YtakgmbeglcehcaaPFnExactPairsInx0
import Derived.Test.YtakgmbeglcehcaaPFnExactPairsInx1
import Derived.Test.YtakgmbeglcehcaaPFnExactPairsInx2
import Derived.Test.YtakgmbeglcehcaaPFnExactPairsInx3
import Derived.Test.YtakgmbeglcehcaaPFnExactPairsInx4
import Derived.Test.YtakgmbeglcehcaaPFnExactPairsInx5
import Derived.Test.YtakgmbeglcehcaaPFnExactPairsInx6
import Derived.Test.YtakgmbeglcehcaaPFnExactPairsInx7
namespace Go.Proofs.Ytakgmbeglcehcaa.PFnExactPairsIn
open Go.RowKit Go.Proofs.YtakgmbeglcehcaaW.PrintWords Go.Proofs.YtakgmbeglcehcaaW.PrintLast Go.Proofs.YtakgmbeglcehcaaW.PrintMore
attribute [local go_sem] max2_int min2_int max_two min_two max_three min_three max_four min_four max2_strs min2_strs   -- for this text's walks alone
set_option linter.unusedVariables false
set_option linter.unusedSimpArgs false

end Go.Proofs.Ytakgmbeglcehcaa.PFnExactPairsIn
