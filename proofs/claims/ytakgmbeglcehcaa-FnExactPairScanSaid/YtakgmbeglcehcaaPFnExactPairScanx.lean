-- Written for this claim by a program of this session (wip/myprint in the proofs' repo)
import Derived.Test.YtakgmbeglcehcaaPFnExactPairScanx0
import Derived.Test.YtakgmbeglcehcaaPFnExactPairScanx1
import Derived.Test.YtakgmbeglcehcaaPFnExactPairScanx2
import Derived.Test.YtakgmbeglcehcaaPFnExactPairScanx3
import Derived.Test.YtakgmbeglcehcaaPFnExactPairScanx4
import Derived.Test.YtakgmbeglcehcaaPFnExactPairScanx5
import Derived.Test.YtakgmbeglcehcaaPFnExactPairScanx6
import Derived.Test.YtakgmbeglcehcaaPFnExactPairScanx7
namespace Go.Proofs.Ytakgmbeglcehcaa.PFnExactPairScan
open Go.RowKit Go.Proofs.YtakgmbeglcehcaaW.PrintWords Go.Proofs.YtakgmbeglcehcaaW.PrintLast Go.Proofs.YtakgmbeglcehcaaW.PrintMore
attribute [local go_sem] max2_int min2_int max_two min_two max_three min_three max_four min_four max2_strs min2_strs   -- for this text's walks alone
set_option linter.unusedVariables false
set_option linter.unusedSimpArgs false

end Go.Proofs.Ytakgmbeglcehcaa.PFnExactPairScan
