-- Written for this claim by a program of this session (wip/myprint in the proofs' repo)
import Derived.Test.YtakgmbeglcehcaaPFnExactPairDropx0
import Derived.Test.YtakgmbeglcehcaaPFnExactPairDropx1
import Derived.Test.YtakgmbeglcehcaaPFnExactPairDropx2
import Derived.Test.YtakgmbeglcehcaaPFnExactPairDropx3
import Derived.Test.YtakgmbeglcehcaaPFnExactPairDropx4
import Derived.Test.YtakgmbeglcehcaaPFnExactPairDropx5
import Derived.Test.YtakgmbeglcehcaaPFnExactPairDropx6
import Derived.Test.YtakgmbeglcehcaaPFnExactPairDropx7
namespace Go.Proofs.Ytakgmbeglcehcaa.PFnExactPairDrop
open Go.RowKit Go.Proofs.YtakgmbeglcehcaaW.PrintWords Go.Proofs.YtakgmbeglcehcaaW.PrintLast Go.Proofs.YtakgmbeglcehcaaW.PrintMore
attribute [local go_sem] max2_int min2_int max_two min_two max_three min_three max_four min_four max2_strs min2_strs   -- for this text's walks alone
set_option linter.unusedVariables false
set_option linter.unusedSimpArgs false

end Go.Proofs.Ytakgmbeglcehcaa.PFnExactPairDrop
