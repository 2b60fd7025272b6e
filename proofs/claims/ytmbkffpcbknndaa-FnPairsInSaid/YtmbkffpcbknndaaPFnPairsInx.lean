-- Written for this claim by a program of this session (wip/myprint in the proofs' repo)
import Derived.Test.YtmbkffpcbknndaaPFnPairsInx0
import Derived.Test.YtmbkffpcbknndaaPFnPairsInx1
import Derived.Test.YtmbkffpcbknndaaPFnPairsInx2
import Derived.Test.YtmbkffpcbknndaaPFnPairsInx3
import Derived.Test.YtmbkffpcbknndaaPFnPairsInx4
import Derived.Test.YtmbkffpcbknndaaPFnPairsInx5
import Derived.Test.YtmbkffpcbknndaaPFnPairsInx6
import Derived.Test.YtmbkffpcbknndaaPFnPairsInx7
import Derived.Test.YtmbkffpcbknndaaPFnPairsInx8
import Derived.Test.YtmbkffpcbknndaaPFnPairsInx9
import Derived.Test.YtmbkffpcbknndaaPFnPairsInx10
import Derived.Test.YtmbkffpcbknndaaPFnPairsInx11
import Derived.Test.YtmbkffpcbknndaaPFnPairsInx12
namespace Go.Proofs.Ytmbkffpcbknndaa.PFnPairsIn
open Go.RowKit Go.Proofs.YtmbkffpcbknndaaW.PrintWords Go.Proofs.YtmbkffpcbknndaaW.PrintLast Go.Proofs.YtmbkffpcbknndaaW.PrintMore
attribute [local go_sem] max2_int min2_int max_two min_two max_three min_three max_four min_four max2_strs min2_strs   -- for this text's walks alone
set_option linter.unusedVariables false
set_option linter.unusedSimpArgs false

end Go.Proofs.Ytmbkffpcbknndaa.PFnPairsIn
