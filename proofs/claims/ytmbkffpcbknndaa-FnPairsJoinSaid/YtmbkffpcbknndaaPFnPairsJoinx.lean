-- Written for this claim by a program of this session (wip/myprint in the proofs' repo)
import Derived.Test.YtmbkffpcbknndaaPFnPairsJoinx0
import Derived.Test.YtmbkffpcbknndaaPFnPairsJoinx1
import Derived.Test.YtmbkffpcbknndaaPFnPairsJoinx2
import Derived.Test.YtmbkffpcbknndaaPFnPairsJoinx3
import Derived.Test.YtmbkffpcbknndaaPFnPairsJoinx4
import Derived.Test.YtmbkffpcbknndaaPFnPairsJoinx5
import Derived.Test.YtmbkffpcbknndaaPFnPairsJoinx6
import Derived.Test.YtmbkffpcbknndaaPFnPairsJoinx7
import Derived.Test.YtmbkffpcbknndaaPFnPairsJoinx8
import Derived.Test.YtmbkffpcbknndaaPFnPairsJoinx9
import Derived.Test.YtmbkffpcbknndaaPFnPairsJoinx10
import Derived.Test.YtmbkffpcbknndaaPFnPairsJoinx11
namespace Go.Proofs.Ytmbkffpcbknndaa.PFnPairsJoin
open Go.RowKit Go.Proofs.YtmbkffpcbknndaaW.PrintWords Go.Proofs.YtmbkffpcbknndaaW.PrintLast Go.Proofs.YtmbkffpcbknndaaW.PrintMore
attribute [local go_sem] max2_int min2_int max_two min_two max_three min_three max_four min_four max2_strs min2_strs   -- for this text's walks alone
set_option linter.unusedVariables false
set_option linter.unusedSimpArgs false

end Go.Proofs.Ytmbkffpcbknndaa.PFnPairsJoin
