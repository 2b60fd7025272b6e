-- Written for this claim by a program of this session (wip/myprint in the proofs' repo)
import Derived.Test.YtmbkffpcbknndaaPFnPairScanx0
import Derived.Test.YtmbkffpcbknndaaPFnPairScanx1
import Derived.Test.YtmbkffpcbknndaaPFnPairScanx2
import Derived.Test.YtmbkffpcbknndaaPFnPairScanx3
import Derived.Test.YtmbkffpcbknndaaPFnPairScanx4
import Derived.Test.YtmbkffpcbknndaaPFnPairScanx5
import Derived.Test.YtmbkffpcbknndaaPFnPairScanx6
import Derived.Test.YtmbkffpcbknndaaPFnPairScanx7
import Derived.Test.YtmbkffpcbknndaaPFnPairScanx8
import Derived.Test.YtmbkffpcbknndaaPFnPairScanx9
import Derived.Test.YtmbkffpcbknndaaPFnPairScanx10
import Derived.Test.YtmbkffpcbknndaaPFnPairScanx11
namespace Go.Proofs.Ytmbkffpcbknndaa.PFnPairScan
open Go.RowKit Go.Proofs.YtmbkffpcbknndaaW.PrintWords Go.Proofs.YtmbkffpcbknndaaW.PrintLast Go.Proofs.YtmbkffpcbknndaaW.PrintMore
attribute [local go_sem] max2_int min2_int max_two min_two max_three min_three max_four min_four max2_strs min2_strs   -- for this text's walks alone
set_option linter.unusedVariables false
set_option linter.unusedSimpArgs false

end Go.Proofs.Ytmbkffpcbknndaa.PFnPairScan
