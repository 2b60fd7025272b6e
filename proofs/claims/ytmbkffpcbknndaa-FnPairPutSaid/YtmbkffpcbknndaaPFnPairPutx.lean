-- Written for this claim by a program of this session (wip/myprint in the proofs' repo)
import Derived.Test.YtmbkffpcbknndaaPFnPairPutx0
import Derived.Test.YtmbkffpcbknndaaPFnPairPutx1
import Derived.Test.YtmbkffpcbknndaaPFnPairPutx2
import Derived.Test.YtmbkffpcbknndaaPFnPairPutx3
import Derived.Test.YtmbkffpcbknndaaPFnPairPutx4
import Derived.Test.YtmbkffpcbknndaaPFnPairPutx5
import Derived.Test.YtmbkffpcbknndaaPFnPairPutx6
import Derived.Test.YtmbkffpcbknndaaPFnPairPutx7
import Derived.Test.YtmbkffpcbknndaaPFnPairPutx8
import Derived.Test.YtmbkffpcbknndaaPFnPairPutx9
namespace Go.Proofs.Ytmbkffpcbknndaa.PFnPairPut
open Go.RowKit Go.Proofs.YtmbkffpcbknndaaW.PrintWords Go.Proofs.YtmbkffpcbknndaaW.PrintLast Go.Proofs.YtmbkffpcbknndaaW.PrintMore
attribute [local go_sem] max2_int min2_int max_two min_two max_three min_three max_four min_four max2_strs min2_strs   -- for this text's walks alone
set_option linter.unusedVariables false
set_option linter.unusedSimpArgs false

end Go.Proofs.Ytmbkffpcbknndaa.PFnPairPut
