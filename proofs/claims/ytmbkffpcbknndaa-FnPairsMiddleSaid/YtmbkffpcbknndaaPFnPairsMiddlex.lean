-- Written for this claim by a program of this session (wip/myprint in the proofs' repo)
import Derived.Test.YtmbkffpcbknndaaPFnPairsMiddlex0
import Derived.Test.YtmbkffpcbknndaaPFnPairsMiddlex1
import Derived.Test.YtmbkffpcbknndaaPFnPairsMiddlex2
import Derived.Test.YtmbkffpcbknndaaPFnPairsMiddlex3
import Derived.Test.YtmbkffpcbknndaaPFnPairsMiddlex4
import Derived.Test.YtmbkffpcbknndaaPFnPairsMiddlex5
import Derived.Test.YtmbkffpcbknndaaPFnPairsMiddlex6
import Derived.Test.YtmbkffpcbknndaaPFnPairsMiddlex7
import Derived.Test.YtmbkffpcbknndaaPFnPairsMiddlex8
namespace Go.Proofs.Ytmbkffpcbknndaa.PFnPairsMiddle
open Go.RowKit Go.Proofs.YtmbkffpcbknndaaW.PrintWords Go.Proofs.YtmbkffpcbknndaaW.PrintLast Go.Proofs.YtmbkffpcbknndaaW.PrintMore
attribute [local go_sem] max2_int min2_int max_two min_two max_three min_three max_four min_four max2_strs min2_strs   -- for this text's walks alone
set_option linter.unusedVariables false
set_option linter.unusedSimpArgs false

end Go.Proofs.Ytmbkffpcbknndaa.PFnPairsMiddle
