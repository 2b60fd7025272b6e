-- Written for this claim by a program of this session (wip/myprint in the proofs' repo)
import Derived.Test.YtmbkffpcbknndaaPFnPairChangesx0
import Derived.Test.YtmbkffpcbknndaaPFnPairChangesx1
import Derived.Test.YtmbkffpcbknndaaPFnPairChangesx2
import Derived.Test.YtmbkffpcbknndaaPFnPairChangesx3
import Derived.Test.YtmbkffpcbknndaaPFnPairChangesx4
import Derived.Test.YtmbkffpcbknndaaPFnPairChangesx5
import Derived.Test.YtmbkffpcbknndaaPFnPairChangesx6
import Derived.Test.YtmbkffpcbknndaaPFnPairChangesx7
import Derived.Test.YtmbkffpcbknndaaPFnPairChangesx8
import Derived.Test.YtmbkffpcbknndaaPFnPairChangesx9
import Derived.Test.YtmbkffpcbknndaaPFnPairChangesx10
namespace Go.Proofs.Ytmbkffpcbknndaa.PFnPairChanges
open Go.RowKit Go.Proofs.YtmbkffpcbknndaaW.PrintWords Go.Proofs.YtmbkffpcbknndaaW.PrintLast Go.Proofs.YtmbkffpcbknndaaW.PrintMore
attribute [local go_sem] max2_int min2_int max_two min_two max_three min_three max_four min_four max2_strs min2_strs   -- for this text's walks alone
set_option linter.unusedVariables false
set_option linter.unusedSimpArgs false

end Go.Proofs.Ytmbkffpcbknndaa.PFnPairChanges
