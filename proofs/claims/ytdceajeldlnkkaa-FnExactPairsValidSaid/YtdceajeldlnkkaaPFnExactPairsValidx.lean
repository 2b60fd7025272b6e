-- Written for this claim by a program of this session (wip/myprint in the proofs' repo)
import Derived.Test.YtdceajeldlnkkaaPFnExactPairsValidx0
import Derived.Test.YtdceajeldlnkkaaPFnExactPairsValidx1
import Derived.Test.YtdceajeldlnkkaaPFnExactPairsValidx2
import Derived.Test.YtdceajeldlnkkaaPFnExactPairsValidx3
import Derived.Test.YtdceajeldlnkkaaPFnExactPairsValidx4
namespace Go.Proofs.Ytdceajeldlnkkaa.PFnExactPairsValid
open Go.RowKit Go.Proofs.YtdceajeldlnkkaaW.PrintWords Go.Proofs.YtdceajeldlnkkaaW.PrintLast Go.Proofs.YtdceajeldlnkkaaW.PrintMore
attribute [local go_sem] max2_int min2_int max_two min_two max_three min_three max_four min_four max2_strs min2_strs   -- for this text's walks alone
set_option linter.unusedVariables false
set_option linter.unusedSimpArgs false

end Go.Proofs.Ytdceajeldlnkkaa.PFnExactPairsValid
