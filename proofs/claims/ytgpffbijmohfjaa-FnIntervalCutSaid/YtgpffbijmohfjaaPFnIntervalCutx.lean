-- Written for this claim by a program of this session (wip/myprint in the proofs' repo)
import Derived.Test.YtgpffbijmohfjaaPFnIntervalCutx0
import Derived.Test.YtgpffbijmohfjaaPFnIntervalCutx1
import Derived.Test.YtgpffbijmohfjaaPFnIntervalCutx2
import Derived.Test.YtgpffbijmohfjaaPFnIntervalCutx3
import Derived.Test.YtgpffbijmohfjaaPFnIntervalCutx4
import Derived.Test.YtgpffbijmohfjaaPFnIntervalCutx5
import Derived.Test.YtgpffbijmohfjaaPFnIntervalCutx6
import Derived.Test.YtgpffbijmohfjaaPFnIntervalCutx7
import Derived.Test.YtgpffbijmohfjaaPFnIntervalCutx8
namespace Go.Proofs.Ytgpffbijmohfjaa.PFnIntervalCut
open Go.RowKit Go.Proofs.YtgpffbijmohfjaaW.PrintWords Go.Proofs.YtgpffbijmohfjaaW.PrintLast Go.Proofs.YtgpffbijmohfjaaW.PrintMore
attribute [local go_sem] max2_int min2_int max_two min_two max_three min_three max_four min_four max2_strs min2_strs   -- for this text's walks alone
set_option linter.unusedVariables false
set_option linter.unusedSimpArgs false

end Go.Proofs.Ytgpffbijmohfjaa.PFnIntervalCut
