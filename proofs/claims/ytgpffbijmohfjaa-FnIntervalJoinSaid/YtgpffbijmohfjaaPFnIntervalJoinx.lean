-- Written for this claim by a program of this session (wip/myprint in the proofs' repo)
import Derived.Test.YtgpffbijmohfjaaPFnIntervalJoinx0
import Derived.Test.YtgpffbijmohfjaaPFnIntervalJoinx1
import Derived.Test.YtgpffbijmohfjaaPFnIntervalJoinx2
import Derived.Test.YtgpffbijmohfjaaPFnIntervalJoinx3
import Derived.Test.YtgpffbijmohfjaaPFnIntervalJoinx4
import Derived.Test.YtgpffbijmohfjaaPFnIntervalJoinx5
import Derived.Test.YtgpffbijmohfjaaPFnIntervalJoinx6z
import Derived.Test.YtgpffbijmohfjaaPFnIntervalJoinx7
namespace Go.Proofs.Ytgpffbijmohfjaa.PFnIntervalJoin
open Go.RowKit Go.Proofs.YtgpffbijmohfjaaW.PrintWords Go.Proofs.YtgpffbijmohfjaaW.PrintLast Go.Proofs.YtgpffbijmohfjaaW.PrintMore
attribute [local go_sem] max2_int min2_int max_two min_two max_three min_three max_four min_four max2_strs min2_strs   -- for this text's walks alone
set_option linter.unusedVariables false
set_option linter.unusedSimpArgs false

end Go.Proofs.Ytgpffbijmohfjaa.PFnIntervalJoin
