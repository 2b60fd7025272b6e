-- Written for this claim by a program of this session (wip/myprint in the proofs' repo)
import Derived.Test.YtgpffbijmohfjaaPFnIntervalHasx0
import Derived.Test.YtgpffbijmohfjaaPFnIntervalHasx1
import Derived.Test.YtgpffbijmohfjaaPFnIntervalHasx2
import Derived.Test.YtgpffbijmohfjaaPFnIntervalHasx3
import Derived.Test.YtgpffbijmohfjaaPFnIntervalHasx4
import Derived.Test.YtgpffbijmohfjaaPFnIntervalHasx5
import Derived.Test.YtgpffbijmohfjaaPFnIntervalHasx6
namespace Go.Proofs.Ytgpffbijmohfjaa.PFnIntervalHas
open Go.RowKit Go.Proofs.YtgpffbijmohfjaaW.PrintWords Go.Proofs.YtgpffbijmohfjaaW.PrintLast Go.Proofs.YtgpffbijmohfjaaW.PrintMore
attribute [local go_sem] max2_int min2_int max_two min_two max_three min_three max_four min_four max2_strs min2_strs   -- for this text's walks alone
set_option linter.unusedVariables false
set_option linter.unusedSimpArgs false

end Go.Proofs.Ytgpffbijmohfjaa.PFnIntervalHas
