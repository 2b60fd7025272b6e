-- Written for this claim by a program of this session (wip/myprint in the proofs' repo)
import Derived.Test.YtgpffbijmohfjaaPFnIntervalMeetx0
import Derived.Test.YtgpffbijmohfjaaPFnIntervalMeetx1
import Derived.Test.YtgpffbijmohfjaaPFnIntervalMeetx2
import Derived.Test.YtgpffbijmohfjaaPFnIntervalMeetx3
import Derived.Test.YtgpffbijmohfjaaPFnIntervalMeetx4
import Derived.Test.YtgpffbijmohfjaaPFnIntervalMeetx5
import Derived.Test.YtgpffbijmohfjaaPFnIntervalMeetx6
import Derived.Test.YtgpffbijmohfjaaPFnIntervalMeetx7
import Derived.Test.YtgpffbijmohfjaaPFnIntervalMeetx8
import Derived.Test.YtgpffbijmohfjaaPFnIntervalMeetx9
namespace Go.Proofs.Ytgpffbijmohfjaa.PFnIntervalMeet
open Go.RowKit Go.Proofs.YtgpffbijmohfjaaW.PrintWords Go.Proofs.YtgpffbijmohfjaaW.PrintLast Go.Proofs.YtgpffbijmohfjaaW.PrintMore
attribute [local go_sem] max2_int min2_int max_two min_two max_three min_three max_four min_four max2_strs min2_strs   -- for this text's walks alone
set_option linter.unusedVariables false
set_option linter.unusedSimpArgs false

end Go.Proofs.Ytgpffbijmohfjaa.PFnIntervalMeet
