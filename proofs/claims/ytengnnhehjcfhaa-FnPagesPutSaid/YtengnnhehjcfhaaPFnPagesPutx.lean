-- Written for this claim by a program of this session (wip/myprint in the proofs' repo)
import Derived.Test.YtengnnhehjcfhaaPFnPagesPutx0
import Derived.Test.YtengnnhehjcfhaaPFnPagesPutx1
import Derived.Test.YtengnnhehjcfhaaPFnPagesPutx2
import Derived.Test.YtengnnhehjcfhaaPFnPagesPutx3
import Derived.Test.YtengnnhehjcfhaaPFnPagesPutx4
import Derived.Test.YtengnnhehjcfhaaPFnPagesPutx5
import Derived.Test.YtengnnhehjcfhaaPFnPagesPutx6
import Derived.Test.YtengnnhehjcfhaaPFnPagesPutx7
import Derived.Test.YtengnnhehjcfhaaPFnPagesPutx8
import Derived.Test.YtengnnhehjcfhaaPFnPagesPutx9
import Derived.Test.YtengnnhehjcfhaaPFnPagesPutx10
import Derived.Test.YtengnnhehjcfhaaPFnPagesPutx11
import Derived.Test.YtengnnhehjcfhaaPFnPagesPutx12
import Derived.Test.YtengnnhehjcfhaaPFnPagesPutx13
import Derived.Test.YtengnnhehjcfhaaPFnPagesPutx14
import Derived.Test.YtengnnhehjcfhaaPFnPagesPutx15
namespace Go.Proofs.Ytengnnhehjcfhaa.PFnPagesPut
open Go.RowKit Go.Proofs.YtengnnhehjcfhaaW.PrintWords Go.Proofs.YtengnnhehjcfhaaW.PrintLast Go.Proofs.YtengnnhehjcfhaaW.PrintMore
attribute [local go_sem] max2_int min2_int max_two min_two max_three min_three max_four min_four max2_strs min2_strs   -- for this text's walks alone
set_option linter.unusedVariables false
set_option linter.unusedSimpArgs false

end Go.Proofs.Ytengnnhehjcfhaa.PFnPagesPut
