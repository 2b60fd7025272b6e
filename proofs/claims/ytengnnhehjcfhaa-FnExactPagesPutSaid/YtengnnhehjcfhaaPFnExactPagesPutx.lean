-- Written for this claim by a program of this session (wip/myprint in the proofs' repo)
import Derived.Test.YtengnnhehjcfhaaPFnExactPagesPutx0
import Derived.Test.YtengnnhehjcfhaaPFnExactPagesPutx1
import Derived.Test.YtengnnhehjcfhaaPFnExactPagesPutx2
import Derived.Test.YtengnnhehjcfhaaPFnExactPagesPutx3
import Derived.Test.YtengnnhehjcfhaaPFnExactPagesPutx4
import Derived.Test.YtengnnhehjcfhaaPFnExactPagesPutx5
import Derived.Test.YtengnnhehjcfhaaPFnExactPagesPutx6
import Derived.Test.YtengnnhehjcfhaaPFnExactPagesPutx7
import Derived.Test.YtengnnhehjcfhaaPFnExactPagesPutx8
import Derived.Test.YtengnnhehjcfhaaPFnExactPagesPutx9
import Derived.Test.YtengnnhehjcfhaaPFnExactPagesPutx10
import Derived.Test.YtengnnhehjcfhaaPFnExactPagesPutx11
namespace Go.Proofs.Ytengnnhehjcfhaa.PFnExactPagesPut
open Go.RowKit Go.Proofs.YtengnnhehjcfhaaW.PrintWords Go.Proofs.YtengnnhehjcfhaaW.PrintLast Go.Proofs.YtengnnhehjcfhaaW.PrintMore
attribute [local go_sem] max2_int min2_int max_two min_two max_three min_three max_four min_four max2_strs min2_strs   -- for this text's walks alone
set_option linter.unusedVariables false
set_option linter.unusedSimpArgs false

end Go.Proofs.Ytengnnhehjcfhaa.PFnExactPagesPut
