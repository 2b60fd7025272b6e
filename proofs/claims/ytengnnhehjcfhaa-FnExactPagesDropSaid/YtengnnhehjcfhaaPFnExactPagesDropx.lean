-- Written for this claim by a program of this session (wip/myprint in the proofs' repo)
import Derived.Test.YtengnnhehjcfhaaPFnExactPagesDropx0
import Derived.Test.YtengnnhehjcfhaaPFnExactPagesDropx1
import Derived.Test.YtengnnhehjcfhaaPFnExactPagesDropx2
import Derived.Test.YtengnnhehjcfhaaPFnExactPagesDropx3
import Derived.Test.YtengnnhehjcfhaaPFnExactPagesDropx4
import Derived.Test.YtengnnhehjcfhaaPFnExactPagesDropx5
import Derived.Test.YtengnnhehjcfhaaPFnExactPagesDropx6
import Derived.Test.YtengnnhehjcfhaaPFnExactPagesDropx7
import Derived.Test.YtengnnhehjcfhaaPFnExactPagesDropx8
import Derived.Test.YtengnnhehjcfhaaPFnExactPagesDropx9
import Derived.Test.YtengnnhehjcfhaaPFnExactPagesDropx10
import Derived.Test.YtengnnhehjcfhaaPFnExactPagesDropx11
namespace Go.Proofs.Ytengnnhehjcfhaa.PFnExactPagesDrop
open Go.RowKit Go.Proofs.YtengnnhehjcfhaaW.PrintWords Go.Proofs.YtengnnhehjcfhaaW.PrintLast Go.Proofs.YtengnnhehjcfhaaW.PrintMore
attribute [local go_sem] max2_int min2_int max_two min_two max_three min_three max_four min_four max2_strs min2_strs   -- for this text's walks alone
set_option linter.unusedVariables false
set_option linter.unusedSimpArgs false

end Go.Proofs.Ytengnnhehjcfhaa.PFnExactPagesDrop
