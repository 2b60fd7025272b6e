-- Cut by a program of this session (wip/prune.py) from words that the kit's print.sh printed: what nothing of this seat uses is left out.
import Derived.Test.YtengnnhehjcfhaaWInv
import Derived.Test.YtengnnhehjcfhaaWFootNe
namespace Go.Proofs.YtengnnhehjcfhaaW.PrintWords
open Go.RowKit
end Go.Proofs.YtengnnhehjcfhaaW.PrintWords
namespace Go.Proofs.YtengnnhehjcfhaaW.PrintLast
section
variable {ops : Array Oper} {a : Act} {o og : Oper} {g : Nat} {t : Tmp} {u : Bool}
end
end Go.Proofs.YtengnnhehjcfhaaW.PrintLast
