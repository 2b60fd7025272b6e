-- Cut by a program of this session (wip/prune.py) from words that the kit's print.sh printed: what nothing of this seat uses is left out.
import Derived.Test.YtebgpbcbbjpbfaaWInv
import Derived.Test.YtebgpbcbbjpbfaaWFootNe
namespace Go.Proofs.YtebgpbcbbjpbfaaW.PrintWords
open Go.RowKit
end Go.Proofs.YtebgpbcbbjpbfaaW.PrintWords
namespace Go.Proofs.YtebgpbcbbjpbfaaW.PrintLast
section
variable {ops : Array Oper} {a : Act} {o og : Oper} {g : Nat} {t : Tmp} {u : Bool}
end
end Go.Proofs.YtebgpbcbbjpbfaaW.PrintLast
