-- Cut by a program of this session (wip/prune.py) from words that the kit's print.sh printed: what nothing of this seat uses is left out.
import Derived.Test.YtohafpgcnknooaaWInv
import Derived.Test.YtohafpgcnknooaaWFootNe
namespace Go.Proofs.YtohafpgcnknooaaW.PrintWords
open Go.RowKit
end Go.Proofs.YtohafpgcnknooaaW.PrintWords
namespace Go.Proofs.YtohafpgcnknooaaW.PrintLast
section
variable {ops : Array Oper} {a : Act} {o og : Oper} {g : Nat} {t : Tmp} {u : Bool}
end
end Go.Proofs.YtohafpgcnknooaaW.PrintLast
