-- Cut by a program of this session (wip/prune.py) from words that the kit's print.sh printed: what nothing of this seat uses is left out.
import Derived.Test.YtmbkffpcbknndaaWInv
import Derived.Test.YtmbkffpcbknndaaWFootNe
namespace Go.Proofs.YtmbkffpcbknndaaW.PrintWords
open Go.RowKit
end Go.Proofs.YtmbkffpcbknndaaW.PrintWords
namespace Go.Proofs.YtmbkffpcbknndaaW.PrintLast
section
variable {ops : Array Oper} {a : Act} {o og : Oper} {g : Nat} {t : Tmp} {u : Bool}
end
end Go.Proofs.YtmbkffpcbknndaaW.PrintLast
