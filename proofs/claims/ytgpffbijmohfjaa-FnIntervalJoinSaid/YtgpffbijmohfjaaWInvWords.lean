-- Cut by a program of this session (wip/prune.py) from words that the kit's print.sh printed: what nothing of this seat uses is left out.
import Derived.Test.YtgpffbijmohfjaaWInv
import Derived.Test.YtgpffbijmohfjaaWFootNe
namespace Go.Proofs.YtgpffbijmohfjaaW.PrintWords
open Go.RowKit
end Go.Proofs.YtgpffbijmohfjaaW.PrintWords
namespace Go.Proofs.YtgpffbijmohfjaaW.PrintLast
section
variable {ops : Array Oper} {a : Act} {o og : Oper} {g : Nat} {t : Tmp} {u : Bool}
end
end Go.Proofs.YtgpffbijmohfjaaW.PrintLast
