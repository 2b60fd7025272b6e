-- Cut by a program of this session (wip/prune.py) from words that the kit's print.sh printed: what nothing of this seat uses is left out.
import Derived.Test.YtengnnhehjcfhaaWTab
namespace Go.Proofs.YtengnnhehjcfhaaW.PrintLast
section
variable {P : Program} {ops : Array Oper} {Q : Exit → Act → World → Prop} {md : Region.Mode} {S : World → Prop} {ds : List Nat} {T : Bool × List (List Nat × List Nat)}
end
end Go.Proofs.YtengnnhehjcfhaaW.PrintLast
