-- Cut by a program of this session (wip/prune.py) from words that the kit's print.sh printed: what nothing of this seat uses is left out.
/- Plain laws of intervals of keys: no program in sight. -/
import Derived.Test.YtengnnhehjcfhaaThA
namespace Go.Proofs.Ytengnnhehjcfhaa.Th
open Go Go.RowKit Go.Proofs.YtengnnhehjcfhaaW.PrintWords
set_option linter.unusedVariables false
set_option linter.unusedSimpArgs false
instance okL_dec (l : List UInt8) (d : Nat) : Decidable (okL l d) := by unfold okL; infer_instance
instance kv0_dec (s : ByteArray) : Decidable (kv0 s) := okL_dec _ _
theorem bool_eq {a b : Bool} (h : a = true ↔ b = true) : a = b := by cases a <;> cases b <;> simp_all
end Go.Proofs.Ytengnnhehjcfhaa.Th
