-- Cut by a program of this session (wip/prune.py) from words that the kit's print.sh printed: what nothing of this seat uses is left out.
/- Plain laws of lists: no program in sight. -/
import Derived.Test.YtengnnhehjcfhaaThA
namespace Go.Proofs.Ytengnnhehjcfhaa.Th
open Go Go.RowKit Go.Proofs.YtengnnhehjcfhaaW.PrintWords
set_option linter.unusedVariables false
set_option linter.unusedSimpArgs false
theorem all_from {Q : Nat → Prop} {i n : Nat} (hi : i < n) (hQ : Q i) : (∀ j, i + 1 ≤ j → j < n → Q j) ↔ (∀ j, i ≤ j → j < n → Q j) := by
  constructor
  · intro h j h1 h2
    rcases Nat.eq_or_lt_of_le h1 with e | e
    · rw [← e]; exact hQ
    · exact h j e h2
  · exact fun h j h1 h2 => h j (by omega) h2
theorem getD_at {α : Type} (z : α) (l : List α) (i : Nat) (h : i < l.length) : l.getD i z = l[i]'h := by
  rw [List.getD_eq_getElem?_getD, List.getElem?_eq_getElem h]; rfl
theorem getD_mem {α : Type} (z : α) (l : List α) (i : Nat) (h : i < l.length) : l.getD i z ∈ l := by
  rw [List.getD_eq_getElem?_getD, List.getElem?_eq_getElem h]
  exact List.getElem_mem h
end Go.Proofs.Ytengnnhehjcfhaa.Th
