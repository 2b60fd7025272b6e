/- Plain laws of lists: no program in sight. -/
import Derived.Test.YtengnnhehjcfhaaThA
namespace Go.Proofs.Ytengnnhehjcfhaa.Th
open Go Go.RowKit Go.Proofs.YtengnnhehjcfhaaW.PrintWords
set_option linter.unusedVariables false
set_option linter.unusedSimpArgs false

theorem all_from {Q : Nat → Prop} {i n : Nat} (hi : i < n) (hQ : Q i) : (∀ j, i + 1 ≤ j → j < n → Q j) ↔ (∀ j, i ≤ j → j < n → Q j) := by
  constructor
  · intro h j h1 h2
    rcases Nat.eq_or_lt_of_le h1 with e | e
    · rw [← e]; exact hQ
    · exact h j e h2
  · exact fun h j h1 h2 => h j (by omega) h2
theorem take_set_succ {α : Type} (l : List α) (i : Nat) (v : α) (h : i < l.length) : (l.set i v).take (i + 1) = l.take i ++ [v] := by
  rw [List.take_succ_eq_append_getElem (by rw [List.length_set]; exact h), List.getElem_set_self, List.take_set_of_le (Nat.le_refl _)]
theorem getD_take {α : Type} (z : α) (l : List α) (i j : Nat) (h : i < j) : (l.take j).getD i z = l.getD i z := by
  rw [List.getD_eq_getElem?_getD, List.getD_eq_getElem?_getD, List.getElem?_take_of_lt h]
theorem getD_snoc {α : Type} (z : α) (l : List α) (x : α) (i : Nat) (h : i = l.length) : (l ++ [x]).getD i z = x := by
  subst h
  rw [List.getD_eq_getElem?_getD, List.getElem?_append_right (Nat.le_refl _)]
  simp
theorem getD_at {α : Type} (z : α) (l : List α) (i : Nat) (h : i < l.length) : l.getD i z = l[i]'h := by
  rw [List.getD_eq_getElem?_getD, List.getElem?_eq_getElem h]; rfl
theorem getD_mem {α : Type} (z : α) (l : List α) (i : Nat) (h : i < l.length) : l.getD i z ∈ l := by
  rw [List.getD_eq_getElem?_getD, List.getElem?_eq_getElem h]
  exact List.getElem_mem h
end Go.Proofs.Ytengnnhehjcfhaa.Th
