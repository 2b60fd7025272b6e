-- Cut by a program of this session (wip/prune.py) from words that the kit's print.sh printed: what nothing of this seat uses is left out.
/- Plain laws of pages out of which a pair is taken: what the functions answer, and how large that is. -/
import Derived.Test.YtengnnhehjcfhaaThU
namespace Go.Proofs.Ytengnnhehjcfhaa.Th
open Go Go.RowKit Go.Proofs.YtengnnhehjcfhaaW.PrintWords
set_option linter.unusedVariables false
set_option linter.unusedSimpArgs false
section
variable {α β : Type} (key : α → ByteArray) (val : α → Int) (ps : β → List α) (mkp : List α → β)
def twoPg (l : List β) (i : Nat) (y : List α) (c : Nat) : List β := if y.length ≤ 4 then l.take i ++ [mkp y] ++ l.drop (i + 2) else l.take i ++ [mkp (y.take c), mkp (y.drop c)] ++ l.drop (i + 2)
def joinPg (z : β) (l : List β) (a i : Nat) : List β := twoPg mkp l i (ps (l.getD i z) ++ ps (l.getD (i + 1) z)) (if i = a then 2 else (ps (l.getD i z) ++ ps (l.getD (i + 1) z)).length - 2)
def mendPg (z : β) (l : List β) (a : Nat) : List β :=
  if l.length = 1 then (if (ps (l.getD 0 z)).length = 0 then [] else l)
  else if 2 ≤ (ps (l.getD a z)).length then l else joinPg ps mkp z l a (if a + 1 = l.length then a - 1 else a)
noncomputable def dropPg (zp : α) (z : β) (l : List β) (s : ByteArray) : List β × Bool :=
  if pgv key val ps l = true ∧ kv s = true ∧ l ≠ [] then
    (if (dropP key val (ps (l.getD (lastPg key ps zp s l 0 0) z)) s).2 = true then (mendPg ps mkp z (l.set (lastPg key ps zp s l 0 0) (mkp (dropP key val (ps (l.getD (lastPg key ps zp s l 0 0) z)) s).1)) (lastPg key ps zp s l 0 0), true) else (l, false))
  else ([], false)
theorem set_two (l : List β) (i : Nat) (x y : β) (h : i + 1 < l.length) : (l.set i x).set (i + 1) y = l.take i ++ [x, y] ++ l.drop (i + 2) := by
  have e : l.set i x = l.take i ++ x :: l.drop (i + 1) := List.set_eq_take_append_cons_drop.trans (if_pos (by omega))
  have d : l.drop (i + 1) = l[i + 1]'h :: l.drop (i + 2) := List.drop_eq_getElem_cons h
  have t : (l.take i).length = i := by rw [List.length_take]; omega
  rw [e, d, List.set_append_right _ _ (by omega), t, show i + 1 - i = 1 by omega, List.append_assoc]
  rfl
variable (hmk : ∀ l, ps (mkp l) = l)
include hmk in
theorem twoPg_small (l : List β) (i : Nat) (y : List α) (c : Nat) (h1 : l.length ≤ 48) (h2 : ∀ p ∈ l, (ps p).length ≤ 48) (hy : y.length ≤ 96) : small ps (twoPg mkp l i y c) := by
  unfold twoPg
  by_cases d : y.length ≤ 4
  · rw [if_pos d]
    refine ⟨by simp only [List.length_append, List.length_take, List.length_drop, List.length_cons, List.length_nil]; omega, fun p hp => ?_⟩
    simp only [List.mem_append, List.mem_cons, List.not_mem_nil, or_false] at hp
    rcases hp with (hp | hp) | hp
    · have := h2 p (List.mem_of_mem_take hp); omega
    · rw [hp, hmk]; omega
    · have := h2 p (List.mem_of_mem_drop hp); omega
  · rw [if_neg d]
    refine ⟨by simp only [List.length_append, List.length_take, List.length_drop, List.length_cons, List.length_nil]; omega, fun p hp => ?_⟩
    simp only [List.mem_append, List.mem_cons, List.not_mem_nil, or_false] at hp
    rcases hp with (hp | hp | hp) | hp
    · have := h2 p (List.mem_of_mem_take hp); omega
    · rw [hp, hmk, List.length_take]; omega
    · rw [hp, hmk, List.length_drop]; omega
    · have := h2 p (List.mem_of_mem_drop hp); omega
include hmk in
theorem mendPg_small (z : β) (hz : (ps z).length ≤ 48) (l : List β) (a : Nat) (h1 : l.length ≤ 48) (h2 : ∀ p ∈ l, (ps p).length ≤ 48) : small ps (mendPg ps mkp z l a) := by
  have g : ∀ i, (ps (l.getD i z)).length ≤ 48 := fun i => by
    by_cases c : i < l.length
    · exact h2 _ (getD_mem z l i c)
    · rw [List.getD_eq_getElem?_getD, List.getElem?_eq_none (by omega)]; exact hz
  have hl : small ps l := ⟨by omega, fun p hp => by have := h2 p hp; omega⟩
  unfold mendPg joinPg
  by_cases c : l.length = 1
  · rw [if_pos c]
    by_cases d : (ps (l.getD 0 z)).length = 0
    · rw [if_pos d]; exact ⟨by simp, by simp⟩
    · rw [if_neg d]; exact hl
  · rw [if_neg c]
    by_cases d : 2 ≤ (ps (l.getD a z)).length
    · rw [if_pos d]; exact hl
    · rw [if_neg d]
      exact twoPg_small ps mkp hmk l _ _ _ h1 h2 (by have := g (if a + 1 = l.length then a - 1 else a); have := g ((if a + 1 = l.length then a - 1 else a) + 1); rw [List.length_append]; omega)
include hmk in
theorem dropPg_small (zp : α) (z : β) (hz : (ps z).length ≤ 48) (l : List β) (s : ByteArray) : small ps (dropPg key val ps mkp zp z l s).1 := by
  unfold dropPg
  by_cases h : pgv key val ps l = true ∧ kv s = true ∧ l ≠ []
  · have hP := (pgv_iff _ _ _ _).1 h.1
    have h1 := pgv_len key val ps l hP
    rw [if_pos h]
    by_cases d : (dropP key val (ps (l.getD (lastPg key ps zp s l 0 0) z)) s).2 = true
    · rw [if_pos d]
      refine mendPg_small ps mkp hmk z hz _ _ (by rw [List.length_set]; omega) (fun p hp => ?_)
      rcases List.mem_or_eq_of_mem_set hp with hp | hp
      · have := (hP.1 p hp).1; omega
      · rw [hp, hmk]; exact dropP_len key val _ s
    · rw [if_neg d]
      exact ⟨by show l.length ≤ 60; omega, fun p hp => by have := (hP.1 p hp).1; omega⟩
  · rw [if_neg h]
    exact ⟨by simp, by simp⟩
end
end Go.Proofs.Ytengnnhehjcfhaa.Th
