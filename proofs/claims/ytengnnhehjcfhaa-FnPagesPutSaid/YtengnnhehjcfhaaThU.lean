-- Cut by a program of this session (wip/prune.py) from words that the kit's print.sh printed: what nothing of this seat uses is left out.
/- Plain laws of pages into which a pair is put: what the functions answer, and how large that is. -/
import Derived.Test.YtengnnhehjcfhaaThQ
namespace Go.Proofs.Ytengnnhehjcfhaa.Th
open Go Go.RowKit Go.Proofs.YtengnnhehjcfhaaW.PrintWords
set_option linter.unusedVariables false
set_option linter.unusedSimpArgs false
section
variable {α β : Type} (key : α → ByteArray) (val : α → Int) (ps : β → List α) (mk : ByteArray → Int → α) (mkp : List α → β)
def small (l : List β) : Prop := l.length ≤ 60 ∧ ∀ p ∈ l, (ps p).length ≤ 100
def splitPg (l : List β) (q : Nat) (x : List α) : List β := if x.length ≤ 4 then l.set q (mkp x) else l.take q ++ [mkp (x.take 2), mkp (x.drop 2)] ++ l.drop (q + 1)
noncomputable def putPg (zp : α) (z : β) (l : List β) (s : ByteArray) (v : Int) : List β × Bool :=
  if pgv key val ps l = true ∧ kv s = true ∧ (0 ≤ v ∧ v ≤ 999) then
    (if l = [] then ([mkp [mk s v]], true)
     else if (putP key val mk (cat ps l) s v).2 = true then (splitPg mkp l (lastPg key ps zp s l 0 0) (putP key val mk (ps (l.getD (lastPg key ps zp s l 0 0) z)) s v).1, true) else (l, false))
  else ([], false)
theorem putP_len1 (l : List α) (s : ByteArray) (v : Int) : (putP key val mk l s v).1.length ≤ l.length + 1 := by
  unfold putP
  by_cases h : pv key val l = true ∧ kv s = true ∧ (0 ≤ v ∧ v ≤ 999)
  · rw [if_pos h]
    by_cases f : foundAt key l s = true
    · rw [if_pos f, List.length_append, List.length_cons, List.length_take, List.length_drop]; omega
    · rw [if_neg f]
      by_cases g : 48 ≤ l.length
      · rw [if_pos g]; simp only; omega
      · rw [if_neg g, List.length_append, List.length_cons, List.length_take, List.length_drop]; omega
  · rw [if_neg h]; simp
theorem putP_room (l : List α) (s : ByteArray) (v : Int) (h : PV key val l) (hs : kv s = true) (hv : 0 ≤ v ∧ v ≤ 999) : (putP key val mk l s v).2 = (foundAt key l s || decide (l.length < 48)) := by
  unfold putP
  rw [if_pos ⟨(pv_iff _ _ _).2 h, hs, hv⟩]
  cases f : foundAt key l s with
  | true => rfl
  | false =>
    by_cases g : 48 ≤ l.length
    · rw [if_neg (by simp), if_pos g, decide_eq_false (by omega)]; rfl
    · rw [if_neg (by simp), if_neg g, decide_eq_true (by omega)]; rfl
theorem found_get (zp : α) (l : List α) (s : ByteArray) (h : PV key val l) : foundAt key l s = decide (0 ≤ getP key val l s) := by
  apply bool_eq
  rw [decide_eq_true_eq, getP_getD key val zp l s ((pv_iff _ _ _).2 h)]
  by_cases f : foundAt key l s = true
  · rw [if_pos f]
    refine ⟨fun _ => ?_, fun _ => f⟩
    have g := foundAt_getD key zp l s
    rw [f] at g
    have g1 := g.symm
    simp only [Bool.and_eq_true, decide_eq_true_eq] at g1
    exact (h.2.1 _ (getD_mem zp l _ g1.1)).2.1
  · rw [if_neg f]
    exact ⟨fun h => absurd h f, fun h => by omega⟩
theorem lastPg_in (zp : α) (s : ByteArray) (l : List β) (hn : l ≠ []) : lastPg key ps zp s l 0 0 < l.length := by
  have := List.length_pos_iff.2 hn
  rcases lastPg_lt key ps zp s l 0 0 with h | h <;> omega
theorem found_page (zp : α) (z : β) (l : List β) (s : ByteArray) (h : PgV key val ps l) (hs : kv s = true) (hn : l ≠ []) : foundAt key (ps (l.getD (lastPg key ps zp s l 0 0) z)) s = foundAt key (cat ps l) s := by
  rw [found_get key val zp _ s (page_asc key val ps z l h.2 _ (lastPg_in key ps zp s l hn)), found_get key val zp _ s h.2, find_get key val ps zp z l s h hs hn]
variable (hmk : ∀ l, ps (mkp l) = l)
include hmk in
theorem splitPg_small (l : List β) (q : Nat) (x : List α) (h : PgV key val ps l) (hq : q < l.length) (hx : x.length ≤ 50) : small ps (splitPg mkp l q x) := by
  have h1 := pgv_len key val ps l h
  have h2 : ∀ p ∈ l, (ps p).length ≤ 4 := fun p hp => (h.1 p hp).1
  unfold splitPg
  by_cases c : x.length ≤ 4
  · rw [if_pos c]
    refine ⟨by rw [List.length_set]; omega, fun p hp => ?_⟩
    rcases List.mem_or_eq_of_mem_set hp with hp | hp
    · have := h2 p hp; omega
    · rw [hp, hmk]; omega
  · rw [if_neg c]
    refine ⟨by simp only [List.length_append, List.length_take, List.length_drop, List.length_cons, List.length_nil]; omega, fun p hp => ?_⟩
    simp only [List.mem_append, List.mem_cons, List.not_mem_nil, or_false] at hp
    rcases hp with (hp | hp | hp) | hp
    · have := h2 p (List.mem_of_mem_take hp); omega
    · rw [hp, hmk, List.length_take]; omega
    · rw [hp, hmk, List.length_drop]; omega
    · have := h2 p (List.mem_of_mem_drop hp); omega
include hmk in
theorem putPg_small (zp : α) (z : β) (l : List β) (s : ByteArray) (v : Int) : small ps (putPg key val ps mk mkp zp z l s v).1 := by
  unfold putPg
  by_cases h : pgv key val ps l = true ∧ kv s = true ∧ (0 ≤ v ∧ v ≤ 999)
  · have hP := (pgv_iff _ _ _ _).1 h.1
    rw [if_pos h]
    by_cases c : l = []
    · rw [if_pos c]
      exact ⟨by simp, fun p hp => by rw [List.mem_singleton.1 hp, hmk]; simp⟩
    · rw [if_neg c]
      by_cases d : (putP key val mk (cat ps l) s v).2 = true
      · rw [if_pos d]
        exact splitPg_small key val ps mkp hmk l _ _ hP (lastPg_in key ps zp s l c) (putP_len _ _ _ _ _ _)
      · rw [if_neg d]
        have := pgv_len key val ps l hP
        exact ⟨by show l.length ≤ 60; omega, fun p hp => by have := (hP.1 p hp).1; omega⟩
  · rw [if_neg h]
    exact ⟨by simp, by simp⟩
end
end Go.Proofs.Ytengnnhehjcfhaa.Th
