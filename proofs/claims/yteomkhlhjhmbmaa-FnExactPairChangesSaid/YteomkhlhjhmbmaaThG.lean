/- Plain laws of two sorted lists of pairs: how many pairs differ. No program in sight. -/
import Derived.Test.YteomkhlhjhmbmaaThC
namespace Go.Proofs.Yteomkhlhjhmbmaa.Th
open Go Go.RowKit Go.Proofs.YteomkhlhjhmbmaaW.PrintWords
set_option linter.unusedVariables false
set_option linter.unusedSimpArgs false

theorem len_split {α : Type} (p q : α → Bool) : ∀ (l : List α), (∀ a ∈ l, p a = !q a) → (l.filter p).length + (l.filter q).length = l.length
  | [], _ => rfl
  | a :: l, h => by
    have ih := len_split p q l (fun b hb => h b (List.mem_cons_of_mem _ hb))
    have ha := h a (List.mem_cons_self ..)
    cases hq : q a with
    | true =>
      rw [hq] at ha
      rw [List.filter_cons_of_neg (by rw [ha]; simp), List.filter_cons_of_pos hq, List.length_cons, List.length_cons]; omega
    | false =>
      rw [hq] at ha
      rw [List.filter_cons_of_pos (by rw [ha]; rfl), List.filter_cons_of_neg (by rw [hq]; simp), List.length_cons, List.length_cons]; omega
theorem sub_len : ∀ (a b : List (List UInt8)), a.Pairwise (· ≠ ·) → (∀ x ∈ a, x ∈ b) → a.length ≤ b.length
  | [], _, _, _ => by simp
  | x :: a, b, h, hs => by
    have h' := List.pairwise_cons.1 h
    have hx := hs x (List.mem_cons_self ..)
    have := sub_len a (b.erase x) h'.2 (fun y hy => (List.mem_erase_of_ne (fun e => h'.1 y hy e.symm)).2 (hs y (List.mem_cons_of_mem _ hy)))
    rw [List.length_erase_of_mem hx] at this
    have hb : 0 < b.length := List.length_pos_of_mem hx
    rw [List.length_cons]; omega
section
variable {α : Type} (key : α → ByteArray) (val : α → Int)
theorem common_le (A B : List α) (ha : Asc key A) (hb : Asc key B) : (A.filter fun a => foundAt key B (key a)).length ≤ (B.filter fun b => foundAt key A (key b)).length := by
  have := sub_len ((A.filter fun a => foundAt key B (key a)).map fun a => (key a).toList) ((B.filter fun b => foundAt key A (key b)).map fun b => (key b).toList) ?_ ?_
  · rwa [List.length_map, List.length_map] at this
  · rw [List.pairwise_map]
    exact (List.Pairwise.filter _ ha).imp (fun h e => by rw [str_ext e] at h; exact lt_irrefl _ h)
  · intro x hx
    obtain ⟨a, hm, rfl⟩ := List.mem_map.1 hx
    obtain ⟨h1, h2⟩ := List.mem_filter.1 hm
    obtain ⟨b, hb1, hb2⟩ := (foundAt_iff key B (key a) hb).1 h2
    rw [← hb2]
    exact List.mem_map.2 ⟨b, List.mem_filter.2 ⟨hb1, (foundAt_iff key A (key b) ha).2 ⟨a, h1, hb2.symm⟩⟩, rfl⟩
theorem common_eq (A B : List α) (ha : Asc key A) (hb : Asc key B) : (A.filter fun a => foundAt key B (key a)).length = (B.filter fun b => foundAt key A (key b)).length :=
  Nat.le_antisymm (common_le key A B ha hb) (common_le key B A hb ha)
/-- how many pairs the one has and the other has not -/
noncomputable def chgN (A B : List α) : Nat := (A.filter fun a => !decide (getP key val B (key a) = val a)).length + (B.filter fun b => decide (getP key val A (key b) < 0)).length
/-- PairChanges -/
noncomputable def chgP (A B : List α) : Int := if pv key val A = true ∧ pv key val B = true then (chgN key val A B : Nat) else -1
/-- what overlaps -/
def ovl (z : α) (B : List α) : List α → Nat
  | [] => 0
  | a :: l => (if foundAt key B (key a) = true then (if val (B.getD (place key B (key a)) z) = val a then 2 else 1) else 0) + ovl z B l
theorem ovl_le (z : α) (B : List α) : ∀ l, ovl key val z B l ≤ 2 * l.length
  | [] => by simp [ovl]
  | a :: l => by
    have := ovl_le z B l
    rw [ovl, List.length_cons]
    split <;> try split
    all_goals omega
theorem ovl_split (z : α) (B : List α) : ∀ l, ovl key val z B l = (l.filter fun a => foundAt key B (key a)).length + (l.filter fun a => foundAt key B (key a) && decide (val (B.getD (place key B (key a)) z) = val a)).length
  | [] => rfl
  | a :: l => by
    rw [ovl, ovl_split z B l]
    by_cases h : foundAt key B (key a) = true
    · by_cases c : val (B.getD (place key B (key a)) z) = val a
      · rw [if_pos h, if_pos c, List.filter_cons_of_pos (p := fun a => foundAt key B (key a)) h, List.filter_cons_of_pos (p := fun a => foundAt key B (key a) && decide (val (B.getD (place key B (key a)) z) = val a)) (by rw [h, decide_eq_true c]; rfl), List.length_cons, List.length_cons]; omega
      · rw [if_pos h, if_neg c, List.filter_cons_of_pos (p := fun a => foundAt key B (key a)) h, List.filter_cons_of_neg (p := fun a => foundAt key B (key a) && decide (val (B.getD (place key B (key a)) z) = val a)) (by rw [h, decide_eq_false c]; simp), List.length_cons]; omega
    · rw [if_neg h, List.filter_cons_of_neg (p := fun a => foundAt key B (key a)) h, List.filter_cons_of_neg (p := fun a => foundAt key B (key a) && decide (val (B.getD (place key B (key a)) z) = val a)) (by simp [h])]; omega
theorem ovl_chg (z : α) (A B : List α) (ha : PV key val A) (hb : PV key val B) : ovl key val z B A + chgN key val A B = A.length + B.length := by
  have hA := (pv_iff key val A).2 ha
  have hB := (pv_iff key val B).2 hb
  have e1 := len_split (fun a => !decide (getP key val B (key a) = val a)) (fun a => foundAt key B (key a) && decide (val (B.getD (place key B (key a)) z) = val a)) A (fun a hm => by
    congr 1
    rw [getP_getD key val z B _ hB]
    have hv := (ha.2.1 a hm).2.1
    cases h : foundAt key B (key a) with
    | true => rw [if_pos rfl, Bool.true_and]
    | false => rw [if_neg (by simp), Bool.false_and, decide_eq_false (by omega)])
  have e2 := len_split (fun b => decide (getP key val A (key b) < 0)) (fun b => foundAt key A (key b)) B (fun b hm => by
    cases h : foundAt key A (key b) with
    | true =>
      obtain ⟨p, hp, he⟩ := (foundAt_iff key A (key b) ha.2.2).1 h
      have hv := (ha.2.1 p hp).2.1
      rw [← he, getP_mem key val A ha hp, decide_eq_false (by omega)]; rfl
    | false =>
      rw [getP_getD key val z A _ hA, h, if_neg (by simp)]; rfl)
  have e3 := ovl_split key val z B A
  have e4 := common_eq key A B ha.2.2 hb.2.2
  unfold chgN
  omega
end
end Go.Proofs.Yteomkhlhjhmbmaa.Th
