/- Plain laws of two sorted lists of pairs: how many pairs differ. No program in sight. -/
import Derived.Test.YtmbkffpcbknndaaThC
namespace Go.Proofs.Ytmbkffpcbknndaa.Th
open Go Go.RowKit Go.Proofs.YtmbkffpcbknndaaW.PrintWords
set_option linter.unusedVariables false
set_option linter.unusedSimpArgs false

theorem len_split {α : Type} (p q : α → Bool) : ∀ (l : List α), (∀ a ∈ l, p a = !q a) → (l.filter p).length + (l.filter q).length = l.length
  | [], _ => rfl
  | a :: l, h => by
    have ih := len_split p q l (fun b hb => h b (List.mem_cons_of_mem _ hb))
    have ha := h a (List.mem_cons_self ..)
    cases hq : q a with
    | true =>
      rw [hq] at ha
      rw [List.filter_cons_of_neg (by rw [ha]; simp), List.filter_cons_of_pos hq, List.length_cons, List.length_cons]; omega
    | false =>
      rw [hq] at ha
      rw [List.filter_cons_of_pos (by rw [ha]; rfl), List.filter_cons_of_neg (by rw [hq]; simp), List.length_cons, List.length_cons]; omega
theorem sub_len : ∀ (a b : List (List UInt8)), a.Pairwise (· ≠ ·) → (∀ x ∈ a, x ∈ b) → a.length ≤ b.length
  | [], _, _, _ => by simp
  | x :: a, b, h, hs => by
    have h' := List.pairwise_cons.1 h
    have hx := hs x (List.mem_cons_self ..)
    have := sub_len a (b.erase x) h'.2 (fun y hy => (List.mem_erase_of_ne (fun e => h'.1 y hy e.symm)).2 (hs y (List.mem_cons_of_mem _ hy)))
    rw [List.length_erase_of_mem hx] at this
    have hb : 0 < b.length := List.length_pos_of_mem hx
    rw [List.length_cons]; omega
section
variable {α : Type} (key : α → ByteArray) (val : α → Int)
theorem common_le (A B : List α) (ha : Asc key A) (hb : Asc key B) : (A.filter fun a => foundAt key B (key a)).length ≤ (B.filter fun b => foundAt key A (key b)).length := by
  have := sub_len ((A.filter fun a => foundAt key B (key a)).map fun a => (key a).toList) ((B.filter fun b => foundAt key A (key b)).map fun b => (key b).toList) ?_ ?_
  · rwa [List.length_map, List.length_map] at this
  · rw [List.pairwise_map]
    exact (List.Pairwise.filter _ ha).imp (fun h e => by rw [str_ext e] at h; exact lt_irrefl _ h)
  · intro x hx
    obtain ⟨a, hm, rfl⟩ := List.mem_map.1 hx
    obtain ⟨h1, h2⟩ := List.mem_filter.1 hm
    obtain ⟨b, hb1, hb2⟩ := (foundAt_iff key B (key a) hb).1 h2
    rw [← hb2]
    exact List.mem_map.2 ⟨b, List.mem_filter.2 ⟨hb1, (foundAt_iff key A (key b) ha).2 ⟨a, h1, hb2.symm⟩⟩, rfl⟩
theorem common_eq (A B : List α) (ha : Asc key A) (hb : Asc key B) : (A.filter fun a => foundAt key B (key a)).length = (B.filter fun b => foundAt key A (key b)).length :=
  Nat.le_antisymm (common_le key A B ha hb) (common_le key B A hb ha)
/-- how many pairs the one has and the other has not -/
noncomputable def chgN (A B : List α) : Nat := (A.filter fun a => !decide (getP key val B (key a) = val a)).length + (B.filter fun b => decide (getP key val A (key b) < 0)).length
/-- PairChanges -/
noncomputable def chgP (A B : List α) : Int := if pv key val A = true ∧ pv key val B = true then (chgN key val A B : Nat) else -1
/-- what overlaps -/
def ovl (z : α) (B : List α) : List α → Nat
  | [] => 0
  | a :: l => (if foundAt key B (key a) = true then (if val (B.getD (place key B (key a)) z) = val a then 2 else 1) else 0) + ovl z B l
theorem ovl_le (z : α) (B : List α) : ∀ l, ovl key val z B l ≤ 2 * l.length
  | [] => by simp [ovl]
  | a :: l => by
    have := ovl_le z B l
    rw [ovl, List.length_cons]
    split <;> try split
    all_goals omega
theorem ovl_split (z : α) (B : List α) : ∀ l, ovl key val z B l = (l.filter fun a => foundAt key B (key a)).length + (l.filter fun a => foundAt key B (key a) && decide (val (B.getD (place key B (key a)) z) = val a)).length
  | [] => rfl
  | a :: l => by
    rw [ovl, ovl_split z B l]
    by_cases h : foundAt key B (key a) = true
    · by_cases c : val (B.getD (place key B (key a)) z) = val a
      · rw [if_pos h, if_pos c, List.filter_cons_of_pos (p := fun a => foundAt key B (key a)) h, List.filter_cons_of_pos (p := fun a => foundAt key B (key a) && decide (val (B.getD (place key B (key a)) z) = val a)) (by rw [h, decide_eq_true c]; rfl), List.length_cons, List.length_cons]; omega
      · rw [if_pos h, if_neg c, List.filter_cons_of_pos (p := fun a => foundAt key B (key a)) h, List.filter_cons_of_neg (p := fun a => foundAt key B (key a) && decide (val (B.getD (place key B (key a)) z) = val a)) (by rw [h, decide_eq_false c]; simp), List.length_cons]; omega
    · rw [if_neg h, List.filter_cons_of_neg (p := fun a => foundAt key B (key a)) h, List.filter_cons_of_neg (p := fun a => foundAt key B (key a) && decide (val (B.getD (place key B (key a)) z) = val a)) (by simp [h])]; omega
theorem ovl_chg (z : α) (A B : List α) (ha : PV key val A) (hb : PV key val B) : ovl key val z B A + chgN key val A B = A.length + B.length := by
  have hA := (pv_iff key val A).2 ha
  have hB := (pv_iff key val B).2 hb
  have e1 := len_split (fun a => !decide (getP key val B (key a) = val a)) (fun a => foundAt key B (key a) && decide (val (B.getD (place key B (key a)) z) = val a)) A (fun a hm => by
    congr 1
    rw [getP_getD key val z B _ hB]
    have hv := (ha.2.1 a hm).2.1
    cases h : foundAt key B (key a) with
    | true => rw [if_pos rfl, Bool.true_and]
    | false => rw [if_neg (by simp), Bool.false_and, decide_eq_false (by omega)])
  have e2 := len_split (fun b => decide (getP key val A (key b) < 0)) (fun b => foundAt key A (key b)) B (fun b hm => by
    cases h : foundAt key A (key b) with
    | true =>
      obtain ⟨p, hp, he⟩ := (foundAt_iff key A (key b) ha.2.2).1 h
      have hv := (ha.2.1 p hp).2.1
      rw [← he, getP_mem key val A ha hp, decide_eq_false (by omega)]; rfl
    | false =>
      rw [getP_getD key val z A _ hA, h, if_neg (by simp)]; rfl)
  have e3 := ovl_split key val z B A
  have e4 := common_eq key A B ha.2.2 hb.2.2
  unfold chgN
  omega
theorem asc_ext : ∀ (A B : List α), Asc key A → Asc key B → (∀ x, x ∈ A ↔ x ∈ B) → A = B
  | [], [], _, _, _ => rfl
  | [], b :: B, _, _, h => absurd ((h b).2 (List.mem_cons_self ..)) (by simp)
  | a :: A, [], _, _, h => absurd ((h a).1 (List.mem_cons_self ..)) (by simp)
  | a :: A, b :: B, ha, hb, h => by
    obtain ⟨ha1, ha2⟩ := List.pairwise_cons.1 ha
    obtain ⟨hb1, hb2⟩ := List.pairwise_cons.1 hb
    have e : a = b := by
      rcases List.mem_cons.1 ((h a).1 (List.mem_cons_self ..)) with e | h1
      · exact e
      · rcases List.mem_cons.1 ((h b).2 (List.mem_cons_self ..)) with e | h2
        · exact e.symm
        · exact absurd (hb1 a h1) (lt_asymm (ha1 b h2))
    subst e
    rw [asc_ext A B ha2 hb2 (fun x => ⟨fun hx => ?_, fun hx => ?_⟩)]
    · rcases List.mem_cons.1 ((h x).1 (List.mem_cons_of_mem _ hx)) with e | h1
      · have := ha1 x hx; rw [e] at this; exact absurd this (lt_irrefl _)
      · exact h1
    · rcases List.mem_cons.1 ((h x).2 (List.mem_cons_of_mem _ hx)) with e | h1
      · have := hb1 x hx; rw [e] at this; exact absurd this (lt_irrefl _)
      · exact h1
theorem same_iff (z : α) (B : List α) (hb : PV key val B) (a : α) : (foundAt key B (key a) && decide (val (B.getD (place key B (key a)) z) = val a)) = true ↔ ∃ b ∈ B, key b = key a ∧ val b = val a := by
  rw [Bool.and_eq_true, decide_eq_true_eq, foundAt_iff key B (key a) hb.2.2]
  constructor
  · rintro ⟨⟨b, hb1, hb2⟩, h⟩
    have := (place_of_mem key z B hb.2.2 hb1).2
    rw [hb2] at this
    rw [this] at h
    exact ⟨b, hb1, hb2, h⟩
  · rintro ⟨b, hb1, hb2, h⟩
    have := (place_of_mem key z B hb.2.2 hb1).2
    rw [hb2] at this
    exact ⟨⟨b, hb1, hb2⟩, by rw [this]; exact h⟩
theorem same_le (z : α) (A B : List α) (ha : PV key val A) (hb : PV key val B) : (A.filter fun a => foundAt key B (key a) && decide (val (B.getD (place key B (key a)) z) = val a)).length ≤ (B.filter fun b => foundAt key A (key b) && decide (val (A.getD (place key A (key b)) z) = val b)).length := by
  have := sub_len ((A.filter fun a => foundAt key B (key a) && decide (val (B.getD (place key B (key a)) z) = val a)).map fun a => (key a).toList) ((B.filter fun b => foundAt key A (key b) && decide (val (A.getD (place key A (key b)) z) = val b)).map fun b => (key b).toList) ?_ ?_
  · rwa [List.length_map, List.length_map] at this
  · rw [List.pairwise_map]
    exact (List.Pairwise.filter _ ha.2.2).imp (fun h e => by rw [str_ext e] at h; exact lt_irrefl _ h)
  · intro x hx
    obtain ⟨a, hm, rfl⟩ := List.mem_map.1 hx
    obtain ⟨h1, h2⟩ := List.mem_filter.1 hm
    obtain ⟨b, hb1, hb2, hb3⟩ := (same_iff key val z B hb a).1 h2
    rw [← hb2]
    exact List.mem_map.2 ⟨b, List.mem_filter.2 ⟨hb1, (same_iff key val z A ha b).2 ⟨a, h1, hb2.symm, hb3.symm⟩⟩, rfl⟩
theorem chgN_comm (A B : List α) (ha : PV key val A) (hb : PV key val B) : chgN key val A B = chgN key val B A := by
  cases A with
  | nil =>
    cases B with
    | nil => rfl
    | cons z B =>
      have h1 := ovl_chg key val z [] (z :: B) ha hb
      have h2 := ovl_chg key val z (z :: B) [] hb ha
      have h3 := ovl_split key val z (z :: B) []
      have h4 := ovl_split key val z [] (z :: B)
      have h5 := common_eq key [] (z :: B) ha.2.2 hb.2.2
      have h6 := same_le key val z [] (z :: B) ha hb
      have h7 := same_le key val z (z :: B) [] hb ha
      omega
  | cons z A =>
    have h1 := ovl_chg key val z (z :: A) B ha hb
    have h2 := ovl_chg key val z B (z :: A) hb ha
    have h3 := ovl_split key val z B (z :: A)
    have h4 := ovl_split key val z (z :: A) B
    have h5 := common_eq key (z :: A) B ha.2.2 hb.2.2
    have h6 := same_le key val z (z :: A) B ha hb
    have h7 := same_le key val z B (z :: A) hb ha
    omega
theorem chgP_comm (A B : List α) : chgP key val A B = chgP key val B A := by
  unfold chgP
  by_cases c : pv key val A = true ∧ pv key val B = true
  · rw [if_pos c, if_pos ⟨c.2, c.1⟩, chgN_comm key val A B ((pv_iff _ _ _).1 c.1) ((pv_iff _ _ _).1 c.2)]
  · rw [if_neg c, if_neg (fun h => c ⟨h.2, h.1⟩)]
theorem chgN_self (A : List α) (ha : PV key val A) : chgN key val A A = 0 := by
  unfold chgN
  have f1 : (A.filter fun a => !decide (getP key val A (key a) = val a)) = [] := List.filter_eq_nil_iff.2 (fun a h => by
    rw [getP_mem key val A ha h]; simp)
  have f2 : (A.filter fun b => decide (getP key val A (key b) < 0)) = [] := List.filter_eq_nil_iff.2 (fun a h => by
    rw [getP_mem key val A ha h, decide_eq_false (by have := (ha.2.1 a h).2.1; omega)]; simp)
  rw [f1, f2]
  rfl
theorem chgN_nil (A : List α) (ha : PV key val A) : chgN key val A [] = A.length := by
  unfold chgN
  have f1 : (A.filter fun a => !decide (getP key val [] (key a) = val a)) = A := List.filter_eq_self.2 (fun a h => by
    rw [getP_none key val [] _ (pv_nil key val) (by simp), decide_eq_false (by have := (ha.2.1 a h).2.1; omega)]; rfl)
  rw [f1]
  rfl
theorem getP_some (B : List α) (s : ByteArray) (hb : PV key val B) (h : 0 ≤ getP key val B s) : ∃ b ∈ B, key b = s ∧ val b = getP key val B s := by
  by_cases c : ∃ b ∈ B, key b = s
  · obtain ⟨b, h1, rfl⟩ := c
    exact ⟨b, h1, rfl, (getP_mem key val B hb h1).symm⟩
  · rw [getP_none key val B s hb (fun b hb' e => c ⟨b, hb', e⟩)] at h
    omega
theorem chgN_zero (mk : ByteArray → Int → α) (he : ∀ p, mk (key p) (val p) = p) (A B : List α) (ha : PV key val A) (hb : PV key val B) (h : chgN key val A B = 0) : A = B := by
  have up : ∀ A B : List α, PV key val A → PV key val B → chgN key val A B = 0 → ∀ x ∈ A, x ∈ B := by
    intro A B ha hb h x hx
    unfold chgN at h
    have h1 : (A.filter fun a => !decide (getP key val B (key a) = val a)) = [] := List.eq_nil_of_length_eq_zero (by omega)
    have h2 := List.filter_eq_nil_iff.1 h1 x hx
    have h3 : getP key val B (key x) = val x := by simpa using h2
    obtain ⟨b, g1, g2, g3⟩ := getP_some key val B (key x) hb (by rw [h3]; exact (ha.2.1 x hx).2.1)
    have : x = b := by rw [← he x, ← he b, g2, g3, h3]
    rw [this]; exact g1
  exact asc_ext key A B ha.2.2 hb.2.2 (fun x => ⟨up A B ha hb h x, up B A hb ha (by rw [← chgN_comm key val A B ha hb]; exact h) x⟩)
end
end Go.Proofs.Ytmbkffpcbknndaa.Th
