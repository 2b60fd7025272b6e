/- Plain laws of partitions: lists of intervals that together hold every key. 'lo' and 'hi': how an element's bounds are read. -/
import Derived.Test.YtebgpbcbbjpbfaaThB
import Derived.Test.YtebgpbcbbjpbfaaThL
namespace Go.Proofs.Ytebgpbcbbjpbfaa.Th
open Go Go.RowKit Go.Proofs.YtebgpbcbbjpbfaaW.PrintWords
set_option linter.unusedVariables false
set_option linter.unusedSimpArgs false

theorem joinI_ok (a b c d : ByteArray) : (joinI a b c d).2.2 = true ↔ iv a b = true ∧ iv c d = true ∧ er b ≠ 0 ∧ b = c := by
  unfold joinI
  by_cases h : iv a b = true ∧ iv c d = true ∧ er b ≠ 0 ∧ b = c
  · rw [if_pos h]; exact ⟨fun _ => h, fun _ => rfl⟩
  · rw [if_neg h]; exact ⟨fun e => (by cases e), fun e => absurd e h⟩
theorem all_all {P Q : Nat → Prop} {i n : Nat} (hi : i < n) : (∀ j, i ≤ j → j < n → P j) ↔ P i ∧ (∀ j, i + 1 ≤ j → j < n → P j) := by
  constructor
  · exact fun h => ⟨h i (Nat.le_refl _) hi, fun j h1 h2 => h j (by omega) h2⟩
  · rintro ⟨h1, h2⟩ j h3 h4
    rcases Nat.eq_or_lt_of_le h3 with e | e
    · rw [← e]; exact h1
    · exact h2 j e h4
section
variable {α : Type} (lo hi : α → ByteArray)
/-- the interval before element j joins it -/
def adj (z : α) (l : List α) (j : Nat) : Prop := (joinI (lo (l.getD (j - 1) z)) (hi (l.getD (j - 1) z)) (lo (l.getD j z)) (hi (l.getD j z))).2.2 = true
/-- what is asked of element j -/
def stepI (z : α) (l : List α) (j : Nat) : Prop := iv (lo (l.getD j z)) (hi (l.getD j z)) = true ∧ (0 < j → adj lo hi z l j)
/-- PartitionValid -/
def PtV (z : α) (l : List α) : Prop := (1 ≤ l.length ∧ l.length ≤ 6) ∧ (lo (l.getD 0 z)).toList = [] ∧ (hi (l.getD (l.length - 1) z)).toList = [] ∧ ∀ j, j < l.length → stepI lo hi z l j
open Classical in
/-- PartitionValid, as the code answers it -/
noncomputable def ptv (z : α) (l : List α) : Bool := decide (PtV lo hi z l)
theorem ptv_iff (z : α) (l : List α) : ptv lo hi z l = true ↔ PtV lo hi z l := by simp [ptv]
theorem step_of_adj (z : α) (l : List α) (h0 : iv (lo (l.getD 0 z)) (hi (l.getD 0 z)) = true) (n : Nat) : (∀ j, 1 ≤ j → j < n → adj lo hi z l j) ↔ (0 < n → ∀ j, j < n → stepI lo hi z l j) := by
  constructor
  · intro h hn j hj
    rcases Nat.eq_zero_or_pos j with e | e
    · subst e; exact ⟨h0, fun h => absurd h (Nat.lt_irrefl _)⟩
    · exact ⟨((joinI_ok _ _ _ _).1 (h j e hj)).2.1, fun _ => h j e hj⟩
  · intro h j h1 h2
    exact (h (by omega) j h2).2 h1
/-- the first interval, from place n on, that has the key; -1: none -/
def fi (s : ByteArray) : List α → Nat → Int
  | [], _ => -1
  | a :: l, n => if hasI (lo a) (hi a) s = true then (n : Int) else fi s l (n + 1)
/-- PartitionFind -/
noncomputable def findI (z : α) (l : List α) (s : ByteArray) : Int := if ptv lo hi z l = true then fi lo hi s l 0 else -1
theorem fi_none (s : ByteArray) (h : kv s = false) : ∀ (l : List α) (n : Nat), fi lo hi s l n = -1
  | [], _ => rfl
  | a :: l, n => by
    have e : hasI (lo a) (hi a) s = false := by
      rw [Bool.eq_false_iff]
      intro hh
      have := ((hasI_iff _ _ _).1 hh).2.1
      rw [h] at this; cases this
    rw [fi, e, if_neg (by simp)]
    exact fi_none s h l (n + 1)
/-- PartitionBounds -/
noncomputable def boundsI (z : α) (l : List α) : List ByteArray := if ptv lo hi z l = true then (l.drop 1).map lo else []
theorem boundsI_len (z : α) (l : List α) : (boundsI lo hi z l).length ≤ 6 := by
  unfold boundsI
  by_cases h : ptv lo hi z l = true
  · have := ((ptv_iff _ _ _ _).1 h).1
    rw [if_pos h, List.length_map, List.length_drop]; omega
  · rw [if_neg h]; simp
/-- PartitionMerge -/
noncomputable def mergeI (z : α) (mk : ByteArray → ByteArray → α) (l : List α) (n : Int) : List α × Bool :=
  if ptv lo hi z l = true then (if 0 ≤ n ∧ n ≤ (l.length : Int) - 2 then (l.take n.toNat ++ mk (lo (l.getD n.toNat z)) (hi (l.getD (n.toNat + 1) z)) :: l.drop (n.toNat + 2), true) else (l, false)) else ([], false)
theorem mergeI_len (z : α) (mk : ByteArray → ByteArray → α) (l : List α) (n : Int) : (mergeI lo hi z mk l n).1.length ≤ 6 := by
  unfold mergeI
  by_cases h : ptv lo hi z l = true
  · have := ((ptv_iff _ _ _ _).1 h).1
    rw [if_pos h]
    by_cases f : 0 ≤ n ∧ n ≤ (l.length : Int) - 2
    · rw [if_pos f, List.length_append, List.length_cons, List.length_take, List.length_drop]; omega
    · rw [if_neg f]; exact this.2
  · rw [if_neg h]; simp
theorem join_at (z : α) (l : List α) (h : PtV lo hi z l) (j : Nat) (h1 : j + 1 < l.length) : joinI (lo (l.getD j z)) (hi (l.getD j z)) (lo (l.getD (j + 1) z)) (hi (l.getD (j + 1) z)) = (lo (l.getD j z), hi (l.getD (j + 1) z), true) := by
  have := (joinI_ok _ _ _ _).1 ((h.2.2.2 (j + 1) h1).2 (by omega))
  rw [show j + 1 - 1 = j by omega] at this
  unfold joinI
  rw [if_pos this]
theorem fi_range (s : ByteArray) : ∀ (l : List α) (n : Nat), fi lo hi s l n = -1 ∨ ((n : Int) ≤ fi lo hi s l n ∧ fi lo hi s l n < (n + l.length : Nat))
  | [], n => .inl rfl
  | a :: l, n => by
    rw [fi]
    by_cases c : hasI (lo a) (hi a) s = true
    · rw [if_pos c]; right; rw [List.length_cons]; omega
    · rw [if_neg c]
      rcases fi_range s l (n + 1) with h | h
      · exact .inl h
      · right; rw [List.length_cons]; omega
theorem findI_range (z : α) (l : List α) (s : ByteArray) : findI lo hi z l s = -1 ∨ (ptv lo hi z l = true ∧ 0 ≤ findI lo hi z l s ∧ findI lo hi z l s < l.length) := by
  unfold findI
  by_cases h : ptv lo hi z l = true
  · rw [if_pos h]
    rcases fi_range lo hi s l 0 with e | e
    · exact .inl e
    · right; exact ⟨h, by omega, by omega⟩
  · rw [if_neg h]; exact .inl rfl
/-- PartitionSplit -/
noncomputable def splitI (z : α) (mk : ByteArray → ByteArray → α) (l : List α) (s : ByteArray) : List α × Bool :=
  if findI lo hi z l s < 0 then ([], false) else
    if (cutI (lo (l.getD (findI lo hi z l s).toNat z)) (hi (l.getD (findI lo hi z l s).toNat z)) s).2.2.2.2 = true ∧ l.length < 6 then
      (l.take (findI lo hi z l s).toNat ++ mk (cutI (lo (l.getD (findI lo hi z l s).toNat z)) (hi (l.getD (findI lo hi z l s).toNat z)) s).1 (cutI (lo (l.getD (findI lo hi z l s).toNat z)) (hi (l.getD (findI lo hi z l s).toNat z)) s).2.1 :: mk (cutI (lo (l.getD (findI lo hi z l s).toNat z)) (hi (l.getD (findI lo hi z l s).toNat z)) s).2.2.1 (cutI (lo (l.getD (findI lo hi z l s).toNat z)) (hi (l.getD (findI lo hi z l s).toNat z)) s).2.2.2.1 :: l.drop ((findI lo hi z l s).toNat + 1), true)
    else (l, false)
theorem splitI_len (z : α) (mk : ByteArray → ByteArray → α) (l : List α) (s : ByteArray) : (splitI lo hi z mk l s).1.length ≤ 8 := by
  unfold splitI
  by_cases h : findI lo hi z l s < 0
  · rw [if_pos h]; simp
  · rw [if_neg h]
    rcases findI_range lo hi z l s with e | ⟨e, e1, e2⟩
    · omega
    · have := ((ptv_iff _ _ _ _).1 e).1
      by_cases f : (cutI (lo (l.getD (findI lo hi z l s).toNat z)) (hi (l.getD (findI lo hi z l s).toNat z)) s).2.2.2.2 = true ∧ l.length < 6
      · rw [if_pos f, List.length_append, List.length_cons, List.length_cons, List.length_take, List.length_drop]; omega
      · rw [if_neg f]; simp only; omega
/-- the intervals between bounds, from a lower bound on -/
def parts (mk : ByteArray → ByteArray → α) (p : ByteArray) : List ByteArray → List α
  | [] => [mk p (mkS [])]
  | b :: bs => mk p b :: parts mk b bs
theorem parts_len (mk : ByteArray → ByteArray → α) : ∀ (bs : List ByteArray) (p : ByteArray), (parts mk p bs).length = bs.length + 1
  | [], _ => rfl
  | b :: bs, p => by rw [parts, List.length_cons, parts_len mk bs b, List.length_cons]
theorem parts_snoc (mk : ByteArray → ByteArray → α) (hlo : ∀ a b, lo (mk a b) = a) (z : α) : ∀ (bs : List ByteArray) (p b : ByteArray), parts mk p (bs ++ [b]) = (parts mk p bs).set bs.length (mk (lo ((parts mk p bs).getD bs.length z)) b) ++ [mk b (mkS [])]
  | [], p, b => by simp [parts, hlo]
  | c :: bs, p, b => by
    have ih := parts_snoc mk hlo z bs c b
    rw [List.cons_append, parts, ih, parts, List.length_cons, List.set_cons_succ, List.getD_cons_succ, List.cons_append]
/-- PartitionOf -/
noncomputable def ofI (z : α) (mk : ByteArray → ByteArray → α) (bs : List ByteArray) : List α × Bool := if ptv lo hi z (parts mk (mkS []) bs) = true then (parts mk (mkS []) bs, true) else ([], false)
theorem ofI_len (z : α) (mk : ByteArray → ByteArray → α) (bs : List ByteArray) : (ofI lo hi z mk bs).1.length ≤ 6 := by
  unfold ofI
  by_cases h : ptv lo hi z (parts mk (mkS []) bs) = true
  · rw [if_pos h]; exact ((ptv_iff _ _ _ _).1 h).1.2
  · rw [if_neg h]; simp
theorem ofI_long (z : α) (mk : ByteArray → ByteArray → α) (bs : List ByteArray) (h : 6 ≤ bs.length) : ofI lo hi z mk bs = ([], false) := by
  unfold ofI
  rw [if_neg]
  intro h'
  have := ((ptv_iff _ _ _ _).1 h').1.2
  rw [parts_len] at this
  omega
end
end Go.Proofs.Ytebgpbcbbjpbfaa.Th
