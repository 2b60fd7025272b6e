/- The plain law of FnExactKeyOrder: what the printed functions compute, and that it answers true: for every input that the statement lets in. -/
import Derived.Test.YtdceajeldlnkkaaPFnExactKeyOrderx
import Derived.Test.YtdceajeldlnkkaaThA
namespace Go.Proofs.Ytdceajeldlnkkaa.Pure
open Go Go.RowKit Go.Proofs.Ytdceajeldlnkkaa.PFnExactKeyOrder Go.Proofs.YtdceajeldlnkkaaW.PrintWords Go.Proofs.YtdceajeldlnkkaaW.PrintLast Go.Proofs.Ytdceajeldlnkkaa
set_option linter.unusedVariables false
set_option linter.unusedSimpArgs false
set_option maxRecDepth 10000
theorem spec_l1In_eq (a b c : Int) : spec_l1In.f a b c = some (decide (b ≤ a) && decide (a ≤ c)) := by
  unfold spec_l1In.f
  by_cases h : a ≥ b
  · rw [if_pos h, decide_eq_true (show b ≤ a from h), Bool.true_and]
  · rw [if_neg h, decide_eq_false (show ¬ b ≤ a from h), Bool.false_and]
theorem spec_KeyValid_l0 (l : List UInt8) (hl : l.length ≤ 4) : ∀ (d i k : Nat), i + d = l.length → d < k → spec_KeyValid.l0 k (Th.mkS l) (i : Int) = some ((l.drop i).all Th.letter)
  | _, _, 0, _, h => by omega
  | 0, i, k + 1, h, _ => by
    rw [spec_KeyValid.l0, if_neg (by rw [Th.size_mkS]; omega), List.drop_of_length_le (by omega)]; rfl
  | d + 1, i, k + 1, h, hk => by
    have ih := spec_KeyValid_l0 l hl d (i + 1) k (by omega) (by omega)
    have hi : i < l.length := by omega
    rw [spec_KeyValid.l0, if_pos (by rw [Th.size_mkS]; omega), if_pos (by omega), Th.bt_mkS l i hi, Th.wrap_small (by omega) (by omega), show ((i : Int) + 1) = ((i + 1 : Nat) : Int) by omega, ih, List.drop_eq_getElem_cons hi, List.all_cons]
    simp only [Th.letter]
    by_cases h1 : ((l[i]'hi).toNat : Int) < 97
    · rw [if_pos h1, decide_eq_false (show ¬ 97 ≤ ((l[i]'hi).toNat : Int) by omega)]; rfl
    · rw [if_neg h1, decide_eq_true (show 97 ≤ ((l[i]'hi).toNat : Int) by omega)]
      by_cases h2 : ((l[i]'hi).toNat : Int) > 122
      · rw [if_pos h2, decide_eq_false (show ¬ ((l[i]'hi).toNat : Int) ≤ 122 by omega)]; rfl
      · rw [if_neg h2, decide_eq_true (show ((l[i]'hi).toNat : Int) ≤ 122 by omega)]; rfl
theorem spec_KeyValid_eq (s : ByteArray) (k : Nat) (hk : 1000 ≤ k) : spec_KeyValid.f k s = some (Th.kv s) := by
  obtain ⟨l, rfl⟩ := Th.mkS_surj s
  unfold spec_KeyValid.f Th.kv Th.kvL
  rw [spec_l1In_eq, Th.toList_mkS, Th.size_mkS, Option.bind_some]
  by_cases h : 1 ≤ l.length ∧ l.length ≤ 4
  · have h0 := spec_KeyValid_l0 l h.2 l.length 0 k (by omega) (by omega)
    rw [show ((0 : Nat) : Int) = 0 from rfl] at h0
    rw [decide_eq_true (show (1 : Int) ≤ (l.length : Int) by omega), decide_eq_true (show (l.length : Int) ≤ 4 by omega), decide_eq_true h.1, decide_eq_true h.2, h0]
    rfl
  · by_cases h1 : 1 ≤ l.length
    · rw [decide_eq_false (show ¬ (l.length : Int) ≤ 4 by omega), decide_eq_false (show ¬ l.length ≤ 4 by omega)]; simp
    · rw [decide_eq_false (show ¬ (1 : Int) ≤ (l.length : Int) by omega), decide_eq_false h1]; simp
theorem spec_KeyOrder_eq (a b : ByteArray) (k : Nat) (hk : 1000 ≤ k) : spec_KeyOrder.f k a b = some (Th.kord a b) := by
  obtain ⟨k, rfl⟩ : ∃ m, k = m + 1 := ⟨k - 1, by omega⟩
  unfold spec_KeyOrder.f Th.kord
  simp only [spec_KeyValid_eq _ (k + 1) hk, Option.bind_some, spec_KeyOrder.j0]
  have e : Op.bytesLess a.toList b.toList = false → (if a.toList = b.toList then (some (0 : Int)) else (some 1)) = some (if Th.lt b a then 1 else 0) := by
    intro h
    by_cases e : a.toList = b.toList
    · rw [if_pos e, if_neg]; rw [Th.lt, e, Th.bl_irrefl]; simp
    · rw [if_neg e, if_pos]
      rcases Classical.em (Th.lt b a) with h2 | h2
      · exact h2
      · exact absurd (Th.bl_total _ _ h (by simpa [Th.lt] using h2)) e
  cases Th.kv a <;> cases Th.kv b <;> simp only [Bool.not_true, Bool.not_false, if_true, Bool.false_eq_true, if_false, and_true, and_false, and_self]
  by_cases h : Op.bytesLess a.toList b.toList = true
  · rw [if_pos h, if_pos (show Th.lt a b from h)]
  · rw [if_neg h, if_neg (show ¬ Th.lt a b from h), e (by simpa using h)]
theorem impl_lettersOnly_eq : ∀ (l : List UInt8) (k : Nat), l.length < k → impl_lettersOnly.f k (Th.mkS l) = some (l.all Th.letter)
  | _, 0, h => by omega
  | [], k + 1, _ => by
    rw [impl_lettersOnly.f, if_pos (Th.toList_mkS [])]
    rfl
  | c :: l, k + 1, h => by
    have ih := impl_lettersOnly_eq l k (by simpa using h)
    have hs : (0 : Int) < ((Th.mkS (c :: l)).size : Int) := by rw [Th.size_mkS, List.length_cons]; omega
    have hx : (Th.mkS (c :: l)).extract 1 (Th.mkS (c :: l)).size = Th.mkS l := by rw [Th.extract_mkS, Th.size_mkS, List.take_length]; rfl
    have hs1 : (1 : Int) ≤ ((Th.mkS (c :: l)).size : Int) := by omega
    rw [impl_lettersOnly.f, if_neg (by rw [Th.toList_mkS]; simp), if_pos hs, if_pos hs1, hx, ih, Th.bt_zero]
    simp only [Option.bind_some, List.all_cons, Th.letter]
    by_cases h1 : (c.toNat : Int) ≥ 97
    · rw [if_pos h1, decide_eq_true (show 97 ≤ (c.toNat : Int) from h1)]
      by_cases h2 : (c.toNat : Int) ≤ 122
      · rw [if_pos h2, decide_eq_true h2]; rfl
      · rw [if_neg h2, decide_eq_false h2]; rfl
    · rw [if_neg h1, decide_eq_false (show ¬ 97 ≤ (c.toNat : Int) from h1)]; rfl
theorem impl_KeyValid_eq (s : ByteArray) (k : Nat) (hk : 1000 ≤ k) : impl_KeyValid.f k s = some (Th.kv s) := by
  obtain ⟨l, rfl⟩ := Th.mkS_surj s
  unfold impl_KeyValid.f Th.kv Th.kvL
  rw [Th.toList_mkS, Th.size_mkS]
  by_cases h1 : (l.length : Int) < 1
  · rw [if_pos h1, decide_eq_false (show ¬ 1 ≤ l.length by omega)]; rfl
  · rw [if_neg h1, decide_eq_true (show 1 ≤ l.length by omega)]
    by_cases h2 : (l.length : Int) > 4
    · rw [if_pos h2, decide_eq_false (show ¬ l.length ≤ 4 by omega)]; rfl
    · rw [if_neg h2, decide_eq_true (show l.length ≤ 4 by omega), impl_lettersOnly_eq l k (by omega)]; rfl
theorem strings_Compare_eq (a b : ByteArray) : strings_Compare.f a b = some (if Th.lt a b then -1 else if Th.lt b a then 1 else 0) := by
  unfold strings_Compare.f
  rw [Th.compare_eq, ← Lib.toList_data, ← Lib.toList_data]
theorem impl_KeyOrder_eq (a b : ByteArray) (k : Nat) (hk : 1000 ≤ k) : impl_KeyOrder.f k a b = some (Th.kord a b) := by
  unfold impl_KeyOrder.f Th.kord
  simp only [impl_KeyValid_eq _ k hk, Option.bind_some, strings_Compare_eq]
  cases Th.kv a <;> cases Th.kv b <;> simp
theorem FnExactKeyOrder : laws_FnExactKeyOrder.Pure := by
  intro a b _ _
  refine ⟨1000, ?_⟩
  unfold laws_FnExactKeyOrder.f
  rw [spec_KeyOrder_eq a b _ (Nat.le_refl _), impl_KeyOrder_eq a b _ (Nat.le_refl _)]
  simp

end Go.Proofs.Ytdceajeldlnkkaa.Pure
