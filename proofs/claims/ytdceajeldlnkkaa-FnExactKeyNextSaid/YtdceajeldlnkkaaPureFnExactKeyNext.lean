/- The plain law of FnExactKeyNext: what the printed functions compute, and that it answers true: for every input that the statement lets in. -/
import Derived.Test.YtdceajeldlnkkaaPFnExactKeyNextx
import Derived.Test.YtdceajeldlnkkaaThA
namespace Go.Proofs.Ytdceajeldlnkkaa.Pure
open Go Go.RowKit Go.Proofs.Ytdceajeldlnkkaa.PFnExactKeyNext Go.Proofs.YtdceajeldlnkkaaW.PrintWords Go.Proofs.YtdceajeldlnkkaaW.PrintLast Go.Proofs.Ytdceajeldlnkkaa
set_option linter.unusedVariables false
set_option linter.unusedSimpArgs false
set_option maxRecDepth 10000
theorem spec_l1In_eq (a b c : Int) : spec_l1In.f a b c = some (decide (b ≤ a) && decide (a ≤ c)) := by
  unfold spec_l1In.f
  by_cases h : a ≥ b
  · rw [if_pos h, decide_eq_true (show b ≤ a from h), Bool.true_and]
  · rw [if_neg h, decide_eq_false (show ¬ b ≤ a from h), Bool.false_and]
theorem spec_KeyValid_l0 (l : List UInt8) (hl : l.length ≤ 4) : ∀ (d i k : Nat), i + d = l.length → d < k → spec_KeyValid.l0 k (Th.mkS l) (i : Int) = some ((l.drop i).all Th.letter)
  | _, _, 0, _, h => by omega
  | 0, i, k + 1, h, _ => by
    rw [spec_KeyValid.l0, if_neg (by rw [Th.size_mkS]; omega), List.drop_of_length_le (by omega)]; rfl
  | d + 1, i, k + 1, h, hk => by
    have ih := spec_KeyValid_l0 l hl d (i + 1) k (by omega) (by omega)
    have hi : i < l.length := by omega
    rw [spec_KeyValid.l0, if_pos (by rw [Th.size_mkS]; omega), if_pos (by omega), Th.bt_mkS l i hi, Th.wrap_small (by omega) (by omega), show ((i : Int) + 1) = ((i + 1 : Nat) : Int) by omega, ih, List.drop_eq_getElem_cons hi, List.all_cons]
    simp only [Th.letter]
    by_cases h1 : ((l[i]'hi).toNat : Int) < 97
    · rw [if_pos h1, decide_eq_false (show ¬ 97 ≤ ((l[i]'hi).toNat : Int) by omega)]; rfl
    · rw [if_neg h1, decide_eq_true (show 97 ≤ ((l[i]'hi).toNat : Int) by omega)]
      by_cases h2 : ((l[i]'hi).toNat : Int) > 122
      · rw [if_pos h2, decide_eq_false (show ¬ ((l[i]'hi).toNat : Int) ≤ 122 by omega)]; rfl
      · rw [if_neg h2, decide_eq_true (show ((l[i]'hi).toNat : Int) ≤ 122 by omega)]; rfl
theorem spec_KeyValid_eq (s : ByteArray) (k : Nat) (hk : 1000 ≤ k) : spec_KeyValid.f k s = some (Th.kv s) := by
  obtain ⟨l, rfl⟩ := Th.mkS_surj s
  unfold spec_KeyValid.f Th.kv Th.kvL
  rw [spec_l1In_eq, Th.toList_mkS, Th.size_mkS, Option.bind_some]
  by_cases h : 1 ≤ l.length ∧ l.length ≤ 4
  · have h0 := spec_KeyValid_l0 l h.2 l.length 0 k (by omega) (by omega)
    rw [show ((0 : Nat) : Int) = 0 from rfl] at h0
    rw [decide_eq_true (show (1 : Int) ≤ (l.length : Int) by omega), decide_eq_true (show (l.length : Int) ≤ 4 by omega), decide_eq_true h.1, decide_eq_true h.2, h0]
    rfl
  · by_cases h1 : 1 ≤ l.length
    · rw [decide_eq_false (show ¬ (l.length : Int) ≤ 4 by omega), decide_eq_false (show ¬ l.length ≤ 4 by omega)]; simp
    · rw [decide_eq_false (show ¬ (1 : Int) ≤ (l.length : Int) by omega), decide_eq_false h1]; simp
theorem spec_KeyNext_l0 : ∀ (r z : List UInt8) (k : Nat), r.all Th.letter = true → r.length + z.length ≤ 100 → r.length < k → spec_KeyNext.l0 k (Th.mkS (r.reverse ++ z)) (r.length : Int) = some (Th.mkS (Th.sibR r).reverse)
  | _, _, 0, _, _, h => by omega
  | [], z, k + 1, _, _, _ => by
    rw [spec_KeyNext.l0, if_neg (by simp), if_pos (by simp)]
    rfl
  | c :: r, z, k + 1, ha, hl, hk => by
    simp only [List.all_cons, Bool.and_eq_true, List.length_cons] at ha hl hk
    have ih := spec_KeyNext_l0 r (c :: z) k ha.2 (by simp only [List.length_cons]; omega) (by omega)
    have hc := (Th.letter_iff c).1 ha.1
    have hs : (Th.mkS ((c :: r).reverse ++ z)).size = r.length + 1 + z.length := by rw [Th.size_mkS]; simp only [List.length_append, List.length_reverse, List.length_cons]
    have hw : wrap64 (((r.length + 1 : Nat) : Int) - 1) = (r.length : Int) := by rw [Th.wrap_small (by omega) (by omega)]; omega
    have hb : bt (Th.mkS ((c :: r).reverse ++ z)) (r.length : Int) = (c.toNat : Int) := by
      rw [Th.bt_mkS _ _ (by simp only [List.length_append, List.length_reverse, List.length_cons]; omega)]
      simp
    have hx : (Th.mkS ((c :: r).reverse ++ z)).extract 0 ((r.length : Int)).toNat = Th.mkS r.reverse := by
      rw [Th.extract_mkS, Int.toNat_natCast, List.drop_zero, List.reverse_cons, List.append_assoc, List.take_append_of_le_length (by simp), List.take_of_length_le (by simp)]
    have e : (c :: r).reverse ++ z = r.reverse ++ (c :: z) := by simp
    rw [spec_KeyNext.l0, List.length_cons, if_pos (by omega), hs, hw, if_pos (by omega), if_pos (by omega), hb, hx]
    rw [show Th.sibR (c :: r) = if (c.toNat : Int) = 122 then Th.sibR r else (c.toNat + 1).toUInt8 :: r from rfl]
    by_cases hz : (c.toNat : Int) = 122
    · rw [if_pos hz, if_pos hz, e, ih]
    · have he : strOfNums [((c.toNat : Int) + 1) % 256] = Th.mkS [(c.toNat + 1).toUInt8] := by
        rw [show ((c.toNat : Int) + 1) % 256 = ((c.toNat + 1 : Nat) : Int) by omega]
        exact Th.strOfNums_one _
      rw [if_neg hz, if_neg hz, if_neg (by omega), if_pos (by omega), Option.bind_some, he, if_pos (by rw [Th.size_mkS, Th.size_mkS]; simp; omega), Th.append_mkS, List.reverse_cons]
theorem spec_KeyNext_eq (s : ByteArray) (k : Nat) (hk : 1000 ≤ k) : spec_KeyNext.f k s = some (Th.knext s) := by
  unfold spec_KeyNext.f
  rw [spec_KeyValid_eq s k hk, Option.bind_some]
  by_cases h : Th.kv s = true
  · have h0 := Th.kv0_of_kv h
    have hl := h0.1
    rw [if_pos h, Th.size_toList]
    by_cases h4 : s.toList.length < 4
    · rw [if_pos (by omega), if_pos (by omega), ← Th.knext_short h h4, ← Th.append_mkS, Th.mkS_toList]
      rfl
    · have := spec_KeyNext_l0 s.toList.reverse [] k (by rw [List.all_reverse]; exact h0.2.2) (by rw [List.length_reverse]; simp; omega) (by rw [List.length_reverse]; omega)
      rw [List.reverse_reverse, List.append_nil, Th.mkS_toList, List.length_reverse] at this
      rw [if_neg (by omega), this, Th.knext_long h (by omega)]
  · rw [if_neg h]
    unfold Th.knext
    rw [if_neg h]
    rfl
theorem impl_lettersOnly_eq : ∀ (l : List UInt8) (k : Nat), l.length < k → impl_lettersOnly.f k (Th.mkS l) = some (l.all Th.letter)
  | _, 0, h => by omega
  | [], k + 1, _ => by
    rw [impl_lettersOnly.f, if_pos (Th.toList_mkS [])]
    rfl
  | c :: l, k + 1, h => by
    have ih := impl_lettersOnly_eq l k (by simpa using h)
    have hs : (0 : Int) < ((Th.mkS (c :: l)).size : Int) := by rw [Th.size_mkS, List.length_cons]; omega
    have hx : (Th.mkS (c :: l)).extract 1 (Th.mkS (c :: l)).size = Th.mkS l := by rw [Th.extract_mkS, Th.size_mkS, List.take_length]; rfl
    have hs1 : (1 : Int) ≤ ((Th.mkS (c :: l)).size : Int) := by omega
    rw [impl_lettersOnly.f, if_neg (by rw [Th.toList_mkS]; simp), if_pos hs, if_pos hs1, hx, ih, Th.bt_zero]
    simp only [Option.bind_some, List.all_cons, Th.letter]
    by_cases h1 : (c.toNat : Int) ≥ 97
    · rw [if_pos h1, decide_eq_true (show 97 ≤ (c.toNat : Int) from h1)]
      by_cases h2 : (c.toNat : Int) ≤ 122
      · rw [if_pos h2, decide_eq_true h2]; rfl
      · rw [if_neg h2, decide_eq_false h2]; rfl
    · rw [if_neg h1, decide_eq_false (show ¬ 97 ≤ (c.toNat : Int) from h1)]; rfl
theorem impl_KeyValid_eq (s : ByteArray) (k : Nat) (hk : 1000 ≤ k) : impl_KeyValid.f k s = some (Th.kv s) := by
  obtain ⟨l, rfl⟩ := Th.mkS_surj s
  unfold impl_KeyValid.f Th.kv Th.kvL
  rw [Th.toList_mkS, Th.size_mkS]
  by_cases h1 : (l.length : Int) < 1
  · rw [if_pos h1, decide_eq_false (show ¬ 1 ≤ l.length by omega)]; rfl
  · rw [if_neg h1, decide_eq_true (show 1 ≤ l.length by omega)]
    by_cases h2 : (l.length : Int) > 4
    · rw [if_pos h2, decide_eq_false (show ¬ l.length ≤ 4 by omega)]; rfl
    · rw [if_neg h2, decide_eq_true (show l.length ≤ 4 by omega), impl_lettersOnly_eq l k (by omega)]; rfl
theorem impl_nextSibling_eq : ∀ (r : List UInt8) (k : Nat), r.all Th.letter = true → r.length ≤ 100 → r.length < k → impl_nextSibling.f k (Th.mkS r.reverse) = some (Th.mkS (Th.sibR r).reverse)
  | _, 0, _, _, h => by omega
  | [], k + 1, _, _, _ => by
    rw [impl_nextSibling.f, if_pos (show (Th.mkS ([] : List UInt8).reverse).toList = [] from Th.toList_mkS [])]
    rfl
  | c :: r, k + 1, ha, hl, hk => by
    simp only [List.all_cons, Bool.and_eq_true, List.length_cons] at ha hl hk
    have ih := impl_nextSibling_eq r k ha.2 (by omega) (by omega)
    have hc := (Th.letter_iff c).1 ha.1
    have hs : (Th.mkS (c :: r).reverse).size = r.length + 1 := by rw [Th.size_mkS]; simp
    have hw : wrap64 (((r.length + 1 : Nat) : Int) - 1) = (r.length : Int) := by rw [Th.wrap_small (by omega) (by omega)]; omega
    have hb : bt (Th.mkS (c :: r).reverse) (r.length : Int) = (c.toNat : Int) := by
      rw [Th.bt_mkS _ _ (by simp)]
      simp
    have hx : (Th.mkS (c :: r).reverse).extract 0 ((r.length : Int)).toNat = Th.mkS r.reverse := by
      rw [Th.extract_mkS, Int.toNat_natCast, List.drop_zero, List.reverse_cons, List.take_append_of_le_length (by simp), List.take_of_length_le (by simp)]
    rw [impl_nextSibling.f, if_neg (by rw [Th.toList_mkS]; simp), hs, hw, if_pos (by omega), if_pos (by omega), hb, hx, ih]
    rw [show Th.sibR (c :: r) = if (c.toNat : Int) = 122 then Th.sibR r else (c.toNat + 1).toUInt8 :: r from rfl]
    by_cases hz : (c.toNat : Int) = 122
    · rw [if_pos hz, if_pos (by omega), if_pos hz]; rfl
    · have he : Utf8.encode (((c.toNat : Int) + 1) % 256) = Th.mkS [(c.toNat + 1).toUInt8] := by
        rw [show ((c.toNat : Int) + 1) % 256 = ((c.toNat + 1 : Nat) : Int) by omega]
        exact Th.encode_small _ (by omega)
      rw [if_neg hz, if_pos (by omega), if_neg hz, he, if_pos (by rw [Th.size_mkS, Th.size_mkS]; simp; omega), Th.append_mkS, List.reverse_cons]
theorem impl_KeyNext_eq (s : ByteArray) (k : Nat) (hk : 1000 ≤ k) : impl_KeyNext.f k s = some (Th.knext s) := by
  unfold impl_KeyNext.f
  rw [impl_KeyValid_eq s k hk, Option.bind_some]
  by_cases h : Th.kv s = true
  · have h0 := Th.kv0_of_kv h
    have hl := h0.1
    rw [if_pos h, Th.size_toList]
    by_cases h4 : s.toList.length < 4
    · rw [if_pos (by omega), if_pos (by omega), ← Th.knext_short h h4, ← Th.append_mkS, Th.mkS_toList]
      rfl
    · have := impl_nextSibling_eq s.toList.reverse k (by rw [List.all_reverse]; exact h0.2.2) (by rw [List.length_reverse]; omega) (by rw [List.length_reverse]; omega)
      rw [List.reverse_reverse, Th.mkS_toList] at this
      rw [if_neg (by omega), this, Th.knext_long h (by omega)]
      rfl
  · rw [if_neg h]
    unfold Th.knext
    rw [if_neg h]
    rfl
theorem FnExactKeyNext : laws_FnExactKeyNext.Pure := by
  intro s _
  refine ⟨1000, ?_⟩
  unfold laws_FnExactKeyNext.f
  rw [spec_KeyNext_eq s _ (Nat.le_refl _), impl_KeyNext_eq s _ (Nat.le_refl _)]
  simp

end Go.Proofs.Ytdceajeldlnkkaa.Pure
