/- The plain law of FnExactPagesOf: what the printed functions compute, and that it answers true: for every input that the statement lets in. -/
import Derived.Test.YtebgpbcbbjpbfaaPFnExactPagesOfx
import Derived.Test.YtebgpbcbbjpbfaaSFnExactPagesOf
import Derived.Test.YtebgpbcbbjpbfaaThA
import Derived.Test.YtebgpbcbbjpbfaaThB
import Derived.Test.YtebgpbcbbjpbfaaThL
import Derived.Test.YtebgpbcbbjpbfaaThC
import Derived.Test.YtebgpbcbbjpbfaaThQ
namespace Go.Proofs.Ytebgpbcbbjpbfaa.Pure
open Go Go.RowKit Go.Proofs.Ytebgpbcbbjpbfaa.PFnExactPagesOf Go.Proofs.YtebgpbcbbjpbfaaW.PrintWords Go.Proofs.YtebgpbcbbjpbfaaW.PrintLast Go.Proofs.Ytebgpbcbbjpbfaa
set_option linter.unusedVariables false
set_option linter.unusedSimpArgs false
set_option maxRecDepth 10000
theorem impl_lettersOnly_eq : ∀ (l : List UInt8) (k : Nat), l.length < k → impl_lettersOnly.f k (Th.mkS l) = some (l.all Th.letter)
  | _, 0, h => by omega
  | [], k + 1, _ => by
    rw [impl_lettersOnly.f, if_pos (Th.toList_mkS [])]
    rfl
  | c :: l, k + 1, h => by
    have ih := impl_lettersOnly_eq l k (by simpa using h)
    have hs : (0 : Int) < ((Th.mkS (c :: l)).size : Int) := by rw [Th.size_mkS, List.length_cons]; omega
    have hx : (Th.mkS (c :: l)).extract 1 (Th.mkS (c :: l)).size = Th.mkS l := by rw [Th.extract_mkS, Th.size_mkS, List.take_length]; rfl
    have hs1 : (1 : Int) ≤ ((Th.mkS (c :: l)).size : Int) := by omega
    rw [impl_lettersOnly.f, if_neg (by rw [Th.toList_mkS]; simp), if_pos hs, if_pos hs1, hx, ih, Th.bt_zero]
    simp only [Option.bind_some, List.all_cons, Th.letter]
    by_cases h1 : (c.toNat : Int) ≥ 97
    · rw [if_pos h1, decide_eq_true (show 97 ≤ (c.toNat : Int) from h1)]
      by_cases h2 : (c.toNat : Int) ≤ 122
      · rw [if_pos h2, decide_eq_true h2]; rfl
      · rw [if_neg h2, decide_eq_false h2]; rfl
    · rw [if_neg h1, decide_eq_false (show ¬ 97 ≤ (c.toNat : Int) from h1)]; rfl
theorem impl_KeyValid_eq (s : ByteArray) (k : Nat) (hk : 1000 ≤ k) : impl_KeyValid.f k s = some (Th.kv s) := by
  obtain ⟨l, rfl⟩ := Th.mkS_surj s
  unfold impl_KeyValid.f Th.kv Th.kvL
  rw [Th.toList_mkS, Th.size_mkS]
  by_cases h1 : (l.length : Int) < 1
  · rw [if_pos h1, decide_eq_false (show ¬ 1 ≤ l.length by omega)]; rfl
  · rw [if_neg h1, decide_eq_true (show 1 ≤ l.length by omega)]
    by_cases h2 : (l.length : Int) > 4
    · rw [if_pos h2, decide_eq_false (show ¬ l.length ≤ 4 by omega)]; rfl
    · rw [if_neg h2, decide_eq_true (show l.length ≤ 4 by omega), impl_lettersOnly_eq l k (by omega)]; rfl
theorem impl_valueValid_eq (v : Int) : impl_valueValid.f v = some (decide (0 ≤ v ∧ v ≤ 999)) := by
  unfold impl_valueValid.f
  by_cases h : v ≥ 0
  · rw [if_pos h]; congr 1; simp [show 0 ≤ v from h]
  · rw [if_neg h]; congr 1; simp [show ¬ 0 ≤ v from h]
theorem impl_PairsValid_l0 (l : List S71) (hl : l.length ≤ 48) : ∀ (d i k : Nat), i + d = l.length → 2 * d + 1001 ≤ k → ∃ b, impl_PairsValid.l0 k l l (l.length : Int) (i : Int) = some b ∧ (b = true ↔ ∀ j, i ≤ j → j < l.length → Th.stepOk S71.f0 S71.f1 z71 l j)
  | _, _, 0, _, h => by omega
  | 0, i, k + 1, h, _ => by
    rw [impl_PairsValid.l0, if_neg (by omega)]
    exact ⟨true, rfl, fun _ j h1 h2 => by omega, fun _ => rfl⟩
  | d + 1, i, 1, h, hk => by omega
  | d + 1, i, k + 2, h, hk => by
    have hi : i < l.length := by omega
    obtain ⟨b, hb, hb2⟩ := impl_PairsValid_l0 l hl d (i + 1) k (by omega) (by omega)
    have hw : wrap64 ((i : Int) + 1) = ((i + 1 : Nat) : Int) := by rw [Th.wrap_small (by omega) (by omega)]; omega
    have no : ¬ Th.stepOk S71.f0 S71.f1 z71 l i → ∃ b, some false = some b ∧ (b = true ↔ ∀ j, i ≤ j → j < l.length → Th.stepOk S71.f0 S71.f1 z71 l j) :=
      fun hn => ⟨false, rfl, fun h => (by cases h), fun h => absurd (h i (Nat.le_refl _) hi) hn⟩
    have go : Th.stepOk S71.f0 S71.f1 z71 l i → ∃ b', some b = some b' ∧ (b' = true ↔ ∀ j, i ≤ j → j < l.length → Th.stepOk S71.f0 S71.f1 z71 l j) :=
      fun hn => ⟨b, rfl, hb2.trans (Th.all_from hi hn)⟩
    rw [impl_PairsValid.l0, if_pos (by omega), if_pos (by omega), if_pos (by omega), show rd_T71 l (i : Int) = l.getD i z71 from rfl, impl_KeyValid_eq _ (k + 1) (by omega), Option.bind_some]
    by_cases h1 : Th.kv (l.getD i z71).f0 = true
    · rw [if_pos h1, impl_valueValid_eq, Option.bind_some, impl_PairsValid.j1]
      by_cases h2 : 0 ≤ (l.getD i z71).f1 ∧ (l.getD i z71).f1 ≤ 999
      · rw [decide_eq_true h2, if_neg (by simp)]
        by_cases h0 : 0 < i
        · have hp : wrap64 ((i : Int) - 1) = ((i - 1 : Nat) : Int) := by rw [Th.wrap_small (by omega) (by omega)]; omega
          rw [if_pos (by omega), hp, if_pos (by omega), if_pos (by omega), show rd_T71 l ((i - 1 : Nat) : Int) = l.getD (i - 1) z71 from rfl, hw, hb]
          by_cases c1 : Th.lt (l.getD (i - 1) z71).f0 (l.getD i z71).f0
          · rw [if_pos c1]; exact go ⟨⟨h1, h2⟩, fun _ => c1⟩
          · rw [if_neg c1]; exact no (fun hs => c1 (hs.2 h0))
        · rw [if_neg (by omega), hw, hb]
          exact go ⟨⟨h1, h2⟩, fun h => absurd h h0⟩
      · rw [decide_eq_false h2, if_pos (by rfl)]
        exact no (fun hs => h2 hs.1.2)
    · rw [if_neg h1, impl_PairsValid.j1, if_pos rfl]
      exact no (fun hs => h1 hs.1.1)
theorem impl_PairsValid_eq (l : List S71) (k : Nat) (hk : 2000 ≤ k) : impl_PairsValid.f k l = some (Th.pv S71.f0 S71.f1 l) := by
  unfold impl_PairsValid.f
  by_cases h : (l.length : Int) > 48
  · rw [if_pos h]
    congr 1
    symm
    rw [Bool.eq_false_iff]
    intro hp
    have := ((Th.pv_iff _ _ l).1 hp).1
    omega
  · rw [if_neg h]
    obtain ⟨b, hb, hb2⟩ := impl_PairsValid_l0 l (by omega) l.length 0 k (by omega) (by omega)
    rw [show ((0 : Nat) : Int) = 0 from rfl] at hb
    rw [hb]
    congr 1
    apply Th.bool_eq
    rw [hb2, Th.pv_iff, Th.pv_steps _ _ z71]
    constructor
    · exact fun h' => ⟨by omega, fun j hj => h' j (by omega) hj⟩
    · exact fun h' j _ hj => h'.2 j hj
theorem impl_copyOf_Pair_eq (l : List S71) (hl : l.length ≤ 4294967296) : impl_copyOf_Pair.f l = some l := by
  unfold impl_copyOf_Pair.f
  rw [if_pos (by omega)]
theorem mn_le {a b : Int} (h : a ≤ b) : mn a b = a := by unfold mn; rw [if_neg (by omega)]
theorem mn_ge {a b : Int} (h : b ≤ a) : mn a b = b := by
  unfold mn
  by_cases c : b < a
  · rw [if_pos c]
  · rw [if_neg c]; omega
theorem chunk_nil (k : Nat) (l : List S71) (h : l.length = 0) : Th.chunk S64.mk k l = [] := by
  cases k with
  | zero => rfl
  | succ k => rw [Th.chunk, if_pos h]
theorem impl_PagesOf_l0 (l : List S71) (hl : l.length ≤ 48) : ∀ (c d i k : Nat) (o : List S64), d ≤ c → i + d = l.length → c < k → o.length ≤ i → impl_PagesOf.l0 k l o (i : Int) = some (o ++ Th.chunk S64.mk c (l.drop i))
  | _, _, _, 0, _, _, _, h, _ => by omega
  | 0, d, i, k + 1, o, hd, h, _, _ => by
    rw [impl_PagesOf.l0, if_neg (by omega)]
    simp [Th.chunk]
  | c + 1, d, i, k + 1, o, hd, h, hk, ho => by
    have hdl : (l.drop i).length = d := by rw [List.length_drop]; omega
    have w4 : wrap64 ((i : Int) + 4) = (i : Int) + 4 := Th.wrap_small (by omega) (by omega)
    by_cases c0 : d = 0
    · rw [impl_PagesOf.l0, if_neg (by omega), chunk_nil _ _ (by omega), List.append_nil]
    by_cases c1 : d ≤ 4
    · have e : mn (wrap64 ((i : Int) + 4)) (l.length : Int) = (l.length : Int) := by rw [w4, mn_ge (by omega)]
      have w : wrap64 ((l.length : Int) - (l.length : Int)) = 0 := by rw [Th.wrap_small (by omega) (by omega)]; omega
      have ih := impl_PagesOf_l0 l hl c 0 l.length k (o ++ [⟨l.drop i⟩]) (by omega) (by omega) (by omega) (by rw [List.length_append]; simp only [List.length_cons, List.length_nil]; omega)
      rw [chunk_nil c (l.drop l.length) (by rw [List.length_drop]; omega), List.append_nil] at ih
      rw [impl_PagesOf.l0, if_pos (by omega), e, w, if_neg (by omega), if_pos (by omega), if_pos (by omega), if_pos (by omega), Int.toNat_natCast, Int.toNat_natCast, List.take_length, impl_copyOf_Pair_eq _ (by omega), Option.bind_some, if_pos (by omega), ih, Th.chunk, if_neg (by omega), if_pos (by omega)]
    by_cases c2 : d = 5
    · have e : mn (wrap64 ((i : Int) + 4)) (l.length : Int) = (i : Int) + 4 := by rw [w4, mn_le (by omega)]
      have w : wrap64 ((l.length : Int) - ((i : Int) + 4)) = 1 := by rw [Th.wrap_small (by omega) (by omega)]; omega
      have w3 : wrap64 ((i : Int) + 4 - 1) = ((i + 3 : Nat) : Int) := by rw [Th.wrap_small (by omega) (by omega)]; omega
      have ih := impl_PagesOf_l0 l hl c 2 (i + 3) k (o ++ [⟨(l.drop i).take 3⟩]) (by omega) (by omega) (by omega) (by rw [List.length_append]; simp only [List.length_cons, List.length_nil]; omega)
      obtain ⟨c', rfl⟩ : ∃ m, c = m + 1 := ⟨c - 1, by omega⟩
      have ht : (l.take (i + 3)).drop i = (l.drop i).take 3 := by rw [List.drop_take]; congr 1; omega
      have hdd : l.drop (i + 3) = (l.drop i).drop 3 := by rw [List.drop_drop]
      rw [Th.chunk, if_neg (by rw [List.length_drop]; omega), if_pos (by rw [List.length_drop]; omega), List.append_assoc] at ih
      rw [impl_PagesOf.l0, if_pos (by omega), e, w, if_pos rfl, if_pos (by omega), w3, if_pos (by omega), if_pos (by omega), Int.toNat_natCast, Int.toNat_natCast, ht, impl_copyOf_Pair_eq _ (by rw [List.length_take]; omega), Option.bind_some, if_pos (by omega), ih, hdd]
      rw [Th.chunk, if_neg (by omega), if_neg (by omega), if_pos (by omega)]
      rfl
    · have e : mn (wrap64 ((i : Int) + 4)) (l.length : Int) = ((i + 4 : Nat) : Int) := by rw [w4, mn_le (by omega)]; omega
      have w : wrap64 ((l.length : Int) - ((i + 4 : Nat) : Int)) = (l.length : Int) - (i : Int) - 4 := by rw [Th.wrap_small (by omega) (by omega)]; omega
      have ih := impl_PagesOf_l0 l hl c (d - 4) (i + 4) k (o ++ [⟨(l.drop i).take 4⟩]) (by omega) (by omega) (by omega) (by rw [List.length_append]; simp only [List.length_cons, List.length_nil]; omega)
      have ht : (l.take (i + 4)).drop i = (l.drop i).take 4 := by rw [List.drop_take]; congr 1; omega
      have hdd : l.drop (i + 4) = (l.drop i).drop 4 := by rw [List.drop_drop]
      rw [impl_PagesOf.l0, if_pos (by omega), e, w, if_neg (by omega), if_pos (by omega), if_pos (by omega), if_pos (by omega), Int.toNat_natCast, Int.toNat_natCast, ht, impl_copyOf_Pair_eq _ (by rw [List.length_take]; omega), Option.bind_some, if_pos (by omega), ih, hdd, List.append_assoc]
      rw [Th.chunk, if_neg (by omega), if_neg (by omega), if_neg (by omega)]
      rfl
theorem impl_PagesOf_eq (l : List S71) (k : Nat) (hk : 4000 ≤ k) : impl_PagesOf.f k l = some (Th.ofPg S71.f0 S71.f1 S64.mk l) := by
  unfold impl_PagesOf.f Th.ofPg
  rw [impl_PairsValid_eq l k (by omega), Option.bind_some]
  by_cases h : Th.pv S71.f0 S71.f1 l = true
  · have hP := ((Th.pv_iff _ _ _).1 h).1
    have := impl_PagesOf_l0 l hP l.length l.length 0 k [] (Nat.le_refl _) (by omega) (by omega) (by simp)
    rw [List.drop_zero, List.nil_append, show ((0 : Nat) : Int) = 0 from rfl] at this
    rw [if_pos h, if_pos h, this]
  · rw [if_neg h, if_neg h]
theorem spec_l1In_eq (a b c : Int) : spec_l1In.f a b c = some (decide (b ≤ a) && decide (a ≤ c)) := by
  unfold spec_l1In.f
  by_cases h : a ≥ b
  · rw [if_pos h, decide_eq_true (show b ≤ a from h), Bool.true_and]
  · rw [if_neg h, decide_eq_false (show ¬ b ≤ a from h), Bool.false_and]
theorem spec_KeyValid_l0 (l : List UInt8) (hl : l.length ≤ 4) : ∀ (d i k : Nat), i + d = l.length → d < k → spec_KeyValid.l0 k (Th.mkS l) (i : Int) = some ((l.drop i).all Th.letter)
  | _, _, 0, _, h => by omega
  | 0, i, k + 1, h, _ => by
    rw [spec_KeyValid.l0, if_neg (by rw [Th.size_mkS]; omega), List.drop_of_length_le (by omega)]; rfl
  | d + 1, i, k + 1, h, hk => by
    have ih := spec_KeyValid_l0 l hl d (i + 1) k (by omega) (by omega)
    have hi : i < l.length := by omega
    rw [spec_KeyValid.l0, if_pos (by rw [Th.size_mkS]; omega), if_pos (by omega), Th.bt_mkS l i hi, Th.wrap_small (by omega) (by omega), show ((i : Int) + 1) = ((i + 1 : Nat) : Int) by omega, ih, List.drop_eq_getElem_cons hi, List.all_cons]
    simp only [Th.letter]
    by_cases h1 : ((l[i]'hi).toNat : Int) < 97
    · rw [if_pos h1, decide_eq_false (show ¬ 97 ≤ ((l[i]'hi).toNat : Int) by omega)]; rfl
    · rw [if_neg h1, decide_eq_true (show 97 ≤ ((l[i]'hi).toNat : Int) by omega)]
      by_cases h2 : ((l[i]'hi).toNat : Int) > 122
      · rw [if_pos h2, decide_eq_false (show ¬ ((l[i]'hi).toNat : Int) ≤ 122 by omega)]; rfl
      · rw [if_neg h2, decide_eq_true (show ((l[i]'hi).toNat : Int) ≤ 122 by omega)]; rfl
theorem spec_KeyValid_eq (s : ByteArray) (k : Nat) (hk : 1000 ≤ k) : spec_KeyValid.f k s = some (Th.kv s) := by
  obtain ⟨l, rfl⟩ := Th.mkS_surj s
  unfold spec_KeyValid.f Th.kv Th.kvL
  rw [spec_l1In_eq, Th.toList_mkS, Th.size_mkS, Option.bind_some]
  by_cases h : 1 ≤ l.length ∧ l.length ≤ 4
  · have h0 := spec_KeyValid_l0 l h.2 l.length 0 k (by omega) (by omega)
    rw [show ((0 : Nat) : Int) = 0 from rfl] at h0
    rw [decide_eq_true (show (1 : Int) ≤ (l.length : Int) by omega), decide_eq_true (show (l.length : Int) ≤ 4 by omega), decide_eq_true h.1, decide_eq_true h.2, h0]
    rfl
  · by_cases h1 : 1 ≤ l.length
    · rw [decide_eq_false (show ¬ (l.length : Int) ≤ 4 by omega), decide_eq_false (show ¬ l.length ≤ 4 by omega)]; simp
    · rw [decide_eq_false (show ¬ (1 : Int) ≤ (l.length : Int) by omega), decide_eq_false h1]; simp
theorem spec_PairsValid_l0 (l : List S71) (hl : l.length ≤ 48) : ∀ (d i k : Nat), i + d = l.length → d + 1001 ≤ k → ∃ b, spec_PairsValid.l0 k l (i : Int) = some b ∧ (b = true ↔ ∀ j, i ≤ j → j < l.length → Th.stepOk S71.f0 S71.f1 z71 l j)
  | _, _, 0, _, h => by omega
  | 0, i, k + 1, h, _ => by
    rw [spec_PairsValid.l0, if_neg (by omega)]
    exact ⟨true, rfl, fun _ j h1 h2 => by omega, fun _ => rfl⟩
  | d + 1, i, k + 1, h, hk => by
    have hi : i < l.length := by omega
    obtain ⟨b, hb, hb2⟩ := spec_PairsValid_l0 l hl d (i + 1) k (by omega) (by omega)
    have hw : wrap64 ((i : Int) + 1) = ((i + 1 : Nat) : Int) := by rw [Th.wrap_small (by omega) (by omega)]; omega
    have no : ¬ Th.stepOk S71.f0 S71.f1 z71 l i → ∃ b, some false = some b ∧ (b = true ↔ ∀ j, i ≤ j → j < l.length → Th.stepOk S71.f0 S71.f1 z71 l j) :=
      fun hn => ⟨false, rfl, fun h => (by cases h), fun h => absurd (h i (Nat.le_refl _) hi) hn⟩
    have go : Th.stepOk S71.f0 S71.f1 z71 l i → ∃ b', some b = some b' ∧ (b' = true ↔ ∀ j, i ≤ j → j < l.length → Th.stepOk S71.f0 S71.f1 z71 l j) :=
      fun hn => ⟨b, rfl, hb2.trans (Th.all_from hi hn)⟩
    rw [spec_PairsValid.l0, if_pos (by omega), if_pos (by omega), show rd_T71 l (i : Int) = l.getD i z71 from rfl, spec_KeyValid_eq _ k (by omega), Option.bind_some]
    by_cases h1 : Th.kv (l.getD i z71).f0 = true
    · rw [if_pos h1, spec_l1In_eq, Option.bind_some]
      by_cases h2 : 0 ≤ (l.getD i z71).f1 ∧ (l.getD i z71).f1 ≤ 999
      · rw [decide_eq_true h2.1, decide_eq_true h2.2, if_pos (by rfl)]
        by_cases h0 : 0 < i
        · have hp : wrap64 ((i : Int) - 1) = ((i - 1 : Nat) : Int) := by rw [Th.wrap_small (by omega) (by omega)]; omega
          rw [if_pos (by omega), hp, if_pos (by omega), if_pos (by omega), show rd_T71 l ((i - 1 : Nat) : Int) = l.getD (i - 1) z71 from rfl, hw, hb]
          by_cases c1 : Th.lt (l.getD i z71).f0 (l.getD (i - 1) z71).f0
          · rw [if_pos c1]; exact no (fun hs => Th.lt_asymm c1 (hs.2 h0))
          · rw [if_neg c1]
            by_cases c2 : (l.getD i z71).f0.toList = (l.getD (i - 1) z71).f0.toList
            · rw [if_pos c2]; exact no (fun hs => Th.lt_irrefl _ (by have := hs.2 h0; rwa [Th.str_ext c2] at this))
            · rw [if_neg c2]
              refine go ⟨⟨h1, h2⟩, fun _ => ?_⟩
              rcases Classical.em (Th.lt (l.getD (i - 1) z71).f0 (l.getD i z71).f0) with c | c
              · exact c
              · exact absurd (congrArg ByteArray.toList (Th.lt_total c1 c)) c2
        · rw [if_neg (by omega), hw, hb]
          exact go ⟨⟨h1, h2⟩, fun h => absurd h h0⟩
      · rw [if_neg (by simp only [Bool.and_eq_true, decide_eq_true_eq]; exact h2)]
        exact no (fun hs => h2 hs.1.2)
    · rw [if_neg h1]
      exact no (fun hs => h1 hs.1.1)
theorem spec_PairsValid_eq (l : List S71) (k : Nat) (hk : 2000 ≤ k) : spec_PairsValid.f k l = some (Th.pv S71.f0 S71.f1 l) := by
  unfold spec_PairsValid.f
  by_cases h : (l.length : Int) > 48
  · rw [if_pos h]
    congr 1
    symm
    rw [Bool.eq_false_iff]
    intro hp
    have := ((Th.pv_iff _ _ l).1 hp).1
    omega
  · rw [if_neg h]
    obtain ⟨b, hb, hb2⟩ := spec_PairsValid_l0 l (by omega) l.length 0 k (by omega) (by omega)
    rw [show ((0 : Nat) : Int) = 0 from rfl] at hb
    rw [hb]
    congr 1
    apply Th.bool_eq
    rw [hb2, Th.pv_iff, Th.pv_steps _ _ z71]
    constructor
    · exact fun h' => ⟨by omega, fun j hj => h' j (by omega) hj⟩
    · exact fun h' j _ hj => h'.2 j hj
theorem spec_PagesOf_l0 (l : List S71) (hl : l.length ≤ 48) : ∀ (c d i k : Nat) (o : List S64), d ≤ c → l.length = i + d → c + 1 < k → o.length ≤ i → spec_PagesOf.l0 k l o (i : Int) = some (o ++ Th.chunk S64.mk c (l.drop i))
  | _, _, _, 0, _, _, _, h, _ => by omega
  | 0, d, i, k + 1, o, hd, h, _, _ => by
    rw [spec_PagesOf.l0, if_neg (by omega)]
    simp [Th.chunk]
  | c + 1, d, i, k + 1, o, hd, h, hk, ho => by
    have hdl : (l.drop i).length = d := by rw [List.length_drop]; omega
    have w4 : wrap64 ((i : Int) + 4) = (i : Int) + 4 := Th.wrap_small (by omega) (by omega)
    by_cases c0 : d = 0
    · rw [spec_PagesOf.l0, if_neg (by omega), chunk_nil _ _ (by omega), List.append_nil]
    by_cases c1 : d ≤ 4
    · have e : mn (l.length : Int) (wrap64 ((i : Int) + 4)) = (l.length : Int) := by rw [w4, mn_le (by omega)]
      have w : wrap64 ((l.length : Int) - (l.length : Int)) = 0 := by rw [Th.wrap_small (by omega) (by omega)]; omega
      have fin : ∀ o' : List S64, spec_PagesOf.l0 k l o' ((i : Int) + 4) = some o' := by
        intro o'
        obtain ⟨k, rfl⟩ : ∃ m, k = m + 1 := ⟨k - 1, by omega⟩
        rw [spec_PagesOf.l0, if_neg (by omega)]
      rw [spec_PagesOf.l0, if_pos (by omega), e, w, if_neg (by omega), Option.bind_some, if_pos (by omega), if_pos (by omega), if_pos (by omega), Int.toNat_natCast, Int.toNat_natCast, List.take_length, Option.bind_some, if_pos (by simp only [List.length_nil]; omega), if_pos (by omega), Option.bind_some, w4, fin, List.nil_append]
      have hc : Th.chunk S64.mk (c + 1) (l.drop i) = [⟨l.drop i⟩] := by rw [Th.chunk, if_neg (by omega), if_pos (by omega)]
      rw [hc]
      by_cases g : (l.length : Int) < (i : Int) + 4
      · rw [if_pos g, if_neg (by omega)]
      · rw [if_neg g]
    by_cases c2 : d = 5
    · have e : mn (l.length : Int) (wrap64 ((i : Int) + 4)) = (i : Int) + 4 := by rw [w4, mn_ge (by omega)]
      have w : wrap64 ((l.length : Int) - ((i : Int) + 4)) = 1 := by rw [Th.wrap_small (by omega) (by omega)]; omega
      have w3 : wrap64 ((i : Int) + 4 - 1) = ((i + 3 : Nat) : Int) := by rw [Th.wrap_small (by omega) (by omega)]; omega
      have ht : (l.take (i + 3)).drop i = (l.drop i).take 3 := by rw [List.drop_take]; congr 1; omega
      have hdd : l.drop (i + 3) = (l.drop i).drop 3 := by rw [List.drop_drop]
      rw [spec_PagesOf.l0, if_pos (by omega), e, w, if_pos rfl, Option.bind_some, if_pos (by omega), w3, if_pos (by omega), if_pos (by omega), Int.toNat_natCast, Int.toNat_natCast, ht, Option.bind_some, if_pos (by rw [List.length_take]; simp only [List.length_nil]; omega), if_pos (by omega), Option.bind_some, w4, if_pos (by omega), if_pos (by omega), Option.bind_some, if_pos (by omega), Option.bind_some, if_pos (by rw [List.length_drop]; simp only [List.length_nil]; omega), if_pos (by rw [List.length_append]; simp only [List.length_cons, List.length_nil]; omega), hdd, List.append_assoc, List.nil_append, List.nil_append]
      rw [Th.chunk, if_neg (by omega), if_neg (by omega), if_pos (by omega)]
      rfl
    · have e : mn (l.length : Int) (wrap64 ((i : Int) + 4)) = ((i + 4 : Nat) : Int) := by rw [w4, mn_ge (by omega)]; omega
      have w : wrap64 ((l.length : Int) - ((i + 4 : Nat) : Int)) = (l.length : Int) - (i : Int) - 4 := by rw [Th.wrap_small (by omega) (by omega)]; omega
      have ih := spec_PagesOf_l0 l hl c (d - 4) (i + 4) k (o ++ [⟨(l.drop i).take 4⟩]) (by omega) (by omega) (by omega) (by rw [List.length_append]; simp only [List.length_cons, List.length_nil]; omega)
      have ht : (l.take (i + 4)).drop i = (l.drop i).take 4 := by rw [List.drop_take]; congr 1; omega
      have hdd : l.drop (i + 4) = (l.drop i).drop 4 := by rw [List.drop_drop]
      rw [show ((i + 4 : Nat) : Int) = (i : Int) + 4 by omega] at ih
      rw [spec_PagesOf.l0, if_pos (by omega), e, w, if_neg (by omega), Option.bind_some, if_pos (by omega), if_pos (by omega), if_pos (by omega), Int.toNat_natCast, Int.toNat_natCast, ht, Option.bind_some, if_pos (by rw [List.length_take]; simp only [List.length_nil]; omega), if_pos (by omega), Option.bind_some, w4, if_neg (by omega), List.nil_append, ih, hdd, List.append_assoc]
      rw [Th.chunk, if_neg (by omega), if_neg (by omega), if_neg (by omega)]
      rfl
theorem spec_PagesOf_eq (l : List S71) (k : Nat) (hk : 4000 ≤ k) : spec_PagesOf.f k l = some (Th.ofPg S71.f0 S71.f1 S64.mk l) := by
  unfold spec_PagesOf.f Th.ofPg
  rw [Option.bind_some, spec_PairsValid_eq l k (by omega), Option.bind_some]
  by_cases h : Th.pv S71.f0 S71.f1 l = true
  · have hP := ((Th.pv_iff _ _ _).1 h).1
    have := spec_PagesOf_l0 l hP l.length l.length 0 k [] (Nat.le_refl _) (by omega) (by omega) (by simp)
    rw [List.drop_zero, List.nil_append, show ((0 : Nat) : Int) = 0 from rfl] at this
    rw [if_pos h, if_pos h, this]
  · rw [if_neg h, if_neg h]
theorem laws_eqPairS_l0 (l : List S71) (hl : l.length ≤ 4294967296) : ∀ (d i k : Nat), i + d = l.length → d < k → laws_eqPairS.l0 k l l (i : Int) = some true
  | _, _, 0, _, h => by omega
  | 0, i, k + 1, h, _ => by rw [laws_eqPairS.l0, if_neg (by omega)]
  | d + 1, i, k + 1, h, hk => by
    have ih := laws_eqPairS_l0 l hl d (i + 1) k (by omega) (by omega)
    rw [laws_eqPairS.l0, if_pos (by omega), if_pos (by omega), if_pos (by omega), Th.wrap_small (by omega) (by omega)]
    simp only [laws_eqPair.f, if_true, Option.bind_some]
    exact ih
theorem laws_eqPairS_refl (l : List S71) (hl : l.length ≤ 4294967296) (k : Nat) (hk : l.length + 2 ≤ k) : laws_eqPairS.f k l l = some true := by
  unfold laws_eqPairS.f
  rw [if_pos rfl]
  exact laws_eqPairS_l0 l hl l.length 0 k (by omega) (by omega)
theorem laws_eqPageS_l0 (l : List S64) (hl : l.length ≤ 1048576) (hc : (Th.cat S64.f0 l).length ≤ 1048576) : ∀ (d i k : Nat), i + d = l.length → d + (Th.cat S64.f0 l).length + 2 < k → laws_eqPageS.l0 k l l (i : Int) = some true
  | _, _, 0, _, h => by omega
  | 0, i, k + 1, h, _ => by rw [laws_eqPageS.l0, if_neg (by omega)]
  | d + 1, i, k + 1, h, hk => by
    have hi : i < l.length := by omega
    have hm := Th.cat_mem S64.f0 l _ (Th.getD_mem z64 l i hi)
    have ih := laws_eqPageS_l0 l hl hc d (i + 1) k (by omega) (by omega)
    rw [laws_eqPageS.l0, if_pos (by omega), if_pos (by omega), if_pos (by omega), show rd_T64 l (i : Int) = l.getD i z64 from rfl, Th.wrap_small (by omega) (by omega)]
    unfold laws_eqPage.f
    rw [laws_eqPairS_refl _ (by omega) k (by omega), Option.bind_some, if_pos rfl, Option.bind_some, if_pos rfl]
    exact ih
theorem laws_eqPageS_refl (l : List S64) (hl : l.length ≤ 1048576) (hc : (Th.cat S64.f0 l).length ≤ 1048576) (k : Nat) (hk : l.length + (Th.cat S64.f0 l).length + 5 ≤ k) : laws_eqPageS.f k l l = some true := by
  unfold laws_eqPageS.f
  rw [if_pos rfl]
  exact laws_eqPageS_l0 l hl hc l.length 0 k (by omega) (by omega)
theorem laws_szPair_le (a : ByteArray) (v n : Int) (ha : a.size ≤ maxLen) (h0 : 0 ≤ n) (hn : n ≤ 1048576) : ∃ t, laws_szPair.f a v n = some t ∧ t ≤ 1048576 := by
  simp only [maxLen] at ha
  unfold laws_szPair.f
  rw [Th.wrap_small (by omega) (by omega)]
  by_cases h : n - (a.size : Int) < 0
  · rw [if_pos h]; exact ⟨_, rfl, by omega⟩
  · rw [if_neg h]; exact ⟨_, rfl, by omega⟩
theorem laws_szPairS_l0 (l : List S96) (hl : l.length ≤ maxLen) (hw : ∀ a ∈ l, a.f0.size ≤ maxLen) : ∀ (d i : Nat) (n : Int), i + d = l.length → 0 ≤ n → n ≤ 1048576 → ∃ t, t ≤ 1048576 ∧ ∀ k, d < k → laws_szPairS.l0 k l n (i : Int) = some t
  | 0, i, n, h, h0, hn => by
    refine ⟨n, hn, fun k hk => ?_⟩
    obtain ⟨k, rfl⟩ : ∃ m, k = m + 1 := ⟨k - 1, by omega⟩
    rw [laws_szPairS.l0, if_neg (by omega)]
  | d + 1, i, n, h, h0, hn => by
    simp only [maxLen] at hl
    have hi : i < l.length := by omega
    obtain ⟨t, ht, ht1⟩ := laws_szPair_le (l.getD i z96).f0 (l.getD i z96).f1 n (hw _ (Th.getD_mem _ l i hi)) h0 hn
    have step : ∀ k, laws_szPairS.l0 (k + 1) l n (i : Int) = if t < 0 then some (-1) else laws_szPairS.l0 k l t ((i + 1 : Nat) : Int) := by
      intro k
      rw [laws_szPairS.l0, if_pos (by omega), if_pos (by omega), show rd_T96 l (i : Int) = l.getD i z96 from rfl, ht, Option.bind_some, Th.wrap_small (by omega) (by omega)]
      rfl
    by_cases hn' : t < 0
    · refine ⟨-1, by omega, fun k hk => ?_⟩
      obtain ⟨k, rfl⟩ : ∃ m, k = m + 1 := ⟨k - 1, by omega⟩
      rw [step, if_pos hn']
    · obtain ⟨t2, ht2, hk2⟩ := laws_szPairS_l0 l hl hw d (i + 1) t (by omega) (by omega) ht1
      refine ⟨t2, ht2, fun k hk => ?_⟩
      obtain ⟨k, rfl⟩ : ∃ m, k = m + 1 := ⟨k - 1, by omega⟩
      rw [step, if_neg hn', hk2 k (by omega)]
theorem laws_szPairS_tot (l : List S96) (n : Int) (h0 : 0 ≤ n) (hn : n ≤ 1048576) (hw : l.length ≤ maxLen ∧ ∀ a ∈ l, a.f0.size ≤ maxLen ∧ (Lit.int .i64 a.f1).wf = true) : ∃ t, t ≤ 1048576 ∧ (0 ≤ t → l.length ≤ 1048576) ∧ ∀ k, l.length + 2 ≤ k → laws_szPairS.f k l n = some t := by
  have hl := hw.1
  simp only [maxLen] at hl
  unfold laws_szPairS.f
  rw [Th.wrap_small (by omega) (by omega)]
  by_cases h : n - (l.length : Int) < 0
  · simp only [if_pos h]
    exact ⟨-1, by omega, by omega, fun _ _ => rfl⟩
  · simp only [if_neg h]
    obtain ⟨t, ht, hk⟩ := laws_szPairS_l0 l hw.1 (fun a ha => (hw.2 a ha).1) l.length 0 (n - (l.length : Int)) (by omega) (by omega) (by omega)
    exact ⟨t, ht, fun _ => by omega, fun k h => hk k (by omega)⟩
def toP (x : S96) : S71 := ⟨x.f0, x.f1⟩
theorem laws_toPairS_l0 (l : List S96) (hl : l.length ≤ 1048576) : ∀ (d i k : Nat) (o : List S71), i + d = l.length → d < k → o.length = l.length → o.take i = (l.take i).map toP → laws_toPairS.l0 k l o (i : Int) = some (l.map toP)
  | _, _, 0, _, _, h, _, _ => by omega
  | 0, i, k + 1, o, h, _, ho, ht => by
    rw [laws_toPairS.l0, if_neg (by omega)]
    rw [List.take_of_length_le (by omega), List.take_of_length_le (by omega)] at ht
    rw [ht]
  | d + 1, i, k + 1, o, h, hk, ho, ht => by
    have hi : i < l.length := by omega
    have ih := laws_toPairS_l0 l hl d (i + 1) k (o.set i (toP (l.getD i z96))) (by omega) (by omega) (by rw [List.length_set]; exact ho) (by
      rw [Th.take_set_succ _ _ _ (by omega), ht, List.take_succ_eq_append_getElem hi, List.map_append, Th.getD_at _ l i hi]; rfl)
    rw [laws_toPairS.l0, if_pos (by omega), if_pos (by omega), show rd_T96 l (i : Int) = l.getD i z96 from rfl]
    simp only [laws_toPair.f, Option.bind_some]
    rw [if_pos (by omega), Th.wrap_small (by omega) (by omega)]
    exact ih
theorem laws_toPairS_eq (l : List S96) (hl : l.length ≤ 1048576) (k : Nat) (hk : l.length + 2 ≤ k) : laws_toPairS.f k l = some (l.map toP) := by
  unfold laws_toPairS.f
  rw [if_pos (by omega), if_pos (by rw [Int.toNat_natCast]; omega)]
  exact laws_toPairS_l0 l hl l.length 0 k _ (by omega) (by omega) (by simp) (by simp)
theorem laws_markText_l0 : ∀ (d : Nat) (n : Int) (s : ByteArray), n < (10 : Int) ^ d → s.size + d ≤ 1000 → ∃ r, ∀ k, d < k → laws_markText.l0 k n s = some r
  | 0, n, s, hn, hs => by
    refine ⟨(⟨#[109]⟩ : ByteArray) ++ s, fun k hk => ?_⟩
    obtain ⟨k, rfl⟩ : ∃ m, k = m + 1 := ⟨k - 1, by omega⟩
    rw [Int.pow_zero] at hn
    rw [laws_markText.l0, if_neg (by omega), if_pos (by omega)]
  | d + 1, n, s, hn, hs => by
    by_cases h : n > 0
    · have h10 : n / 10 < (10 : Int) ^ d := by
        rw [Int.pow_succ] at hn
        exact Int.ediv_lt_of_lt_mul (by omega) hn
      have hsz : ∀ y : List Int, (strOfNums y).size = y.length := strOfNums_size
      obtain ⟨r, hr⟩ := laws_markText_l0 d (n / 10) (strOfNums [(wrap64 (48 + Int.tmod n 10)) % 256] ++ s) h10 (by rw [ByteArray.size_append, hsz]; simp only [List.length_cons, List.length_nil]; omega)
      by_cases hb : n ≤ 9223372036854775807
      · refine ⟨r, fun k hk => ?_⟩
        obtain ⟨k, rfl⟩ : ∃ m, k = m + 1 := ⟨k - 1, by omega⟩
        have e3 : wrap64 (Int.tdiv n 10) = n / 10 := by
          rw [Int.tdiv_eq_ediv_of_nonneg (by omega)]
          exact Th.wrap_small (by omega) (by omega)
        rw [laws_markText.l0, if_pos h, Option.bind_some, if_pos (by rw [hsz]; simp only [List.length_cons, List.length_nil]; omega), e3]
        exact hr k (by omega)
      · obtain ⟨r2, hr2⟩ : ∃ r, ∀ k, d < k → laws_markText.l0 k (wrap64 (Int.tdiv n 10)) (strOfNums [(wrap64 (48 + Int.tmod n 10)) % 256] ++ s) = some r := by
          refine laws_markText_l0 d _ _ ?_ (by rw [ByteArray.size_append, hsz]; simp only [List.length_cons, List.length_nil]; omega)
          rw [Int.tdiv_eq_ediv_of_nonneg (by omega)]
          have : wrap64 (n / 10) ≤ n / 10 := by unfold wrap64; omega
          omega
        refine ⟨r2, fun k hk => ?_⟩
        obtain ⟨k, rfl⟩ : ∃ m, k = m + 1 := ⟨k - 1, by omega⟩
        rw [laws_markText.l0, if_pos h, Option.bind_some, if_pos (by rw [hsz]; simp only [List.length_cons, List.length_nil]; omega)]
        exact hr2 k (by omega)
    · refine ⟨(⟨#[109]⟩ : ByteArray) ++ s, fun k hk => ?_⟩
      obtain ⟨k, rfl⟩ : ∃ m, k = m + 1 := ⟨k - 1, by omega⟩
      rw [laws_markText.l0, if_neg h, if_pos (by omega)]
theorem laws_markText_tot (n : Int) (hn : n < 10 ^ 15) : ∃ r, ∀ k, 1000 ≤ k → laws_markText.f k n = some r := by
  unfold laws_markText.f
  by_cases h : n ≤ 0
  · simp only [if_pos h]
    exact ⟨_, fun _ _ => rfl⟩
  · simp only [if_neg h]
    obtain ⟨r, hr⟩ := laws_markText_l0 15 n (⟨#[]⟩ : ByteArray) hn (by show 0 + 15 ≤ 1000; omega)
    exact ⟨r, fun k hk => hr k (by omega)⟩
/-- the text of a mark -/
noncomputable def mt (n : Int) : ByteArray := if h : n < 10 ^ 15 then Classical.choose (laws_markText_tot n h) else Th.mkS []
theorem laws_markText_eq (n : Int) (k : Nat) (hn : n < 1000000000000000) (hk : 1000 ≤ k) : laws_markText.f k n = some (mt n) := by
  have h : n < 10 ^ 15 := hn
  unfold mt
  rw [dif_pos h]
  exact Classical.choose_spec (laws_markText_tot n h) k hk
theorem laws_markPairS_l0 : ∀ (d i : Nat) (l : List S71) (n : Int), i + d = l.length → l.length ≤ 4294967296 → 0 ≤ n → n + 2 * d ≤ 1099511627776 → ∃ l' : List S71, l'.length = l.length ∧ l'.take i = l.take i ∧
    (∀ k, d + 1001 ≤ k → laws_markPairS.l0 k l n (i : Int) = some (n + 2 * d, l')) ∧ (∀ k, d + 1001 ≤ k → laws_heldPairS.l0 k l' n (i : Int) = some (n + 2 * d))
  | 0, i, l, n, h, hl, h0, hn => by
    refine ⟨l, rfl, rfl, fun k hk => ?_, fun k hk => ?_⟩
    · obtain ⟨k, rfl⟩ : ∃ m, k = m + 1 := ⟨k - 1, by omega⟩
      rw [laws_markPairS.l0, if_neg (by omega)]
      simp
    · obtain ⟨k, rfl⟩ : ∃ m, k = m + 1 := ⟨k - 1, by omega⟩
      rw [laws_heldPairS.l0, if_neg (by omega)]
      simp
  | d + 1, i, l, n, h, hl, h0, hn => by
    have hi : i < l.length := by omega
    have hw : wrap64 ((i : Int) + 1) = ((i + 1 : Nat) : Int) := by rw [Th.wrap_small (by omega) (by omega)]; omega
    have hn1 : wrap64 (n + 1) = n + 1 := Th.wrap_small (by omega) (by omega)
    have hn2 : wrap64 (n + 1 + 1) = n + 2 := by rw [Th.wrap_small (by omega) (by omega)]; omega
    obtain ⟨l', h1, h2, h3, h4⟩ := laws_markPairS_l0 d (i + 1) (l.set i ⟨mt n, n + 1⟩) (n + 2) (by rw [List.length_set]; omega) (by rw [List.length_set]; omega) (by omega) (by omega)
    rw [List.length_set] at h1
    rw [Th.take_set_succ _ _ _ hi] at h2
    have hg : l'.getD i z71 = ⟨mt n, n + 1⟩ := by
      rw [← Th.getD_take _ l' i (i + 1) (by omega), h2]
      exact Th.getD_snoc _ _ _ _ (by rw [List.length_take]; omega)
    have e2 : n + 2 + 2 * (d : Int) = n + 2 * ((d + 1 : Nat) : Int) := by omega
    refine ⟨l', h1, ?_, fun k hk => ?_, fun k hk => ?_⟩
    · have := congrArg (List.take i) h2
      rw [List.take_take, Nat.min_eq_left (by omega), List.take_append_of_le_length (by rw [List.length_take]; omega), List.take_take, Nat.min_self] at this
      exact this
    · obtain ⟨k, rfl⟩ : ∃ m, k = m + 1 := ⟨k - 1, by omega⟩
      have hs : (l.set i ⟨mt n, (l.getD i z71).f1⟩).getD i z71 = ⟨mt n, (l.getD i z71).f1⟩ := by
        rw [Th.getD_at _ _ i (by rw [List.length_set]; exact hi), List.getElem_set_self]
      rw [laws_markPairS.l0, if_pos (by omega), laws_markText_eq n k (by omega) (by omega), Option.bind_some, if_pos (by omega), Option.bind_some, hn1, hn2, hw]
      show laws_markPairS.l0 k ((l.set i ⟨mt n, (l.getD i z71).f1⟩).set i ⟨((l.set i ⟨mt n, (l.getD i z71).f1⟩).getD i z71).f0, n + 1⟩) _ _ = _
      rw [hs, List.set_set, h3 k (by omega), e2]
    · obtain ⟨k, rfl⟩ : ∃ m, k = m + 1 := ⟨k - 1, by omega⟩
      rw [laws_heldPairS.l0, if_pos (by omega), if_pos (by omega), laws_markText_eq n k (by omega) (by omega), Option.bind_some, show rd_T71 l' (i : Int) = l'.getD i z71 from rfl, hg, if_pos rfl, hn1, if_pos rfl, hn2, hw, h4 k (by omega), e2]
theorem laws_markPairS_eq (l : List S71) (n : Int) (hl : l.length ≤ 4294967296) (h0 : 0 ≤ n) (hn : n ≤ 8589934592) : ∃ l' : List S71, l'.length = l.length ∧ (∀ k, l.length + 1001 ≤ k → laws_markPairS.f k l n = some (n + 2 * l.length, l')) ∧ (∀ k, l.length + 1001 ≤ k → laws_heldPairS.f k l' n = some (n + 2 * l.length)) := by
  obtain ⟨l', h1, _, h3, h4⟩ := laws_markPairS_l0 l.length 0 l n (by omega) hl h0 (by omega)
  exact ⟨l', h1, h3, h4⟩
theorem laws_markPageS_l0 (C : Nat) (hC : C ≤ 1048576) : ∀ (d i : Nat) (l : List S64) (n : Int), i + d = l.length → l.length ≤ 1048576 → (Th.cat S64.f0 (l.drop i)).length ≤ C → 0 ≤ n → n + 2 * ((Th.cat S64.f0 (l.drop i)).length : Int) ≤ 8589934592 → ∃ l' : List S64, l'.length = l.length ∧ l'.take i = l.take i ∧
    (∀ k, d + C + 1002 ≤ k → laws_markPageS.l0 k l n (i : Int) = some (n + 2 * ((Th.cat S64.f0 (l.drop i)).length : Int), l')) ∧ (∀ k, d + C + 1002 ≤ k → laws_heldPageS.l0 k l' n (i : Int) = some (n + 2 * ((Th.cat S64.f0 (l.drop i)).length : Int)))
  | 0, i, l, n, h, hl, hc, h0, hn => by
    have e : Th.cat S64.f0 (l.drop i) = [] := by rw [List.drop_of_length_le (by omega)]; rfl
    rw [e]
    refine ⟨l, rfl, rfl, fun k hk => ?_, fun k hk => ?_⟩
    · obtain ⟨k, rfl⟩ : ∃ m, k = m + 1 := ⟨k - 1, by omega⟩
      rw [laws_markPageS.l0, if_neg (by omega)]
      simp
    · obtain ⟨k, rfl⟩ : ∃ m, k = m + 1 := ⟨k - 1, by omega⟩
      rw [laws_heldPageS.l0, if_neg (by omega)]
      simp
  | d + 1, i, l, n, h, hl, hc, h0, hn => by
    have hi : i < l.length := by omega
    have hw : wrap64 ((i : Int) + 1) = ((i + 1 : Nat) : Int) := by rw [Th.wrap_small (by omega) (by omega)]; omega
    rw [Th.cat_drop S64.f0 z64 l i hi, List.length_append] at hc hn ⊢
    obtain ⟨p', hp1, hp2, hp3⟩ := laws_markPairS_eq (l.getD i z64).f0 n (by omega) h0 (by omega)
    have hds : (l.set i (⟨p'⟩ : S64)).drop (i + 1) = l.drop (i + 1) := List.drop_set_of_lt (by omega)
    obtain ⟨l', h1, h2, h3, h4⟩ := laws_markPageS_l0 C hC d (i + 1) (l.set i ⟨p'⟩) (n + 2 * ((l.getD i z64).f0.length : Int)) (by rw [List.length_set]; omega) (by rw [List.length_set]; omega) (by rw [hds]; omega) (by omega) (by rw [hds]; omega)
    rw [hds] at h3 h4
    rw [List.length_set] at h1
    rw [Th.take_set_succ _ _ _ hi] at h2
    have hg : l'.getD i z64 = ⟨p'⟩ := by
      rw [← Th.getD_take _ l' i (i + 1) (by omega), h2]
      exact Th.getD_snoc _ _ _ _ (by rw [List.length_take]; omega)
    have e2 : n + 2 * ((l.getD i z64).f0.length : Int) + 2 * ((Th.cat S64.f0 (l.drop (i + 1))).length : Int) = n + 2 * (((l.getD i z64).f0.length + (Th.cat S64.f0 (l.drop (i + 1))).length : Nat) : Int) := by omega
    refine ⟨l', h1, ?_, fun k hk => ?_, fun k hk => ?_⟩
    · have := congrArg (List.take i) h2
      rw [List.take_take, Nat.min_eq_left (by omega), List.take_append_of_le_length (by rw [List.length_take]; omega), List.take_take, Nat.min_self] at this
      exact this
    · obtain ⟨k, rfl⟩ : ∃ m, k = m + 1 := ⟨k - 1, by omega⟩
      rw [laws_markPageS.l0, if_pos (by omega), if_pos (by omega), show rd_T64 l (i : Int) = l.getD i z64 from rfl, hp2 k (by omega), Option.bind_some, hw]
      show laws_markPageS.l0 k (l.set i ⟨p'⟩) _ _ = _
      rw [h3 k (by omega), e2]
    · obtain ⟨k, rfl⟩ : ∃ m, k = m + 1 := ⟨k - 1, by omega⟩
      rw [laws_heldPageS.l0, if_pos (by omega), if_pos (by omega), show rd_T64 l' (i : Int) = l'.getD i z64 from rfl, hg]
      show (laws_heldPairS.f k p' n).bind _ = _
      rw [hp3 k (by omega), Option.bind_some, if_neg (by omega), hw, h4 k (by omega), e2]
theorem laws_markPageS_eq (l : List S64) (hl : l.length ≤ 1048576) (hc : (Th.cat S64.f0 l).length ≤ 1048576) : ∃ l' : List S64, (∀ k, l.length + (Th.cat S64.f0 l).length + 1002 ≤ k → laws_markPageS.f k l 1 = some (1 + 2 * ((Th.cat S64.f0 l).length : Int), l')) ∧ (∀ k, l.length + (Th.cat S64.f0 l).length + 1002 ≤ k → laws_heldPageS.f k l' 1 = some (1 + 2 * ((Th.cat S64.f0 l).length : Int))) := by
  obtain ⟨l', _, _, h3, h4⟩ := laws_markPageS_l0 _ hc l.length 0 l 1 (by omega) hl (by rw [List.drop_zero]; exact Nat.le_refl _) (by omega) (by rw [List.drop_zero]; omega)
  rw [List.drop_zero] at h3 h4
  exact ⟨l', h3, h4⟩
theorem FnExactPagesOf : laws_FnExactPagesOf.Pure := by
  intro l hw
  obtain ⟨t, ht, hl0, hs⟩ := laws_szPairS_tot l 1048576 (by omega) (by omega) hw
  generalize hM : l.length + 8000 = M
  refine ⟨M, ?_⟩
  unfold laws_FnExactPagesOf.f
  rw [hs M (by omega), Option.bind_some]
  by_cases h : t < 0
  · rw [if_pos h]
  have hl := hl0 (by omega)
  have e1 := laws_toPairS_eq l hl M (by omega)
  have e3 : (l.map toP).length = l.length := List.length_map ..
  generalize l.map toP = A at *
  have eJ : (Th.ofPg S71.f0 S71.f1 S64.mk A).length ≤ 48 ∧ (Th.cat S64.f0 (Th.ofPg S71.f0 S71.f1 S64.mk A)).length ≤ 48 := by
    unfold Th.ofPg
    by_cases c : Th.pv S71.f0 S71.f1 A = true
    · have hP := (Th.pv_iff _ _ _).1 c
      obtain ⟨g1, g2, g3⟩ := Th.of_ok S71.f0 S71.f1 S64.f0 S64.mk (fun _ => rfl) A hP
      have h1 := Th.pgv_len _ _ _ _ g1
      have h2 := hP.1
      rw [if_pos c, g2]
      exact ⟨h1, h2⟩
    · rw [if_neg c]
      simp [Th.cat]
  have eS := spec_PagesOf_eq A M (by omega)
  have eI := impl_PagesOf_eq A M (by omega)
  generalize Th.ofPg S71.f0 S71.f1 S64.mk A = J at *
  obtain ⟨A', _, a2, _⟩ := laws_markPairS_eq A 1 (by omega) (by omega) (by omega)
  obtain ⟨J', j2, j3⟩ := laws_markPageS_eq J (by omega) (by omega)
  rw [if_neg h, e1, Option.bind_some, eS, Option.bind_some, eI, Option.bind_some, laws_eqPageS_refl _ (by omega) (by omega) _ (by omega), Option.bind_some, laws_eqPairS_refl A (by omega) M (by omega), Option.bind_some, a2 M (by omega), Option.bind_some, j2 M (by omega), Option.bind_some, j3 M (by omega), Option.bind_some, if_pos ⟨rfl, rfl, by simp only []; omega, by omega, rfl⟩]

end Go.Proofs.Ytebgpbcbbjpbfaa.Pure
