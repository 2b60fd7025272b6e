/- The plain law of FnExactPairPut: what the printed functions compute, and that it answers true: for every input that the statement lets in. -/
import Derived.Test.YtakgmbeglcehcaaPFnExactPairPutx
import Derived.Test.YtakgmbeglcehcaaSFnExactPairPut
import Derived.Test.YtakgmbeglcehcaaThA
import Derived.Test.YtakgmbeglcehcaaThB
import Derived.Test.YtakgmbeglcehcaaThC
import Derived.Test.YtakgmbeglcehcaaThD
namespace Go.Proofs.Ytakgmbeglcehcaa.Pure
open Go Go.RowKit Go.Proofs.Ytakgmbeglcehcaa.PFnExactPairPut Go.Proofs.YtakgmbeglcehcaaW.PrintWords Go.Proofs.YtakgmbeglcehcaaW.PrintLast Go.Proofs.Ytakgmbeglcehcaa
set_option linter.unusedVariables false
set_option linter.unusedSimpArgs false
set_option maxRecDepth 10000
theorem laws_szPair_le (a : ByteArray) (v n : Int) (ha : a.size ≤ maxLen) (h0 : 0 ≤ n) (hn : n ≤ 1048576) : ∃ t, laws_szPair.f a v n = some t ∧ t ≤ 1048576 := by
  simp only [maxLen] at ha
  unfold laws_szPair.f
  rw [Th.wrap_small (by omega) (by omega)]
  by_cases h : n - (a.size : Int) < 0
  · rw [if_pos h]; exact ⟨_, rfl, by omega⟩
  · rw [if_neg h]; exact ⟨_, rfl, by omega⟩
theorem laws_szPairS_l0 (l : List S66) (hl : l.length ≤ maxLen) (hw : ∀ a ∈ l, a.f0.size ≤ maxLen) : ∀ (d i : Nat) (n : Int), i + d = l.length → 0 ≤ n → n ≤ 1048576 → ∃ t, t ≤ 1048576 ∧ ∀ k, d < k → laws_szPairS.l0 k l n (i : Int) = some t
  | 0, i, n, h, h0, hn => by
    refine ⟨n, hn, fun k hk => ?_⟩
    obtain ⟨k, rfl⟩ : ∃ m, k = m + 1 := ⟨k - 1, by omega⟩
    rw [laws_szPairS.l0, if_neg (by omega)]
  | d + 1, i, n, h, h0, hn => by
    simp only [maxLen] at hl
    have hi : i < l.length := by omega
    obtain ⟨t, ht, ht1⟩ := laws_szPair_le (l.getD i z66).f0 (l.getD i z66).f1 n (hw _ (Th.getD_mem _ l i hi)) h0 hn
    have step : ∀ k, laws_szPairS.l0 (k + 1) l n (i : Int) = if t < 0 then some (-1) else laws_szPairS.l0 k l t ((i + 1 : Nat) : Int) := by
      intro k
      rw [laws_szPairS.l0, if_pos (by omega), if_pos (by omega), show rd_T66 l (i : Int) = l.getD i z66 from rfl, ht, Option.bind_some, Th.wrap_small (by omega) (by omega)]
      rfl
    by_cases hn' : t < 0
    · refine ⟨-1, by omega, fun k hk => ?_⟩
      obtain ⟨k, rfl⟩ : ∃ m, k = m + 1 := ⟨k - 1, by omega⟩
      rw [step, if_pos hn']
    · obtain ⟨t2, ht2, hk2⟩ := laws_szPairS_l0 l hl hw d (i + 1) t (by omega) (by omega) ht1
      refine ⟨t2, ht2, fun k hk => ?_⟩
      obtain ⟨k, rfl⟩ : ∃ m, k = m + 1 := ⟨k - 1, by omega⟩
      rw [step, if_neg hn', hk2 k (by omega)]
theorem laws_szPairS_tot (l : List S66) (n : Int) (h0 : 0 ≤ n) (hn : n ≤ 1048576) (hw : l.length ≤ maxLen ∧ ∀ a ∈ l, a.f0.size ≤ maxLen ∧ (Lit.int .i64 a.f1).wf = true) : ∃ t, t ≤ 1048576 ∧ (0 ≤ t → l.length ≤ 1048576) ∧ ∀ k, l.length + 2 ≤ k → laws_szPairS.f k l n = some t := by
  have hl := hw.1
  simp only [maxLen] at hl
  unfold laws_szPairS.f
  rw [Th.wrap_small (by omega) (by omega)]
  by_cases h : n - (l.length : Int) < 0
  · simp only [if_pos h]
    exact ⟨-1, by omega, by omega, fun _ _ => rfl⟩
  · simp only [if_neg h]
    obtain ⟨t, ht, hk⟩ := laws_szPairS_l0 l hw.1 (fun a ha => (hw.2 a ha).1) l.length 0 (n - (l.length : Int)) (by omega) (by omega) (by omega)
    exact ⟨t, ht, fun _ => by omega, fun k h => hk k (by omega)⟩
def toP (x : S66) : S69 := ⟨x.f0, x.f1⟩
theorem laws_toPairS_l0 (l : List S66) (hl : l.length ≤ 1048576) : ∀ (d i k : Nat) (o : List S69), i + d = l.length → d < k → o.length = l.length → o.take i = (l.take i).map toP → laws_toPairS.l0 k l o (i : Int) = some (l.map toP)
  | _, _, 0, _, _, h, _, _ => by omega
  | 0, i, k + 1, o, h, _, ho, ht => by
    rw [laws_toPairS.l0, if_neg (by omega)]
    rw [List.take_of_length_le (by omega), List.take_of_length_le (by omega)] at ht
    rw [ht]
  | d + 1, i, k + 1, o, h, hk, ho, ht => by
    have hi : i < l.length := by omega
    have ih := laws_toPairS_l0 l hl d (i + 1) k (o.set i (toP (l.getD i z66))) (by omega) (by omega) (by rw [List.length_set]; exact ho) (by
      rw [Th.take_set_succ _ _ _ (by omega), ht, List.take_succ_eq_append_getElem hi, List.map_append, Th.getD_at _ l i hi]; rfl)
    rw [laws_toPairS.l0, if_pos (by omega), if_pos (by omega), show rd_T66 l (i : Int) = l.getD i z66 from rfl]
    simp only [laws_toPair.f, Option.bind_some]
    rw [if_pos (by omega), Th.wrap_small (by omega) (by omega)]
    exact ih
theorem laws_toPairS_eq (l : List S66) (hl : l.length ≤ 1048576) (k : Nat) (hk : l.length + 2 ≤ k) : laws_toPairS.f k l = some (l.map toP) := by
  unfold laws_toPairS.f
  rw [if_pos (by omega), if_pos (by rw [Int.toNat_natCast]; omega)]
  exact laws_toPairS_l0 l hl l.length 0 k _ (by omega) (by omega) (by simp) (by simp)
theorem laws_eqPairS_l0 (l : List S69) (hl : l.length ≤ 4294967296) : ∀ (d i k : Nat), i + d = l.length → d < k → laws_eqPairS.l0 k l l (i : Int) = some true
  | _, _, 0, _, h => by omega
  | 0, i, k + 1, h, _ => by rw [laws_eqPairS.l0, if_neg (by omega)]
  | d + 1, i, k + 1, h, hk => by
    have ih := laws_eqPairS_l0 l hl d (i + 1) k (by omega) (by omega)
    rw [laws_eqPairS.l0, if_pos (by omega), if_pos (by omega), if_pos (by omega), Th.wrap_small (by omega) (by omega)]
    simp only [laws_eqPair.f, if_true, Option.bind_some]
    exact ih
theorem laws_eqPairS_refl (l : List S69) (hl : l.length ≤ 4294967296) (k : Nat) (hk : l.length + 2 ≤ k) : laws_eqPairS.f k l l = some true := by
  unfold laws_eqPairS.f
  rw [if_pos rfl]
  exact laws_eqPairS_l0 l hl l.length 0 k (by omega) (by omega)
theorem laws_markText_l0 : ∀ (d : Nat) (n : Int) (s : ByteArray), n < (10 : Int) ^ d → s.size + d ≤ 1000 → ∃ r, ∀ k, d < k → laws_markText.l0 k n s = some r
  | 0, n, s, hn, hs => by
    refine ⟨(⟨#[109]⟩ : ByteArray) ++ s, fun k hk => ?_⟩
    obtain ⟨k, rfl⟩ : ∃ m, k = m + 1 := ⟨k - 1, by omega⟩
    rw [Int.pow_zero] at hn
    rw [laws_markText.l0, if_neg (by omega), if_pos (by omega)]
  | d + 1, n, s, hn, hs => by
    by_cases h : n > 0
    · have h10 : n / 10 < (10 : Int) ^ d := by
        rw [Int.pow_succ] at hn
        exact Int.ediv_lt_of_lt_mul (by omega) hn
      have hsz : ∀ y : List Int, (strOfNums y).size = y.length := strOfNums_size
      obtain ⟨r, hr⟩ := laws_markText_l0 d (n / 10) (strOfNums [(wrap64 (48 + Int.tmod n 10)) % 256] ++ s) h10 (by rw [ByteArray.size_append, hsz]; simp only [List.length_cons, List.length_nil]; omega)
      by_cases hb : n ≤ 9223372036854775807
      · refine ⟨r, fun k hk => ?_⟩
        obtain ⟨k, rfl⟩ : ∃ m, k = m + 1 := ⟨k - 1, by omega⟩
        have e3 : wrap64 (Int.tdiv n 10) = n / 10 := by
          rw [Int.tdiv_eq_ediv_of_nonneg (by omega)]
          exact Th.wrap_small (by omega) (by omega)
        rw [laws_markText.l0, if_pos h, Option.bind_some, if_pos (by rw [hsz]; simp only [List.length_cons, List.length_nil]; omega), e3]
        exact hr k (by omega)
      · obtain ⟨r2, hr2⟩ : ∃ r, ∀ k, d < k → laws_markText.l0 k (wrap64 (Int.tdiv n 10)) (strOfNums [(wrap64 (48 + Int.tmod n 10)) % 256] ++ s) = some r := by
          refine laws_markText_l0 d _ _ ?_ (by rw [ByteArray.size_append, hsz]; simp only [List.length_cons, List.length_nil]; omega)
          rw [Int.tdiv_eq_ediv_of_nonneg (by omega)]
          have : wrap64 (n / 10) ≤ n / 10 := by unfold wrap64; omega
          omega
        refine ⟨r2, fun k hk => ?_⟩
        obtain ⟨k, rfl⟩ : ∃ m, k = m + 1 := ⟨k - 1, by omega⟩
        rw [laws_markText.l0, if_pos h, Option.bind_some, if_pos (by rw [hsz]; simp only [List.length_cons, List.length_nil]; omega)]
        exact hr2 k (by omega)
    · refine ⟨(⟨#[109]⟩ : ByteArray) ++ s, fun k hk => ?_⟩
      obtain ⟨k, rfl⟩ : ∃ m, k = m + 1 := ⟨k - 1, by omega⟩
      rw [laws_markText.l0, if_neg h, if_pos (by omega)]
theorem laws_markText_tot (n : Int) (hn : n < 10 ^ 15) : ∃ r, ∀ k, 1000 ≤ k → laws_markText.f k n = some r := by
  unfold laws_markText.f
  by_cases h : n ≤ 0
  · simp only [if_pos h]
    exact ⟨_, fun _ _ => rfl⟩
  · simp only [if_neg h]
    obtain ⟨r, hr⟩ := laws_markText_l0 15 n (⟨#[]⟩ : ByteArray) hn (by show 0 + 15 ≤ 1000; omega)
    exact ⟨r, fun k hk => hr k (by omega)⟩
/-- the text of a mark -/
noncomputable def mt (n : Int) : ByteArray := if h : n < 10 ^ 15 then Classical.choose (laws_markText_tot n h) else Th.mkS []
theorem laws_markText_eq (n : Int) (k : Nat) (hn : n < 1000000000000000) (hk : 1000 ≤ k) : laws_markText.f k n = some (mt n) := by
  have h : n < 10 ^ 15 := hn
  unfold mt
  rw [dif_pos h]
  exact Classical.choose_spec (laws_markText_tot n h) k hk
theorem laws_markPairS_l0 : ∀ (d i : Nat) (l : List S69) (n : Int), i + d = l.length → l.length ≤ 4294967296 → 0 ≤ n → n + 2 * d ≤ 1099511627776 → ∃ l' : List S69, l'.length = l.length ∧ l'.take i = l.take i ∧
    (∀ k, d + 1001 ≤ k → laws_markPairS.l0 k l n (i : Int) = some (n + 2 * d, l')) ∧ (∀ k, d + 1001 ≤ k → laws_heldPairS.l0 k l' n (i : Int) = some (n + 2 * d))
  | 0, i, l, n, h, hl, h0, hn => by
    refine ⟨l, rfl, rfl, fun k hk => ?_, fun k hk => ?_⟩
    · obtain ⟨k, rfl⟩ : ∃ m, k = m + 1 := ⟨k - 1, by omega⟩
      rw [laws_markPairS.l0, if_neg (by omega)]
      simp
    · obtain ⟨k, rfl⟩ : ∃ m, k = m + 1 := ⟨k - 1, by omega⟩
      rw [laws_heldPairS.l0, if_neg (by omega)]
      simp
  | d + 1, i, l, n, h, hl, h0, hn => by
    have hi : i < l.length := by omega
    have hw : wrap64 ((i : Int) + 1) = ((i + 1 : Nat) : Int) := by rw [Th.wrap_small (by omega) (by omega)]; omega
    have hn1 : wrap64 (n + 1) = n + 1 := Th.wrap_small (by omega) (by omega)
    have hn2 : wrap64 (n + 1 + 1) = n + 2 := by rw [Th.wrap_small (by omega) (by omega)]; omega
    obtain ⟨l', h1, h2, h3, h4⟩ := laws_markPairS_l0 d (i + 1) (l.set i ⟨mt n, n + 1⟩) (n + 2) (by rw [List.length_set]; omega) (by rw [List.length_set]; omega) (by omega) (by omega)
    rw [List.length_set] at h1
    rw [Th.take_set_succ _ _ _ hi] at h2
    have hg : l'.getD i z69 = ⟨mt n, n + 1⟩ := by
      rw [← Th.getD_take _ l' i (i + 1) (by omega), h2]
      exact Th.getD_snoc _ _ _ _ (by rw [List.length_take]; omega)
    have e2 : n + 2 + 2 * (d : Int) = n + 2 * ((d + 1 : Nat) : Int) := by omega
    refine ⟨l', h1, ?_, fun k hk => ?_, fun k hk => ?_⟩
    · have := congrArg (List.take i) h2
      rw [List.take_take, Nat.min_eq_left (by omega), List.take_append_of_le_length (by rw [List.length_take]; omega), List.take_take, Nat.min_self] at this
      exact this
    · obtain ⟨k, rfl⟩ : ∃ m, k = m + 1 := ⟨k - 1, by omega⟩
      have hs : (l.set i ⟨mt n, (l.getD i z69).f1⟩).getD i z69 = ⟨mt n, (l.getD i z69).f1⟩ := by
        rw [Th.getD_at _ _ i (by rw [List.length_set]; exact hi), List.getElem_set_self]
      rw [laws_markPairS.l0, if_pos (by omega), laws_markText_eq n k (by omega) (by omega), Option.bind_some, if_pos (by omega), Option.bind_some, hn1, hn2, hw]
      show laws_markPairS.l0 k ((l.set i ⟨mt n, (l.getD i z69).f1⟩).set i ⟨((l.set i ⟨mt n, (l.getD i z69).f1⟩).getD i z69).f0, n + 1⟩) _ _ = _
      rw [hs, List.set_set, h3 k (by omega), e2]
    · obtain ⟨k, rfl⟩ : ∃ m, k = m + 1 := ⟨k - 1, by omega⟩
      rw [laws_heldPairS.l0, if_pos (by omega), if_pos (by omega), laws_markText_eq n k (by omega) (by omega), Option.bind_some, show rd_T69 l' (i : Int) = l'.getD i z69 from rfl, hg, if_pos rfl, hn1, if_pos rfl, hn2, hw, h4 k (by omega), e2]
theorem laws_markPairS_eq (l : List S69) (n : Int) (hl : l.length ≤ 4294967296) (h0 : 0 ≤ n) (hn : n ≤ 8589934592) : ∃ l' : List S69, l'.length = l.length ∧ (∀ k, l.length + 1001 ≤ k → laws_markPairS.f k l n = some (n + 2 * l.length, l')) ∧ (∀ k, l.length + 1001 ≤ k → laws_heldPairS.f k l' n = some (n + 2 * l.length)) := by
  obtain ⟨l', h1, _, h3, h4⟩ := laws_markPairS_l0 l.length 0 l n (by omega) hl h0 (by omega)
  exact ⟨l', h1, h3, h4⟩
theorem spec_l1In_eq (a b c : Int) : spec_l1In.f a b c = some (decide (b ≤ a) && decide (a ≤ c)) := by
  unfold spec_l1In.f
  by_cases h : a ≥ b
  · rw [if_pos h, decide_eq_true (show b ≤ a from h), Bool.true_and]
  · rw [if_neg h, decide_eq_false (show ¬ b ≤ a from h), Bool.false_and]
theorem spec_KeyValid_l0 (l : List UInt8) (hl : l.length ≤ 4) : ∀ (d i k : Nat), i + d = l.length → d < k → spec_KeyValid.l0 k (Th.mkS l) (i : Int) = some ((l.drop i).all Th.letter)
  | _, _, 0, _, h => by omega
  | 0, i, k + 1, h, _ => by
    rw [spec_KeyValid.l0, if_neg (by rw [Th.size_mkS]; omega), List.drop_of_length_le (by omega)]; rfl
  | d + 1, i, k + 1, h, hk => by
    have ih := spec_KeyValid_l0 l hl d (i + 1) k (by omega) (by omega)
    have hi : i < l.length := by omega
    rw [spec_KeyValid.l0, if_pos (by rw [Th.size_mkS]; omega), if_pos (by omega), Th.bt_mkS l i hi, Th.wrap_small (by omega) (by omega), show ((i : Int) + 1) = ((i + 1 : Nat) : Int) by omega, ih, List.drop_eq_getElem_cons hi, List.all_cons]
    simp only [Th.letter]
    by_cases h1 : ((l[i]'hi).toNat : Int) < 97
    · rw [if_pos h1, decide_eq_false (show ¬ 97 ≤ ((l[i]'hi).toNat : Int) by omega)]; rfl
    · rw [if_neg h1, decide_eq_true (show 97 ≤ ((l[i]'hi).toNat : Int) by omega)]
      by_cases h2 : ((l[i]'hi).toNat : Int) > 122
      · rw [if_pos h2, decide_eq_false (show ¬ ((l[i]'hi).toNat : Int) ≤ 122 by omega)]; rfl
      · rw [if_neg h2, decide_eq_true (show ((l[i]'hi).toNat : Int) ≤ 122 by omega)]; rfl
theorem spec_KeyValid_eq (s : ByteArray) (k : Nat) (hk : 1000 ≤ k) : spec_KeyValid.f k s = some (Th.kv s) := by
  obtain ⟨l, rfl⟩ := Th.mkS_surj s
  unfold spec_KeyValid.f Th.kv Th.kvL
  rw [spec_l1In_eq, Th.toList_mkS, Th.size_mkS, Option.bind_some]
  by_cases h : 1 ≤ l.length ∧ l.length ≤ 4
  · have h0 := spec_KeyValid_l0 l h.2 l.length 0 k (by omega) (by omega)
    rw [show ((0 : Nat) : Int) = 0 from rfl] at h0
    rw [decide_eq_true (show (1 : Int) ≤ (l.length : Int) by omega), decide_eq_true (show (l.length : Int) ≤ 4 by omega), decide_eq_true h.1, decide_eq_true h.2, h0]
    rfl
  · by_cases h1 : 1 ≤ l.length
    · rw [decide_eq_false (show ¬ (l.length : Int) ≤ 4 by omega), decide_eq_false (show ¬ l.length ≤ 4 by omega)]; simp
    · rw [decide_eq_false (show ¬ (1 : Int) ≤ (l.length : Int) by omega), decide_eq_false h1]; simp
theorem spec_PairsValid_l0 (l : List S69) (hl : l.length ≤ 48) : ∀ (d i k : Nat), i + d = l.length → d + 1001 ≤ k → ∃ b, spec_PairsValid.l0 k l (i : Int) = some b ∧ (b = true ↔ ∀ j, i ≤ j → j < l.length → Th.stepOk S69.f0 S69.f1 z69 l j)
  | _, _, 0, _, h => by omega
  | 0, i, k + 1, h, _ => by
    rw [spec_PairsValid.l0, if_neg (by omega)]
    exact ⟨true, rfl, fun _ j h1 h2 => by omega, fun _ => rfl⟩
  | d + 1, i, k + 1, h, hk => by
    have hi : i < l.length := by omega
    obtain ⟨b, hb, hb2⟩ := spec_PairsValid_l0 l hl d (i + 1) k (by omega) (by omega)
    have hw : wrap64 ((i : Int) + 1) = ((i + 1 : Nat) : Int) := by rw [Th.wrap_small (by omega) (by omega)]; omega
    have no : ¬ Th.stepOk S69.f0 S69.f1 z69 l i → ∃ b, some false = some b ∧ (b = true ↔ ∀ j, i ≤ j → j < l.length → Th.stepOk S69.f0 S69.f1 z69 l j) :=
      fun hn => ⟨false, rfl, fun h => (by cases h), fun h => absurd (h i (Nat.le_refl _) hi) hn⟩
    have go : Th.stepOk S69.f0 S69.f1 z69 l i → ∃ b', some b = some b' ∧ (b' = true ↔ ∀ j, i ≤ j → j < l.length → Th.stepOk S69.f0 S69.f1 z69 l j) :=
      fun hn => ⟨b, rfl, hb2.trans (Th.all_from hi hn)⟩
    rw [spec_PairsValid.l0, if_pos (by omega), if_pos (by omega), show rd_T69 l (i : Int) = l.getD i z69 from rfl, spec_KeyValid_eq _ k (by omega), Option.bind_some]
    by_cases h1 : Th.kv (l.getD i z69).f0 = true
    · rw [if_pos h1, spec_l1In_eq, Option.bind_some]
      by_cases h2 : 0 ≤ (l.getD i z69).f1 ∧ (l.getD i z69).f1 ≤ 999
      · rw [decide_eq_true h2.1, decide_eq_true h2.2, if_pos (by rfl)]
        by_cases h0 : 0 < i
        · have hp : wrap64 ((i : Int) - 1) = ((i - 1 : Nat) : Int) := by rw [Th.wrap_small (by omega) (by omega)]; omega
          rw [if_pos (by omega), hp, if_pos (by omega), if_pos (by omega), show rd_T69 l ((i - 1 : Nat) : Int) = l.getD (i - 1) z69 from rfl, hw, hb]
          by_cases c1 : Th.lt (l.getD i z69).f0 (l.getD (i - 1) z69).f0
          · rw [if_pos c1]; exact no (fun hs => Th.lt_asymm c1 (hs.2 h0))
          · rw [if_neg c1]
            by_cases c2 : (l.getD i z69).f0.toList = (l.getD (i - 1) z69).f0.toList
            · rw [if_pos c2]; exact no (fun hs => Th.lt_irrefl _ (by have := hs.2 h0; rwa [Th.str_ext c2] at this))
            · rw [if_neg c2]
              refine go ⟨⟨h1, h2⟩, fun _ => ?_⟩
              rcases Classical.em (Th.lt (l.getD (i - 1) z69).f0 (l.getD i z69).f0) with c | c
              · exact c
              · exact absurd (congrArg ByteArray.toList (Th.lt_total c1 c)) c2
        · rw [if_neg (by omega), hw, hb]
          exact go ⟨⟨h1, h2⟩, fun h => absurd h h0⟩
      · rw [if_neg (by simp only [Bool.and_eq_true, decide_eq_true_eq]; exact h2)]
        exact no (fun hs => h2 hs.1.2)
    · rw [if_neg h1]
      exact no (fun hs => h1 hs.1.1)
theorem spec_PairsValid_eq (l : List S69) (k : Nat) (hk : 2000 ≤ k) : spec_PairsValid.f k l = some (Th.pv S69.f0 S69.f1 l) := by
  unfold spec_PairsValid.f
  by_cases h : (l.length : Int) > 48
  · rw [if_pos h]
    congr 1
    symm
    rw [Bool.eq_false_iff]
    intro hp
    have := ((Th.pv_iff _ _ l).1 hp).1
    omega
  · rw [if_neg h]
    obtain ⟨b, hb, hb2⟩ := spec_PairsValid_l0 l (by omega) l.length 0 k (by omega) (by omega)
    rw [show ((0 : Nat) : Int) = 0 from rfl] at hb
    rw [hb]
    congr 1
    apply Th.bool_eq
    rw [hb2, Th.pv_iff, Th.pv_steps _ _ z69]
    constructor
    · exact fun h' => ⟨by omega, fun j hj => h' j (by omega) hj⟩
    · exact fun h' j _ hj => h'.2 j hj
theorem spec_l4Place_l0 (l : List S69) (s : ByteArray) (hl : l.length ≤ 4294967296) : ∀ (d i k : Nat), i + d = l.length → d < k → spec_l4Place.l0 k l s (i : Int) = some (((i + Th.place S69.f0 (l.drop i) s : Nat) : Int))
  | _, _, 0, _, h => by omega
  | 0, i, k + 1, h, _ => by
    rw [spec_l4Place.l0, if_neg (by omega), List.drop_of_length_le (by omega), Th.place_nil]
    rfl
  | d + 1, i, k + 1, h, hk => by
    have hi : i < l.length := by omega
    have ih := spec_l4Place_l0 l s hl d (i + 1) k (by omega) (by omega)
    have hw : wrap64 ((i : Int) + 1) = ((i + 1 : Nat) : Int) := by rw [Th.wrap_small (by omega) (by omega)]; omega
    rw [spec_l4Place.l0, if_pos (by omega), if_pos (by omega), show rd_T69 l (i : Int) = l.getD i z69 from rfl, hw, ih, List.drop_eq_getElem_cons hi, Th.getD_at _ l i hi]
    by_cases c : Th.lt (l[i]'hi).f0 s
    · rw [if_pos c, Th.place_pos _ c]
      congr 2
      omega
    · rw [if_neg c, Th.place_neg _ c]
      rfl
theorem spec_l4Place_eq (l : List S69) (s : ByteArray) (k : Nat) (hl : l.length ≤ 4294967296) (hk : l.length + 2 ≤ k) : spec_l4Place.f k l s = some ((Th.place S69.f0 l s : Nat) : Int) := by
  have := spec_l4Place_l0 l s hl l.length 0 k (by omega) (by omega)
  unfold spec_l4Place.f
  rw [show ((0 : Nat) : Int) = 0 from rfl] at this
  rw [this, List.drop_zero, Nat.zero_add]
theorem spec_PairPut_eq (l : List S69) (s : ByteArray) (v : Int) (k : Nat) (hk : 3000 ≤ k) : spec_PairPut.f k l s v = some (Th.putP S69.f0 S69.f1 S69.mk l s v) := by
  obtain ⟨k, rfl⟩ : ∃ m, k = m + 2 := ⟨k - 2, by omega⟩
  have no : ¬ (Th.pv S69.f0 S69.f1 l = true ∧ Th.kv s = true ∧ (0 ≤ v ∧ v ≤ 999)) → Th.putP S69.f0 S69.f1 S69.mk l s v = ([], false) := by
    intro h
    unfold Th.putP
    rw [if_neg h]
  unfold spec_PairPut.f
  rw [Option.bind_some, spec_PairsValid_eq l (k + 2) (by omega), Option.bind_some]
  by_cases h : Th.pv S69.f0 S69.f1 l = true
  · rw [if_pos h, spec_KeyValid_eq s (k + 2) (by omega), Option.bind_some]
    by_cases hk2 : Th.kv s = true
    · rw [if_pos hk2, spec_l1In_eq, Option.bind_some, spec_PairPut.j0]
      by_cases hv : 0 ≤ v ∧ v ≤ 999
      · have hl := ((Th.pv_iff _ _ l).1 h).1
        have hp := Th.place_le S69.f0 l s
        rw [decide_eq_true hv.1, decide_eq_true hv.2, if_neg (by simp), spec_l4Place_eq l s (k + 1) (by omega) (by omega), Option.bind_some]
        unfold Th.putP
        rw [if_pos (show Th.pv S69.f0 S69.f1 l = true ∧ Th.kv s = true ∧ (0 ≤ v ∧ v ≤ 999) from ⟨h, hk2, hv⟩), Th.foundAt_getD _ z69]
        generalize hq : Th.place S69.f0 l s = q at hp
        have ht : (l.take q).length = q := by rw [List.length_take]; omega
        have hd : (l.drop q).length = l.length - q := List.length_drop ..
        have fin : ∀ c : Bool, c = false → spec_PairPut.j1 (k + 1) l s v [] (q : Int) c = some (if 48 ≤ l.length then (l, false) else (l.take q ++ (⟨s, v⟩ : S69) :: l.drop q, true)) := by
          intro c hc
          subst hc
          rw [spec_PairPut.j1, if_neg (by simp)]
          by_cases h48 : (l.length : Int) ≥ 48
          · rw [if_pos h48, if_pos (by simp only [List.length_nil]; omega), if_pos (by omega), List.nil_append]
          · rw [if_neg h48, if_neg (show ¬ 48 ≤ l.length by omega), if_pos (by omega), if_pos (by omega)]
            simp only [Option.bind_some, Int.toNat_natCast, List.nil_append]
            rw [if_pos (by simp only [List.length_nil]; omega), if_pos (by omega), if_pos (by rw [List.length_append]; simp only [List.length_cons, List.length_nil]; omega), List.append_assoc]
            rfl
        by_cases e : q < l.length
        · rw [if_pos (by omega), if_pos (by omega), decide_eq_true e, Bool.true_and, show rd_T69 l (q : Int) = l.getD q z69 from rfl]
          by_cases c : (l.getD q z69).f0.toList = s.toList
          · have hset : l.set q (⟨s, v⟩ : S69) = l.take q ++ (⟨s, v⟩ : S69) :: l.drop (q + 1) := List.set_eq_take_append_cons_drop.trans (if_pos e)
            rw [show ((l.getD q z69).f0.toList == s.toList) = true by simpa using c, spec_PairPut.j1, if_pos rfl, if_pos (by simp only [List.length_nil]; omega), if_pos (show decide ((l.getD q z69).f0 = s) = true by simpa using Th.str_ext c)]
            simp only [Option.bind_some, List.nil_append]
            rw [if_pos (by omega), if_pos (by omega), Int.toNat_natCast, show rd_T69 l (q : Int) = l.getD q z69 from rfl, Th.str_ext c, hset]
          · rw [if_neg (show ¬ decide ((l.getD q z69).f0 = s) = true by rw [decide_eq_true_eq]; exact fun h => c (by rw [h]))]
            exact fin _ (by simpa using c)
        · rw [if_neg (by omega), decide_eq_false e, if_neg (by simp)]
          exact fin _ rfl
      · rw [if_pos, no (fun h => hv h.2.2)]
        rw [Bool.not_eq_true', Bool.and_eq_false_iff, decide_eq_false_iff_not, decide_eq_false_iff_not]
        omega
    · rw [if_neg hk2, spec_PairPut.j0, if_pos rfl, no (fun h => hk2 h.2.1)]
  · rw [if_neg h, spec_PairPut.j0, if_pos rfl, no (fun h' => h h'.1)]
theorem impl_lettersOnly_eq : ∀ (l : List UInt8) (k : Nat), l.length < k → impl_lettersOnly.f k (Th.mkS l) = some (l.all Th.letter)
  | _, 0, h => by omega
  | [], k + 1, _ => by
    rw [impl_lettersOnly.f, if_pos (Th.toList_mkS [])]
    rfl
  | c :: l, k + 1, h => by
    have ih := impl_lettersOnly_eq l k (by simpa using h)
    have hs : (0 : Int) < ((Th.mkS (c :: l)).size : Int) := by rw [Th.size_mkS, List.length_cons]; omega
    have hx : (Th.mkS (c :: l)).extract 1 (Th.mkS (c :: l)).size = Th.mkS l := by rw [Th.extract_mkS, Th.size_mkS, List.take_length]; rfl
    have hs1 : (1 : Int) ≤ ((Th.mkS (c :: l)).size : Int) := by omega
    rw [impl_lettersOnly.f, if_neg (by rw [Th.toList_mkS]; simp), if_pos hs, if_pos hs1, hx, ih, Th.bt_zero]
    simp only [Option.bind_some, List.all_cons, Th.letter]
    by_cases h1 : (c.toNat : Int) ≥ 97
    · rw [if_pos h1, decide_eq_true (show 97 ≤ (c.toNat : Int) from h1)]
      by_cases h2 : (c.toNat : Int) ≤ 122
      · rw [if_pos h2, decide_eq_true h2]; rfl
      · rw [if_neg h2, decide_eq_false h2]; rfl
    · rw [if_neg h1, decide_eq_false (show ¬ 97 ≤ (c.toNat : Int) from h1)]; rfl
theorem impl_KeyValid_eq (s : ByteArray) (k : Nat) (hk : 1000 ≤ k) : impl_KeyValid.f k s = some (Th.kv s) := by
  obtain ⟨l, rfl⟩ := Th.mkS_surj s
  unfold impl_KeyValid.f Th.kv Th.kvL
  rw [Th.toList_mkS, Th.size_mkS]
  by_cases h1 : (l.length : Int) < 1
  · rw [if_pos h1, decide_eq_false (show ¬ 1 ≤ l.length by omega)]; rfl
  · rw [if_neg h1, decide_eq_true (show 1 ≤ l.length by omega)]
    by_cases h2 : (l.length : Int) > 4
    · rw [if_pos h2, decide_eq_false (show ¬ l.length ≤ 4 by omega)]; rfl
    · rw [if_neg h2, decide_eq_true (show l.length ≤ 4 by omega), impl_lettersOnly_eq l k (by omega)]; rfl
theorem impl_valueValid_eq (v : Int) : impl_valueValid.f v = some (decide (0 ≤ v ∧ v ≤ 999)) := by
  unfold impl_valueValid.f
  by_cases h : v ≥ 0
  · rw [if_pos h]; congr 1; simp [show 0 ≤ v from h]
  · rw [if_neg h]; congr 1; simp [show ¬ 0 ≤ v from h]
theorem impl_PairsValid_l0 (l : List S69) (hl : l.length ≤ 48) : ∀ (d i k : Nat), i + d = l.length → 2 * d + 1001 ≤ k → ∃ b, impl_PairsValid.l0 k l l (l.length : Int) (i : Int) = some b ∧ (b = true ↔ ∀ j, i ≤ j → j < l.length → Th.stepOk S69.f0 S69.f1 z69 l j)
  | _, _, 0, _, h => by omega
  | 0, i, k + 1, h, _ => by
    rw [impl_PairsValid.l0, if_neg (by omega)]
    exact ⟨true, rfl, fun _ j h1 h2 => by omega, fun _ => rfl⟩
  | d + 1, i, 1, h, hk => by omega
  | d + 1, i, k + 2, h, hk => by
    have hi : i < l.length := by omega
    obtain ⟨b, hb, hb2⟩ := impl_PairsValid_l0 l hl d (i + 1) k (by omega) (by omega)
    have hw : wrap64 ((i : Int) + 1) = ((i + 1 : Nat) : Int) := by rw [Th.wrap_small (by omega) (by omega)]; omega
    have no : ¬ Th.stepOk S69.f0 S69.f1 z69 l i → ∃ b, some false = some b ∧ (b = true ↔ ∀ j, i ≤ j → j < l.length → Th.stepOk S69.f0 S69.f1 z69 l j) :=
      fun hn => ⟨false, rfl, fun h => (by cases h), fun h => absurd (h i (Nat.le_refl _) hi) hn⟩
    have go : Th.stepOk S69.f0 S69.f1 z69 l i → ∃ b', some b = some b' ∧ (b' = true ↔ ∀ j, i ≤ j → j < l.length → Th.stepOk S69.f0 S69.f1 z69 l j) :=
      fun hn => ⟨b, rfl, hb2.trans (Th.all_from hi hn)⟩
    rw [impl_PairsValid.l0, if_pos (by omega), if_pos (by omega), if_pos (by omega), show rd_T69 l (i : Int) = l.getD i z69 from rfl, impl_KeyValid_eq _ (k + 1) (by omega), Option.bind_some]
    by_cases h1 : Th.kv (l.getD i z69).f0 = true
    · rw [if_pos h1, impl_valueValid_eq, Option.bind_some, impl_PairsValid.j1]
      by_cases h2 : 0 ≤ (l.getD i z69).f1 ∧ (l.getD i z69).f1 ≤ 999
      · rw [decide_eq_true h2, if_neg (by simp)]
        by_cases h0 : 0 < i
        · have hp : wrap64 ((i : Int) - 1) = ((i - 1 : Nat) : Int) := by rw [Th.wrap_small (by omega) (by omega)]; omega
          rw [if_pos (by omega), hp, if_pos (by omega), if_pos (by omega), show rd_T69 l ((i - 1 : Nat) : Int) = l.getD (i - 1) z69 from rfl, hw, hb]
          by_cases c1 : Th.lt (l.getD (i - 1) z69).f0 (l.getD i z69).f0
          · rw [if_pos c1]; exact go ⟨⟨h1, h2⟩, fun _ => c1⟩
          · rw [if_neg c1]; exact no (fun hs => c1 (hs.2 h0))
        · rw [if_neg (by omega), hw, hb]
          exact go ⟨⟨h1, h2⟩, fun h => absurd h h0⟩
      · rw [decide_eq_false h2, if_pos (by rfl)]
        exact no (fun hs => h2 hs.1.2)
    · rw [if_neg h1, impl_PairsValid.j1, if_pos rfl]
      exact no (fun hs => h1 hs.1.1)
theorem impl_PairsValid_eq (l : List S69) (k : Nat) (hk : 2000 ≤ k) : impl_PairsValid.f k l = some (Th.pv S69.f0 S69.f1 l) := by
  unfold impl_PairsValid.f
  by_cases h : (l.length : Int) > 48
  · rw [if_pos h]
    congr 1
    symm
    rw [Bool.eq_false_iff]
    intro hp
    have := ((Th.pv_iff _ _ l).1 hp).1
    omega
  · rw [if_neg h]
    obtain ⟨b, hb, hb2⟩ := impl_PairsValid_l0 l (by omega) l.length 0 k (by omega) (by omega)
    rw [show ((0 : Nat) : Int) = 0 from rfl] at hb
    rw [hb]
    congr 1
    apply Th.bool_eq
    rw [hb2, Th.pv_iff, Th.pv_steps _ _ z69]
    constructor
    · exact fun h' => ⟨by omega, fun j hj => h' j (by omega) hj⟩
    · exact fun h' j _ hj => h'.2 j hj
theorem impl_pairPlace_neg (a b : ByteArray) : impl_pairPlace.cs a b < 0 ↔ Th.lt a b := by
  unfold impl_pairPlace.cs
  by_cases h : Op.bytesLess a.toList b.toList = true
  · rw [if_pos h]; exact ⟨fun _ => h, fun _ => by omega⟩
  · rw [if_neg h]
    refine ⟨fun h' => ?_, fun h' => absurd h' h⟩
    by_cases e : a.toList = b.toList
    · rw [if_pos e] at h'; omega
    · rw [if_neg e] at h'; omega
theorem impl_pairPlace_zero (a b : ByteArray) : impl_pairPlace.cs a b = 0 ↔ a = b := by
  unfold impl_pairPlace.cs
  by_cases h : Op.bytesLess a.toList b.toList = true
  · rw [if_pos h]
    refine ⟨fun h' => by omega, fun h' => ?_⟩
    subst h'
    rw [Th.bl_irrefl] at h; cases h
  · rw [if_neg h]
    by_cases e : a.toList = b.toList
    · rw [if_pos e]; exact ⟨fun _ => Th.str_ext e, fun _ => rfl⟩
    · rw [if_neg e]; exact ⟨fun h' => by omega, fun h' => absurd (congrArg ByteArray.toList h') e⟩
theorem impl_pairPlace_bs (l : List S69) (s : ByteArray) (ha : Th.Asc S69.f0 l) : ∀ (f lo hi : Nat), hi - lo < f → lo ≤ hi → hi ≤ l.length → (∀ j, j < lo → Th.lt (l.getD j z69).f0 s) → (∀ j, hi ≤ j → j < l.length → ¬ Th.lt (l.getD j z69).f0 s) →
    impl_pairPlace.bs l s f lo hi = some (((Th.place S69.f0 l s : Nat) : Int), Th.foundAt S69.f0 l s)
  | 0, _, _, h, _, _, _, _ => by omega
  | f + 1, lo, hi, hf, h1, h2, hb, hr => by
    rw [impl_pairPlace.bs]
    by_cases c : lo < hi
    · rw [if_pos c, show rd_T69 l (((lo + hi) / 2 : Nat) : Int) = l.getD ((lo + hi) / 2) z69 from rfl]
      by_cases e : Th.lt (l.getD ((lo + hi) / 2) z69).f0 s
      · rw [if_pos ((impl_pairPlace_neg _ _).2 e)]
        refine impl_pairPlace_bs l s ha f _ hi (by omega) (by omega) h2 (fun j hj => ?_) hr
        rcases Nat.lt_or_ge j ((lo + hi) / 2) with h | h
        · exact Th.lt_trans (Th.asc_lt _ z69 l ha j _ h (by omega)) e
        · rw [show j = (lo + hi) / 2 by omega]; exact e
      · rw [if_neg (fun h => e ((impl_pairPlace_neg _ _).1 h))]
        refine impl_pairPlace_bs l s ha f lo _ (by omega) (by omega) (by omega) hb (fun j hj hj2 h => ?_)
        rcases Nat.eq_or_lt_of_le hj with h' | h'
        · rw [← h'] at h; exact e h
        · exact e (Th.lt_trans (Th.asc_lt _ z69 l ha _ j h' hj2) h)
    · have hlh : hi = lo := by omega
      subst hlh
      have hp : Th.place S69.f0 l s = hi := Th.place_unique _ z69 l s ha hi h2 hb (fun h => hr hi (Nat.le_refl _) h)
      rw [if_neg c, Th.foundAt_getD _ z69, hp]
      by_cases d : hi < l.length
      · rw [if_pos d, decide_eq_true d, Bool.true_and, show rd_T69 l (hi : Int) = l.getD hi z69 from rfl]
        congr 2
        apply Th.bool_eq
        rw [decide_eq_true_eq, decide_eq_true_eq, impl_pairPlace_zero]
      · rw [if_neg d, decide_eq_false d, Bool.false_and]
theorem impl_pairPlace_eq (l : List S69) (s : ByteArray) (h : Th.PV S69.f0 S69.f1 l) : impl_pairPlace.f l s = some (((Th.place S69.f0 l s : Nat) : Int), Th.foundAt S69.f0 l s) := by
  have hl := h.1
  unfold impl_pairPlace.f
  rw [if_pos (by omega)]
  exact impl_pairPlace_bs l s h.2.2 _ 0 _ (by omega) (by omega) (by omega) (fun j hj => by omega) (fun j h1 h2 => by omega)
theorem impl_copyOf_Pair_eq (l : List S69) (hl : l.length ≤ 4294967296) : impl_copyOf_Pair.f l = some l := by
  unfold impl_copyOf_Pair.f
  rw [if_pos (by omega)]
theorem impl_replaced_Pair_eq (l l3 : List S69) (a b : Nat) (h : a + b ≤ l.length) (hl : l.length + l3.length ≤ 4294967296) : impl_replaced_Pair.f l (a : Int) (b : Int) l3 = some (l.take a ++ l3 ++ l.drop (a + b)) := by
  unfold impl_replaced_Pair.f
  rw [if_pos ⟨by omega, by omega, by omega, by omega⟩, Int.toNat_natCast, show ((a : Int) + (b : Int)).toNat = a + b by omega]
theorem impl_PairPut_eq (l : List S69) (s : ByteArray) (v : Int) (k : Nat) (hk : 3000 ≤ k) : impl_PairPut.f k l s v = some (Th.putP S69.f0 S69.f1 S69.mk l s v) := by
  obtain ⟨k, rfl⟩ : ∃ m, k = m + 2 := ⟨k - 2, by omega⟩
  have no : ¬ (Th.pv S69.f0 S69.f1 l = true ∧ Th.kv s = true ∧ (0 ≤ v ∧ v ≤ 999)) → Th.putP S69.f0 S69.f1 S69.mk l s v = ([], false) := by
    intro h
    unfold Th.putP
    rw [if_neg h]
  unfold impl_PairPut.f
  rw [impl_PairsValid_eq l (k + 2) (by omega), Option.bind_some]
  by_cases h : Th.pv S69.f0 S69.f1 l = true
  · rw [if_pos h, impl_KeyValid_eq s (k + 2) (by omega), Option.bind_some]
    by_cases hk2 : Th.kv s = true
    · rw [if_pos hk2, impl_valueValid_eq, Option.bind_some, impl_PairPut.j0]
      by_cases hv : 0 ≤ v ∧ v ≤ 999
      · have hP := (Th.pv_iff _ _ l).1 h
        have hl := hP.1
        have hp := Th.place_le S69.f0 l s
        rw [decide_eq_true hv, if_neg (by simp), impl_pairPlace_eq l s hP, Option.bind_some]
        unfold Th.putP
        rw [if_pos (show Th.pv S69.f0 S69.f1 l = true ∧ Th.kv s = true ∧ (0 ≤ v ∧ v ≤ 999) from ⟨h, hk2, hv⟩)]
        have hf := Th.foundAt_getD S69.f0 z69 l s
        cases c : Th.foundAt S69.f0 l s with
        | false =>
          simp only [Bool.false_eq_true, if_false]
          by_cases h48 : (l.length : Int) ≥ 48
          · rw [if_pos h48, impl_copyOf_Pair_eq l (by omega), if_pos (by omega)]; rfl
          · have := impl_replaced_Pair_eq l [(⟨s, v⟩ : S69)] (Th.place S69.f0 l s) 0 (by omega) (by simp only [List.length_cons, List.length_nil]; omega)
            rw [show ((0 : Nat) : Int) = 0 from rfl] at this
            rw [if_neg h48, if_neg (by omega), this, Option.bind_some, List.append_assoc]
            rfl
        | true =>
          rw [c] at hf
          have hlt : Th.place S69.f0 l s < l.length := by
            have := hf.symm
            simp only [Bool.and_eq_true, decide_eq_true_eq] at this
            exact this.1
          have := impl_replaced_Pair_eq l [(⟨s, v⟩ : S69)] (Th.place S69.f0 l s) 1 (by omega) (by simp only [List.length_cons, List.length_nil]; omega)
          rw [show ((1 : Nat) : Int) = 1 from rfl] at this
          simp only [if_true]
          rw [this, Option.bind_some, List.append_assoc]
          rfl
      · rw [decide_eq_false hv, if_pos (by rfl), no (fun h => hv h.2.2)]
    · rw [if_neg hk2, impl_PairPut.j0, if_pos rfl, no (fun h => hk2 h.2.1)]
  · rw [if_neg h, impl_PairPut.j0, if_pos rfl, no (fun h' => h h'.1)]
theorem FnExactPairPut : laws_FnExactPairPut.Pure := by
  intro l0 s v hw0 _ _
  obtain ⟨t0, ht0, hl0, hs0⟩ := laws_szPairS_tot l0 1048576 (by omega) (by omega) hw0
  refine ⟨l0.length + 5000 + 3, ?_⟩
  unfold laws_FnExactPairPut.f
  by_cases hb : (s.size : Int) > 1048576
  · rw [if_pos hb]
  rw [if_neg hb, hs0 _ (by omega), Option.bind_some]
  by_cases h0 : t0 < 0
  · rw [if_pos h0]
  rw [if_neg h0]
  have c0 := hl0 (by omega)
  have e0 : (l0.map toP).length = l0.length := List.length_map ..
  have ej := Th.putP_len S69.f0 S69.f1 S69.mk (l0.map toP) s v
  generalize hM : l0.length + 5000 = M
  generalize hA : l0.map toP = A at *
  have t0' : ∀ k, l0.length + 2 ≤ k → laws_toPairS.f k l0 = some A := fun k hk => by rw [laws_toPairS_eq l0 c0 k hk, hA]
  have s' := spec_PairPut_eq A s v
  have i' := impl_PairPut_eq A s v
  generalize Th.putP S69.f0 S69.f1 S69.mk A s v = J at *
  obtain ⟨A', _, a2, _⟩ := laws_markPairS_eq A 1 (by omega) (by omega) (by omega)
  obtain ⟨J', j1, j2, j3⟩ := laws_markPairS_eq J.1 1 (by omega) (by omega) (by omega)
  have n1 : ¬ 1 + 2 * (A.length : Int) < 0 := by omega
  have n2 : ¬ 1 + 2 * (J.1.length : Int) < 0 := by omega
  repeat' first
    | with_reducible rfl
    | with_reducible refine Th.ite_t rfl ?_
    | with_reducible refine Th.ite_f (Th.bne_no _) ?_
    | with_reducible refine Th.ite_f Th.ft_no ?_
    | with_reducible refine Th.ite_f (show ¬ ((!true) = true) by simp) ?_
    | with_reducible refine Th.bind_to (t0' _ (by omega)) ?_
    | with_reducible refine Th.bind_to (s' _ (by omega)) ?_
    | with_reducible refine Th.bind_to (i' _ (by omega)) ?_
    | with_reducible refine Th.bind_to (a2 _ (by omega)) ?_
    | with_reducible refine Th.bind_to (j2 _ (by omega)) ?_
    | with_reducible refine Th.bind_to (j3 _ (by omega)) ?_
    | with_reducible refine Th.bind_to (laws_eqPairS_refl _ (by omega) _ (by omega)) ?_
    | with_reducible refine Th.ite_f (n1) ?_
    | with_reducible refine Th.ite_f (n2) ?_
    | rw [laws_FnExactPairPut.j0]
    | rw [laws_FnExactPairPut.j1]
    | rw [laws_FnExactPairPut.j2]
    | with_reducible refine Th.bind_to rfl ?_

end Go.Proofs.Ytakgmbeglcehcaa.Pure
