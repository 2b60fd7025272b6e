/- The plain law of FnExactPairChanges: what the printed functions compute, and that it answers true: for every input that the statement lets in. -/
import Derived.Test.YteomkhlhjhmbmaaPFnExactPairChangesx
import Derived.Test.YteomkhlhjhmbmaaSFnExactPairChanges
import Derived.Test.YteomkhlhjhmbmaaThA
import Derived.Test.YteomkhlhjhmbmaaThB
import Derived.Test.YteomkhlhjhmbmaaThL
import Derived.Test.YteomkhlhjhmbmaaThC
import Derived.Test.YteomkhlhjhmbmaaThG
namespace Go.Proofs.Yteomkhlhjhmbmaa.Pure
open Go Go.RowKit Go.Proofs.Yteomkhlhjhmbmaa.PFnExactPairChanges Go.Proofs.YteomkhlhjhmbmaaW.PrintWords Go.Proofs.YteomkhlhjhmbmaaW.PrintLast Go.Proofs.Yteomkhlhjhmbmaa
set_option linter.unusedVariables false
set_option linter.unusedSimpArgs false
set_option maxRecDepth 10000
theorem laws_szPair_le (a : ByteArray) (v n : Int) (ha : a.size ≤ maxLen) (h0 : 0 ≤ n) (hn : n ≤ 1048576) : ∃ t, laws_szPair.f a v n = some t ∧ t ≤ 1048576 := by
  simp only [maxLen] at ha
  unfold laws_szPair.f
  rw [Th.wrap_small (by omega) (by omega)]
  by_cases h : n - (a.size : Int) < 0
  · rw [if_pos h]; exact ⟨_, rfl, by omega⟩
  · rw [if_neg h]; exact ⟨_, rfl, by omega⟩
theorem laws_szPairS_l0 (l : List S69) (hl : l.length ≤ maxLen) (hw : ∀ a ∈ l, a.f0.size ≤ maxLen) : ∀ (d i : Nat) (n : Int), i + d = l.length → 0 ≤ n → n ≤ 1048576 → ∃ t, t ≤ 1048576 ∧ ∀ k, d < k → laws_szPairS.l0 k l n (i : Int) = some t
  | 0, i, n, h, h0, hn => by
    refine ⟨n, hn, fun k hk => ?_⟩
    obtain ⟨k, rfl⟩ : ∃ m, k = m + 1 := ⟨k - 1, by omega⟩
    rw [laws_szPairS.l0, if_neg (by omega)]
  | d + 1, i, n, h, h0, hn => by
    simp only [maxLen] at hl
    have hi : i < l.length := by omega
    obtain ⟨t, ht, ht1⟩ := laws_szPair_le (l.getD i z69).f0 (l.getD i z69).f1 n (hw _ (Th.getD_mem _ l i hi)) h0 hn
    have step : ∀ k, laws_szPairS.l0 (k + 1) l n (i : Int) = if t < 0 then some (-1) else laws_szPairS.l0 k l t ((i + 1 : Nat) : Int) := by
      intro k
      rw [laws_szPairS.l0, if_pos (by omega), if_pos (by omega), show rd_T69 l (i : Int) = l.getD i z69 from rfl, ht, Option.bind_some, Th.wrap_small (by omega) (by omega)]
      rfl
    by_cases hn' : t < 0
    · refine ⟨-1, by omega, fun k hk => ?_⟩
      obtain ⟨k, rfl⟩ : ∃ m, k = m + 1 := ⟨k - 1, by omega⟩
      rw [step, if_pos hn']
    · obtain ⟨t2, ht2, hk2⟩ := laws_szPairS_l0 l hl hw d (i + 1) t (by omega) (by omega) ht1
      refine ⟨t2, ht2, fun k hk => ?_⟩
      obtain ⟨k, rfl⟩ : ∃ m, k = m + 1 := ⟨k - 1, by omega⟩
      rw [step, if_neg hn', hk2 k (by omega)]
theorem laws_szPairS_tot (l : List S69) (n : Int) (h0 : 0 ≤ n) (hn : n ≤ 1048576) (hw : l.length ≤ maxLen ∧ ∀ a ∈ l, a.f0.size ≤ maxLen ∧ (Lit.int .i64 a.f1).wf = true) : ∃ t, t ≤ 1048576 ∧ (0 ≤ t → l.length ≤ 1048576) ∧ ∀ k, l.length + 2 ≤ k → laws_szPairS.f k l n = some t := by
  have hl := hw.1
  simp only [maxLen] at hl
  unfold laws_szPairS.f
  rw [Th.wrap_small (by omega) (by omega)]
  by_cases h : n - (l.length : Int) < 0
  · simp only [if_pos h]
    exact ⟨-1, by omega, by omega, fun _ _ => rfl⟩
  · simp only [if_neg h]
    obtain ⟨t, ht, hk⟩ := laws_szPairS_l0 l hw.1 (fun a ha => (hw.2 a ha).1) l.length 0 (n - (l.length : Int)) (by omega) (by omega) (by omega)
    exact ⟨t, ht, fun _ => by omega, fun k h => hk k (by omega)⟩
def toP (x : S69) : S71 := ⟨x.f0, x.f1⟩
theorem laws_toPairS_l0 (l : List S69) (hl : l.length ≤ 1048576) : ∀ (d i k : Nat) (o : List S71), i + d = l.length → d < k → o.length = l.length → o.take i = (l.take i).map toP → laws_toPairS.l0 k l o (i : Int) = some (l.map toP)
  | _, _, 0, _, _, h, _, _ => by omega
  | 0, i, k + 1, o, h, _, ho, ht => by
    rw [laws_toPairS.l0, if_neg (by omega)]
    rw [List.take_of_length_le (by omega), List.take_of_length_le (by omega)] at ht
    rw [ht]
  | d + 1, i, k + 1, o, h, hk, ho, ht => by
    have hi : i < l.length := by omega
    have ih := laws_toPairS_l0 l hl d (i + 1) k (o.set i (toP (l.getD i z69))) (by omega) (by omega) (by rw [List.length_set]; exact ho) (by
      rw [Th.take_set_succ _ _ _ (by omega), ht, List.take_succ_eq_append_getElem hi, List.map_append, Th.getD_at _ l i hi]; rfl)
    rw [laws_toPairS.l0, if_pos (by omega), if_pos (by omega), show rd_T69 l (i : Int) = l.getD i z69 from rfl]
    simp only [laws_toPair.f, Option.bind_some]
    rw [if_pos (by omega), Th.wrap_small (by omega) (by omega)]
    exact ih
theorem laws_toPairS_eq (l : List S69) (hl : l.length ≤ 1048576) (k : Nat) (hk : l.length + 2 ≤ k) : laws_toPairS.f k l = some (l.map toP) := by
  unfold laws_toPairS.f
  rw [if_pos (by omega), if_pos (by rw [Int.toNat_natCast]; omega)]
  exact laws_toPairS_l0 l hl l.length 0 k _ (by omega) (by omega) (by simp) (by simp)
theorem laws_eqPairS_l0 (l : List S71) (hl : l.length ≤ 4294967296) : ∀ (d i k : Nat), i + d = l.length → d < k → laws_eqPairS.l0 k l l (i : Int) = some true
  | _, _, 0, _, h => by omega
  | 0, i, k + 1, h, _ => by rw [laws_eqPairS.l0, if_neg (by omega)]
  | d + 1, i, k + 1, h, hk => by
    have ih := laws_eqPairS_l0 l hl d (i + 1) k (by omega) (by omega)
    rw [laws_eqPairS.l0, if_pos (by omega), if_pos (by omega), if_pos (by omega), Th.wrap_small (by omega) (by omega)]
    simp only [laws_eqPair.f, if_true, Option.bind_some]
    exact ih
theorem laws_eqPairS_refl (l : List S71) (hl : l.length ≤ 4294967296) (k : Nat) (hk : l.length + 2 ≤ k) : laws_eqPairS.f k l l = some true := by
  unfold laws_eqPairS.f
  rw [if_pos rfl]
  exact laws_eqPairS_l0 l hl l.length 0 k (by omega) (by omega)
theorem spec_l1In_eq (a b c : Int) : spec_l1In.f a b c = some (decide (b ≤ a) && decide (a ≤ c)) := by
  unfold spec_l1In.f
  by_cases h : a ≥ b
  · rw [if_pos h, decide_eq_true (show b ≤ a from h), Bool.true_and]
  · rw [if_neg h, decide_eq_false (show ¬ b ≤ a from h), Bool.false_and]
theorem spec_KeyValid_l0 (l : List UInt8) (hl : l.length ≤ 4) : ∀ (d i k : Nat), i + d = l.length → d < k → spec_KeyValid.l0 k (Th.mkS l) (i : Int) = some ((l.drop i).all Th.letter)
  | _, _, 0, _, h => by omega
  | 0, i, k + 1, h, _ => by
    rw [spec_KeyValid.l0, if_neg (by rw [Th.size_mkS]; omega), List.drop_of_length_le (by omega)]; rfl
  | d + 1, i, k + 1, h, hk => by
    have ih := spec_KeyValid_l0 l hl d (i + 1) k (by omega) (by omega)
    have hi : i < l.length := by omega
    rw [spec_KeyValid.l0, if_pos (by rw [Th.size_mkS]; omega), if_pos (by omega), Th.bt_mkS l i hi, Th.wrap_small (by omega) (by omega), show ((i : Int) + 1) = ((i + 1 : Nat) : Int) by omega, ih, List.drop_eq_getElem_cons hi, List.all_cons]
    simp only [Th.letter]
    by_cases h1 : ((l[i]'hi).toNat : Int) < 97
    · rw [if_pos h1, decide_eq_false (show ¬ 97 ≤ ((l[i]'hi).toNat : Int) by omega)]; rfl
    · rw [if_neg h1, decide_eq_true (show 97 ≤ ((l[i]'hi).toNat : Int) by omega)]
      by_cases h2 : ((l[i]'hi).toNat : Int) > 122
      · rw [if_pos h2, decide_eq_false (show ¬ ((l[i]'hi).toNat : Int) ≤ 122 by omega)]; rfl
      · rw [if_neg h2, decide_eq_true (show ((l[i]'hi).toNat : Int) ≤ 122 by omega)]; rfl
theorem spec_KeyValid_eq (s : ByteArray) (k : Nat) (hk : 1000 ≤ k) : spec_KeyValid.f k s = some (Th.kv s) := by
  obtain ⟨l, rfl⟩ := Th.mkS_surj s
  unfold spec_KeyValid.f Th.kv Th.kvL
  rw [spec_l1In_eq, Th.toList_mkS, Th.size_mkS, Option.bind_some]
  by_cases h : 1 ≤ l.length ∧ l.length ≤ 4
  · have h0 := spec_KeyValid_l0 l h.2 l.length 0 k (by omega) (by omega)
    rw [show ((0 : Nat) : Int) = 0 from rfl] at h0
    rw [decide_eq_true (show (1 : Int) ≤ (l.length : Int) by omega), decide_eq_true (show (l.length : Int) ≤ 4 by omega), decide_eq_true h.1, decide_eq_true h.2, h0]
    rfl
  · by_cases h1 : 1 ≤ l.length
    · rw [decide_eq_false (show ¬ (l.length : Int) ≤ 4 by omega), decide_eq_false (show ¬ l.length ≤ 4 by omega)]; simp
    · rw [decide_eq_false (show ¬ (1 : Int) ≤ (l.length : Int) by omega), decide_eq_false h1]; simp
theorem spec_PairsValid_l0 (l : List S71) (hl : l.length ≤ 48) : ∀ (d i k : Nat), i + d = l.length → d + 1001 ≤ k → ∃ b, spec_PairsValid.l0 k l (i : Int) = some b ∧ (b = true ↔ ∀ j, i ≤ j → j < l.length → Th.stepOk S71.f0 S71.f1 z71 l j)
  | _, _, 0, _, h => by omega
  | 0, i, k + 1, h, _ => by
    rw [spec_PairsValid.l0, if_neg (by omega)]
    exact ⟨true, rfl, fun _ j h1 h2 => by omega, fun _ => rfl⟩
  | d + 1, i, k + 1, h, hk => by
    have hi : i < l.length := by omega
    obtain ⟨b, hb, hb2⟩ := spec_PairsValid_l0 l hl d (i + 1) k (by omega) (by omega)
    have hw : wrap64 ((i : Int) + 1) = ((i + 1 : Nat) : Int) := by rw [Th.wrap_small (by omega) (by omega)]; omega
    have no : ¬ Th.stepOk S71.f0 S71.f1 z71 l i → ∃ b, some false = some b ∧ (b = true ↔ ∀ j, i ≤ j → j < l.length → Th.stepOk S71.f0 S71.f1 z71 l j) :=
      fun hn => ⟨false, rfl, fun h => (by cases h), fun h => absurd (h i (Nat.le_refl _) hi) hn⟩
    have go : Th.stepOk S71.f0 S71.f1 z71 l i → ∃ b', some b = some b' ∧ (b' = true ↔ ∀ j, i ≤ j → j < l.length → Th.stepOk S71.f0 S71.f1 z71 l j) :=
      fun hn => ⟨b, rfl, hb2.trans (Th.all_from hi hn)⟩
    rw [spec_PairsValid.l0, if_pos (by omega), if_pos (by omega), show rd_T71 l (i : Int) = l.getD i z71 from rfl, spec_KeyValid_eq _ k (by omega), Option.bind_some]
    by_cases h1 : Th.kv (l.getD i z71).f0 = true
    · rw [if_pos h1, spec_l1In_eq, Option.bind_some]
      by_cases h2 : 0 ≤ (l.getD i z71).f1 ∧ (l.getD i z71).f1 ≤ 999
      · rw [decide_eq_true h2.1, decide_eq_true h2.2, if_pos (by rfl)]
        by_cases h0 : 0 < i
        · have hp : wrap64 ((i : Int) - 1) = ((i - 1 : Nat) : Int) := by rw [Th.wrap_small (by omega) (by omega)]; omega
          rw [if_pos (by omega), hp, if_pos (by omega), if_pos (by omega), show rd_T71 l ((i - 1 : Nat) : Int) = l.getD (i - 1) z71 from rfl, hw, hb]
          by_cases c1 : Th.lt (l.getD i z71).f0 (l.getD (i - 1) z71).f0
          · rw [if_pos c1]; exact no (fun hs => Th.lt_asymm c1 (hs.2 h0))
          · rw [if_neg c1]
            by_cases c2 : (l.getD i z71).f0.toList = (l.getD (i - 1) z71).f0.toList
            · rw [if_pos c2]; exact no (fun hs => Th.lt_irrefl _ (by have := hs.2 h0; rwa [Th.str_ext c2] at this))
            · rw [if_neg c2]
              refine go ⟨⟨h1, h2⟩, fun _ => ?_⟩
              rcases Classical.em (Th.lt (l.getD (i - 1) z71).f0 (l.getD i z71).f0) with c | c
              · exact c
              · exact absurd (congrArg ByteArray.toList (Th.lt_total c1 c)) c2
        · rw [if_neg (by omega), hw, hb]
          exact go ⟨⟨h1, h2⟩, fun h => absurd h h0⟩
      · rw [if_neg (by simp only [Bool.and_eq_true, decide_eq_true_eq]; exact h2)]
        exact no (fun hs => h2 hs.1.2)
    · rw [if_neg h1]
      exact no (fun hs => h1 hs.1.1)
theorem spec_PairsValid_eq (l : List S71) (k : Nat) (hk : 2000 ≤ k) : spec_PairsValid.f k l = some (Th.pv S71.f0 S71.f1 l) := by
  unfold spec_PairsValid.f
  by_cases h : (l.length : Int) > 48
  · rw [if_pos h]
    congr 1
    symm
    rw [Bool.eq_false_iff]
    intro hp
    have := ((Th.pv_iff _ _ l).1 hp).1
    omega
  · rw [if_neg h]
    obtain ⟨b, hb, hb2⟩ := spec_PairsValid_l0 l (by omega) l.length 0 k (by omega) (by omega)
    rw [show ((0 : Nat) : Int) = 0 from rfl] at hb
    rw [hb]
    congr 1
    apply Th.bool_eq
    rw [hb2, Th.pv_iff, Th.pv_steps _ _ z71]
    constructor
    · exact fun h' => ⟨by omega, fun j hj => h' j (by omega) hj⟩
    · exact fun h' j _ hj => h'.2 j hj
theorem spec_l4Place_l0 (l : List S71) (s : ByteArray) (hl : l.length ≤ 4294967296) : ∀ (d i k : Nat), i + d = l.length → d < k → spec_l4Place.l0 k l s (i : Int) = some (((i + Th.place S71.f0 (l.drop i) s : Nat) : Int))
  | _, _, 0, _, h => by omega
  | 0, i, k + 1, h, _ => by
    rw [spec_l4Place.l0, if_neg (by omega), List.drop_of_length_le (by omega), Th.place_nil]
    rfl
  | d + 1, i, k + 1, h, hk => by
    have hi : i < l.length := by omega
    have ih := spec_l4Place_l0 l s hl d (i + 1) k (by omega) (by omega)
    have hw : wrap64 ((i : Int) + 1) = ((i + 1 : Nat) : Int) := by rw [Th.wrap_small (by omega) (by omega)]; omega
    rw [spec_l4Place.l0, if_pos (by omega), if_pos (by omega), show rd_T71 l (i : Int) = l.getD i z71 from rfl, hw, ih, List.drop_eq_getElem_cons hi, Th.getD_at _ l i hi]
    by_cases c : Th.lt (l[i]'hi).f0 s
    · rw [if_pos c, Th.place_pos _ c]
      congr 2
      omega
    · rw [if_neg c, Th.place_neg _ c]
      rfl
theorem spec_l4Place_eq (l : List S71) (s : ByteArray) (k : Nat) (hl : l.length ≤ 4294967296) (hk : l.length + 2 ≤ k) : spec_l4Place.f k l s = some ((Th.place S71.f0 l s : Nat) : Int) := by
  have := spec_l4Place_l0 l s hl l.length 0 k (by omega) (by omega)
  unfold spec_l4Place.f
  rw [show ((0 : Nat) : Int) = 0 from rfl] at this
  rw [this, List.drop_zero, Nat.zero_add]
theorem spec_PairGet_eq (l : List S71) (s : ByteArray) (k : Nat) (hl : l.length ≤ 4294967296) (hk : l.length + 2000 ≤ k) : spec_PairGet.f k l s = some (Th.getP S71.f0 S71.f1 l s) := by
  unfold spec_PairGet.f
  rw [spec_l4Place_eq l s k hl (by omega), Option.bind_some, spec_PairsValid_eq l k (by omega), Option.bind_some]
  by_cases h : Th.pv S71.f0 S71.f1 l = true
  · rw [if_pos h, Th.getP_getD _ _ z71 l s h, Th.foundAt_getD _ z71]
    have hp := Th.place_le S71.f0 l s
    by_cases e : Th.place S71.f0 l s < l.length
    · rw [if_neg (by omega), if_pos (by omega), if_pos (by omega), decide_eq_true e, Bool.true_and, show rd_T71 l ((Th.place S71.f0 l s : Nat) : Int) = l.getD (Th.place S71.f0 l s) z71 from rfl]
      by_cases c : (l.getD (Th.place S71.f0 l s) z71).f0.toList = s.toList
      · rw [if_pos c, if_pos (by simpa using Th.str_ext c)]
      · rw [if_neg c, if_neg (by rw [decide_eq_true_eq]; exact fun h => c (by rw [h]))]
    · rw [if_pos (by omega), decide_eq_false e]; simp
  · rw [if_neg h]
    unfold Th.getP
    rw [if_neg h]
theorem spec_PairChanges_l1 (A B : List S71) (hA : A.length ≤ 48) (hB : B.length ≤ 48) : ∀ (d i k : Nat) (n : Nat), i + d = B.length → d + 2101 ≤ k → n ≤ 48 + i → spec_PairChanges.l1 k A B (n : Int) (i : Int) = some ((n + ((B.drop i).filter fun b => decide (Th.getP S71.f0 S71.f1 A b.f0 < 0)).length : Nat) : Int)
  | _, _, 0, _, _, h, _ => by omega
  | 0, i, k + 1, n, h, _, _ => by
    rw [spec_PairChanges.l1, if_neg (by omega), List.drop_of_length_le (by omega)]
    rfl
  | d + 1, i, k + 1, n, h, hk, hn => by
    have hi : i < B.length := by omega
    have hw : wrap64 ((i : Int) + 1) = ((i + 1 : Nat) : Int) := by rw [Th.wrap_small (by omega) (by omega)]; omega
    have h1 : wrap64 ((n : Int) + 1) = ((n + 1 : Nat) : Int) := by rw [Th.wrap_small (by omega) (by omega)]; omega
    have ih := fun m hm => spec_PairChanges_l1 A B hA hB d (i + 1) k m (by omega) (by omega) hm
    rw [spec_PairChanges.l1, if_pos (by omega), if_pos (by omega), show rd_T71 B (i : Int) = B.getD i z71 from rfl, spec_PairGet_eq A _ k (by omega) (by omega), Option.bind_some, hw, h1, ih _ (show n + 1 ≤ 48 + (i + 1) by omega), ih _ (show n ≤ 48 + (i + 1) by omega), List.drop_eq_getElem_cons hi, Th.getD_at _ B i hi]
    by_cases c : Th.getP S71.f0 S71.f1 A (B[i]'hi).f0 < 0
    · rw [if_pos c, List.filter_cons_of_pos (p := fun b : S71 => decide (Th.getP S71.f0 S71.f1 A b.f0 < 0)) (decide_eq_true c), List.length_cons]
      congr 2
      omega
    · rw [if_neg c, List.filter_cons_of_neg (p := fun b : S71 => decide (Th.getP S71.f0 S71.f1 A b.f0 < 0)) (by simpa using c)]
theorem spec_PairChanges_l0 (A B : List S71) (hA : A.length ≤ 48) (hB : B.length ≤ 48) : ∀ (d i k : Nat) (n : Nat), i + d = A.length → d + 2201 ≤ k → n ≤ i → spec_PairChanges.l0 k A B (n : Int) (i : Int) = some ((n + ((A.drop i).filter fun a => !decide (Th.getP S71.f0 S71.f1 B a.f0 = a.f1)).length + (B.filter fun b => decide (Th.getP S71.f0 S71.f1 A b.f0 < 0)).length : Nat) : Int)
  | _, _, 0, _, _, h, _ => by omega
  | 0, i, k + 1, n, h, hk, hn => by
    have := spec_PairChanges_l1 A B hA hB B.length 0 k n (by omega) (by omega) (by omega)
    rw [show ((0 : Nat) : Int) = 0 from rfl, List.drop_zero] at this
    rw [spec_PairChanges.l0, if_neg (by omega), this, List.drop_of_length_le (by omega)]
    rfl
  | d + 1, i, k + 1, n, h, hk, hn => by
    have hi : i < A.length := by omega
    have hw : wrap64 ((i : Int) + 1) = ((i + 1 : Nat) : Int) := by rw [Th.wrap_small (by omega) (by omega)]; omega
    have h1 : wrap64 ((n : Int) + 1) = ((n + 1 : Nat) : Int) := by rw [Th.wrap_small (by omega) (by omega)]; omega
    have ih := fun m hm => spec_PairChanges_l0 A B hA hB d (i + 1) k m (by omega) (by omega) hm
    rw [spec_PairChanges.l0, if_pos (by omega), if_pos (by omega), show rd_T71 A (i : Int) = A.getD i z71 from rfl, spec_PairGet_eq B _ k (by omega) (by omega), Option.bind_some, hw, h1, ih _ (show n + 1 ≤ i + 1 by omega), ih _ (show n ≤ i + 1 by omega), List.drop_eq_getElem_cons hi, Th.getD_at _ A i hi]
    by_cases c : Th.getP S71.f0 S71.f1 B (A[i]'hi).f0 = (A[i]'hi).f1
    · rw [if_pos c, List.filter_cons_of_neg (p := fun a : S71 => !decide (Th.getP S71.f0 S71.f1 B a.f0 = a.f1)) (by simpa using c)]
    · rw [if_neg c, List.filter_cons_of_pos (p := fun a : S71 => !decide (Th.getP S71.f0 S71.f1 B a.f0 = a.f1)) (by simpa using c), List.length_cons]
      congr 2
      omega
theorem spec_PairChanges_eq (A B : List S71) (k : Nat) (hk : 3000 ≤ k) : spec_PairChanges.f k A B = some (Th.chgP S71.f0 S71.f1 A B) := by
  obtain ⟨k, rfl⟩ : ∃ m, k = m + 1 := ⟨k - 1, by omega⟩
  unfold spec_PairChanges.f Th.chgP
  rw [spec_PairsValid_eq A (k + 1) (by omega), Option.bind_some]
  by_cases h1 : Th.pv S71.f0 S71.f1 A = true
  · rw [if_pos h1, spec_PairsValid_eq B (k + 1) (by omega), Option.bind_some, spec_PairChanges.j0]
    by_cases h2 : Th.pv S71.f0 S71.f1 B = true
    · have hA := (Th.pv_iff _ _ A).1 h1
      have hB := (Th.pv_iff _ _ B).1 h2
      have la := hA.1
      have lb := hB.1
      have := spec_PairChanges_l0 A B la lb A.length 0 k 0 (by omega) (by omega) (by omega)
      rw [show ((0 : Nat) : Int) = 0 from rfl, List.drop_zero, Nat.zero_add] at this
      rw [h2, if_neg (by simp), this, if_pos ⟨h1, rfl⟩]
      rfl
    · rw [show (!Th.pv S71.f0 S71.f1 B) = true by simpa using h2, if_pos rfl, if_neg (fun h => h2 h.2)]
  · rw [if_neg h1, spec_PairChanges.j0, if_pos rfl, if_neg (fun h => h1 h.1)]
theorem impl_lettersOnly_eq : ∀ (l : List UInt8) (k : Nat), l.length < k → impl_lettersOnly.f k (Th.mkS l) = some (l.all Th.letter)
  | _, 0, h => by omega
  | [], k + 1, _ => by
    rw [impl_lettersOnly.f, if_pos (Th.toList_mkS [])]
    rfl
  | c :: l, k + 1, h => by
    have ih := impl_lettersOnly_eq l k (by simpa using h)
    have hs : (0 : Int) < ((Th.mkS (c :: l)).size : Int) := by rw [Th.size_mkS, List.length_cons]; omega
    have hx : (Th.mkS (c :: l)).extract 1 (Th.mkS (c :: l)).size = Th.mkS l := by rw [Th.extract_mkS, Th.size_mkS, List.take_length]; rfl
    have hs1 : (1 : Int) ≤ ((Th.mkS (c :: l)).size : Int) := by omega
    rw [impl_lettersOnly.f, if_neg (by rw [Th.toList_mkS]; simp), if_pos hs, if_pos hs1, hx, ih, Th.bt_zero]
    simp only [Option.bind_some, List.all_cons, Th.letter]
    by_cases h1 : (c.toNat : Int) ≥ 97
    · rw [if_pos h1, decide_eq_true (show 97 ≤ (c.toNat : Int) from h1)]
      by_cases h2 : (c.toNat : Int) ≤ 122
      · rw [if_pos h2, decide_eq_true h2]; rfl
      · rw [if_neg h2, decide_eq_false h2]; rfl
    · rw [if_neg h1, decide_eq_false (show ¬ 97 ≤ (c.toNat : Int) from h1)]; rfl
theorem impl_KeyValid_eq (s : ByteArray) (k : Nat) (hk : 1000 ≤ k) : impl_KeyValid.f k s = some (Th.kv s) := by
  obtain ⟨l, rfl⟩ := Th.mkS_surj s
  unfold impl_KeyValid.f Th.kv Th.kvL
  rw [Th.toList_mkS, Th.size_mkS]
  by_cases h1 : (l.length : Int) < 1
  · rw [if_pos h1, decide_eq_false (show ¬ 1 ≤ l.length by omega)]; rfl
  · rw [if_neg h1, decide_eq_true (show 1 ≤ l.length by omega)]
    by_cases h2 : (l.length : Int) > 4
    · rw [if_pos h2, decide_eq_false (show ¬ l.length ≤ 4 by omega)]; rfl
    · rw [if_neg h2, decide_eq_true (show l.length ≤ 4 by omega), impl_lettersOnly_eq l k (by omega)]; rfl
theorem impl_valueValid_eq (v : Int) : impl_valueValid.f v = some (decide (0 ≤ v ∧ v ≤ 999)) := by
  unfold impl_valueValid.f
  by_cases h : v ≥ 0
  · rw [if_pos h]; congr 1; simp [show 0 ≤ v from h]
  · rw [if_neg h]; congr 1; simp [show ¬ 0 ≤ v from h]
theorem impl_PairsValid_l0 (l : List S71) (hl : l.length ≤ 48) : ∀ (d i k : Nat), i + d = l.length → 2 * d + 1001 ≤ k → ∃ b, impl_PairsValid.l0 k l l (l.length : Int) (i : Int) = some b ∧ (b = true ↔ ∀ j, i ≤ j → j < l.length → Th.stepOk S71.f0 S71.f1 z71 l j)
  | _, _, 0, _, h => by omega
  | 0, i, k + 1, h, _ => by
    rw [impl_PairsValid.l0, if_neg (by omega)]
    exact ⟨true, rfl, fun _ j h1 h2 => by omega, fun _ => rfl⟩
  | d + 1, i, 1, h, hk => by omega
  | d + 1, i, k + 2, h, hk => by
    have hi : i < l.length := by omega
    obtain ⟨b, hb, hb2⟩ := impl_PairsValid_l0 l hl d (i + 1) k (by omega) (by omega)
    have hw : wrap64 ((i : Int) + 1) = ((i + 1 : Nat) : Int) := by rw [Th.wrap_small (by omega) (by omega)]; omega
    have no : ¬ Th.stepOk S71.f0 S71.f1 z71 l i → ∃ b, some false = some b ∧ (b = true ↔ ∀ j, i ≤ j → j < l.length → Th.stepOk S71.f0 S71.f1 z71 l j) :=
      fun hn => ⟨false, rfl, fun h => (by cases h), fun h => absurd (h i (Nat.le_refl _) hi) hn⟩
    have go : Th.stepOk S71.f0 S71.f1 z71 l i → ∃ b', some b = some b' ∧ (b' = true ↔ ∀ j, i ≤ j → j < l.length → Th.stepOk S71.f0 S71.f1 z71 l j) :=
      fun hn => ⟨b, rfl, hb2.trans (Th.all_from hi hn)⟩
    rw [impl_PairsValid.l0, if_pos (by omega), if_pos (by omega), if_pos (by omega), show rd_T71 l (i : Int) = l.getD i z71 from rfl, impl_KeyValid_eq _ (k + 1) (by omega), Option.bind_some]
    by_cases h1 : Th.kv (l.getD i z71).f0 = true
    · rw [if_pos h1, impl_valueValid_eq, Option.bind_some, impl_PairsValid.j1]
      by_cases h2 : 0 ≤ (l.getD i z71).f1 ∧ (l.getD i z71).f1 ≤ 999
      · rw [decide_eq_true h2, if_neg (by simp)]
        by_cases h0 : 0 < i
        · have hp : wrap64 ((i : Int) - 1) = ((i - 1 : Nat) : Int) := by rw [Th.wrap_small (by omega) (by omega)]; omega
          rw [if_pos (by omega), hp, if_pos (by omega), if_pos (by omega), show rd_T71 l ((i - 1 : Nat) : Int) = l.getD (i - 1) z71 from rfl, hw, hb]
          by_cases c1 : Th.lt (l.getD (i - 1) z71).f0 (l.getD i z71).f0
          · rw [if_pos c1]; exact go ⟨⟨h1, h2⟩, fun _ => c1⟩
          · rw [if_neg c1]; exact no (fun hs => c1 (hs.2 h0))
        · rw [if_neg (by omega), hw, hb]
          exact go ⟨⟨h1, h2⟩, fun h => absurd h h0⟩
      · rw [decide_eq_false h2, if_pos (by rfl)]
        exact no (fun hs => h2 hs.1.2)
    · rw [if_neg h1, impl_PairsValid.j1, if_pos rfl]
      exact no (fun hs => h1 hs.1.1)
theorem impl_PairsValid_eq (l : List S71) (k : Nat) (hk : 2000 ≤ k) : impl_PairsValid.f k l = some (Th.pv S71.f0 S71.f1 l) := by
  unfold impl_PairsValid.f
  by_cases h : (l.length : Int) > 48
  · rw [if_pos h]
    congr 1
    symm
    rw [Bool.eq_false_iff]
    intro hp
    have := ((Th.pv_iff _ _ l).1 hp).1
    omega
  · rw [if_neg h]
    obtain ⟨b, hb, hb2⟩ := impl_PairsValid_l0 l (by omega) l.length 0 k (by omega) (by omega)
    rw [show ((0 : Nat) : Int) = 0 from rfl] at hb
    rw [hb]
    congr 1
    apply Th.bool_eq
    rw [hb2, Th.pv_iff, Th.pv_steps _ _ z71]
    constructor
    · exact fun h' => ⟨by omega, fun j hj => h' j (by omega) hj⟩
    · exact fun h' j _ hj => h'.2 j hj
theorem impl_pairPlace_neg (a b : ByteArray) : impl_pairPlace.cs a b < 0 ↔ Th.lt a b := by
  unfold impl_pairPlace.cs
  by_cases h : Op.bytesLess a.toList b.toList = true
  · rw [if_pos h]; exact ⟨fun _ => h, fun _ => by omega⟩
  · rw [if_neg h]
    refine ⟨fun h' => ?_, fun h' => absurd h' h⟩
    by_cases e : a.toList = b.toList
    · rw [if_pos e] at h'; omega
    · rw [if_neg e] at h'; omega
theorem impl_pairPlace_zero (a b : ByteArray) : impl_pairPlace.cs a b = 0 ↔ a = b := by
  unfold impl_pairPlace.cs
  by_cases h : Op.bytesLess a.toList b.toList = true
  · rw [if_pos h]
    refine ⟨fun h' => by omega, fun h' => ?_⟩
    subst h'
    rw [Th.bl_irrefl] at h; cases h
  · rw [if_neg h]
    by_cases e : a.toList = b.toList
    · rw [if_pos e]; exact ⟨fun _ => Th.str_ext e, fun _ => rfl⟩
    · rw [if_neg e]; exact ⟨fun h' => by omega, fun h' => absurd (congrArg ByteArray.toList h') e⟩
theorem impl_pairPlace_bs (l : List S71) (s : ByteArray) (ha : Th.Asc S71.f0 l) : ∀ (f lo hi : Nat), hi - lo < f → lo ≤ hi → hi ≤ l.length → (∀ j, j < lo → Th.lt (l.getD j z71).f0 s) → (∀ j, hi ≤ j → j < l.length → ¬ Th.lt (l.getD j z71).f0 s) →
    impl_pairPlace.bs l s f lo hi = some (((Th.place S71.f0 l s : Nat) : Int), Th.foundAt S71.f0 l s)
  | 0, _, _, h, _, _, _, _ => by omega
  | f + 1, lo, hi, hf, h1, h2, hb, hr => by
    rw [impl_pairPlace.bs]
    by_cases c : lo < hi
    · rw [if_pos c, show rd_T71 l (((lo + hi) / 2 : Nat) : Int) = l.getD ((lo + hi) / 2) z71 from rfl]
      by_cases e : Th.lt (l.getD ((lo + hi) / 2) z71).f0 s
      · rw [if_pos ((impl_pairPlace_neg _ _).2 e)]
        refine impl_pairPlace_bs l s ha f _ hi (by omega) (by omega) h2 (fun j hj => ?_) hr
        rcases Nat.lt_or_ge j ((lo + hi) / 2) with h | h
        · exact Th.lt_trans (Th.asc_lt _ z71 l ha j _ h (by omega)) e
        · rw [show j = (lo + hi) / 2 by omega]; exact e
      · rw [if_neg (fun h => e ((impl_pairPlace_neg _ _).1 h))]
        refine impl_pairPlace_bs l s ha f lo _ (by omega) (by omega) (by omega) hb (fun j hj hj2 h => ?_)
        rcases Nat.eq_or_lt_of_le hj with h' | h'
        · rw [← h'] at h; exact e h
        · exact e (Th.lt_trans (Th.asc_lt _ z71 l ha _ j h' hj2) h)
    · have hlh : hi = lo := by omega
      subst hlh
      have hp : Th.place S71.f0 l s = hi := Th.place_unique _ z71 l s ha hi h2 hb (fun h => hr hi (Nat.le_refl _) h)
      rw [if_neg c, Th.foundAt_getD _ z71, hp]
      by_cases d : hi < l.length
      · rw [if_pos d, decide_eq_true d, Bool.true_and, show rd_T71 l (hi : Int) = l.getD hi z71 from rfl]
        congr 2
        apply Th.bool_eq
        rw [decide_eq_true_eq, decide_eq_true_eq, impl_pairPlace_zero]
      · rw [if_neg d, decide_eq_false d, Bool.false_and]
theorem impl_pairPlace_eq (l : List S71) (s : ByteArray) (h : Th.PV S71.f0 S71.f1 l) : impl_pairPlace.f l s = some (((Th.place S71.f0 l s : Nat) : Int), Th.foundAt S71.f0 l s) := by
  have hl := h.1
  unfold impl_pairPlace.f
  rw [if_pos (by omega)]
  exact impl_pairPlace_bs l s h.2.2 _ 0 _ (by omega) (by omega) (by omega) (fun j hj => by omega) (fun j h1 h2 => by omega)
theorem impl_overlaps_l0 (A B : List S71) (hA : A.length ≤ 48) (hB : Th.PV S71.f0 S71.f1 B) : ∀ (d i k : Nat) (n : Nat), i + d = A.length → d < k → n ≤ 2 * i → impl_overlaps.l0 k B (n : Int) A (A.length : Int) (i : Int) = some ((n + Th.ovl S71.f0 S71.f1 z71 B (A.drop i) : Nat) : Int)
  | _, _, 0, _, _, h, _ => by omega
  | 0, i, k + 1, n, h, _, _ => by
    rw [impl_overlaps.l0, if_neg (by omega), List.drop_of_length_le (by omega)]
    rfl
  | d + 1, i, k + 1, n, h, hk, hn => by
    have hi : i < A.length := by omega
    have hw : wrap64 ((i : Int) + 1) = ((i + 1 : Nat) : Int) := by rw [Th.wrap_small (by omega) (by omega)]; omega
    have h1 : wrap64 ((n : Int) + 1) = ((n + 1 : Nat) : Int) := by rw [Th.wrap_small (by omega) (by omega)]; omega
    have h2 : wrap64 ((n : Int) + 2) = ((n + 2 : Nat) : Int) := by rw [Th.wrap_small (by omega) (by omega)]; omega
    have ih := fun m hm => impl_overlaps_l0 A B hA hB d (i + 1) k m (by omega) (by omega) hm
    rw [impl_overlaps.l0, if_pos (by omega), if_pos (by omega), if_pos (by omega), show rd_T71 A (i : Int) = A.getD i z71 from rfl, impl_pairPlace_eq B _ hB, Option.bind_some, hw, h1, h2, ih _ (show n + 1 ≤ 2 * (i + 1) by omega), ih _ (show n + 2 ≤ 2 * (i + 1) by omega), ih _ (show n ≤ 2 * (i + 1) by omega)]
    rw [List.drop_eq_getElem_cons hi, Th.ovl, Th.getD_at _ A i hi]
    have hf := Th.foundAt_getD S71.f0 z71 B (A[i]'hi).f0
    cases c : Th.foundAt S71.f0 B (A[i]'hi).f0 with
    | false => simp
    | true =>
      rw [c] at hf
      have hlt : Th.place S71.f0 B (A[i]'hi).f0 < B.length := by
        have := hf.symm
        simp only [Bool.and_eq_true, decide_eq_true_eq] at this
        exact this.1
      simp only [if_true]
      rw [if_pos (by omega), if_pos (by omega), show rd_T71 B ((Th.place S71.f0 B (A[i]'hi).f0 : Nat) : Int) = B.getD (Th.place S71.f0 B (A[i]'hi).f0) z71 from rfl]
      by_cases e : (B.getD (Th.place S71.f0 B (A[i]'hi).f0) z71).f1 = (A[i]'hi).f1
      · rw [if_pos e, if_pos e, Nat.add_assoc]
      · rw [if_neg e, if_neg e, Nat.add_assoc]
theorem impl_overlaps_eq (A B : List S71) (k : Nat) (hA : A.length ≤ 48) (hB : Th.PV S71.f0 S71.f1 B) (hk : 100 ≤ k) : impl_overlaps.f k A B = some ((Th.ovl S71.f0 S71.f1 z71 B A : Nat) : Int) := by
  have := impl_overlaps_l0 A B hA hB A.length 0 k 0 (by omega) (by omega) (by omega)
  unfold impl_overlaps.f
  rw [show ((0 : Nat) : Int) = 0 from rfl] at this
  rw [this, List.drop_zero, Nat.zero_add]
theorem impl_PairChanges_eq (A B : List S71) (k : Nat) (hk : 3000 ≤ k) : impl_PairChanges.f k A B = some (Th.chgP S71.f0 S71.f1 A B) := by
  unfold impl_PairChanges.f Th.chgP
  rw [impl_PairsValid_eq A k (by omega), Option.bind_some]
  by_cases h1 : Th.pv S71.f0 S71.f1 A = true
  · rw [if_pos h1, impl_PairsValid_eq B k (by omega), Option.bind_some]
    by_cases h2 : Th.pv S71.f0 S71.f1 B = true
    · have hA := (Th.pv_iff _ _ A).1 h1
      have hB := (Th.pv_iff _ _ B).1 h2
      have la := hA.1
      have lb := hB.1
      have ho := Th.ovl_chg _ _ z71 A B hA hB
      rw [if_pos h2, impl_overlaps_eq A B k la hB (by omega), Option.bind_some, if_pos ⟨h1, h2⟩, Th.wrap_small (show -9223372036854775808 ≤ (A.length : Int) + (B.length : Int) by omega) (by omega), Th.wrap_small (by omega) (by omega)]
      congr 1
      omega
    · rw [if_neg h2, if_neg (fun h => h2 h.2)]
  · rw [if_neg h1, if_neg (fun h => h1 h.1)]
theorem FnExactPairChanges : laws_FnExactPairChanges.Pure := by
  intro l0 l1 hw0 hw1
  obtain ⟨t0, ht0, hl0, hs0⟩ := laws_szPairS_tot l0 1048576 (by omega) (by omega) hw0
  refine ⟨l0.length + l1.length + 5000, ?_⟩
  unfold laws_FnExactPairChanges.f
  rw [hs0 _ (by omega), Option.bind_some]
  by_cases h0 : t0 < 0
  · rw [if_pos h0]
  obtain ⟨t1, ht1, hl1, hs1⟩ := laws_szPairS_tot l1 t0 (by omega) (by omega) hw1
  rw [if_neg h0, hs1 _ (by omega), Option.bind_some]
  by_cases h1 : t1 < 0
  · rw [if_pos h1]
  rw [if_neg h1]
  have c0 := hl0 (by omega)
  have c1 := hl1 (by omega)
  have e0 : (l0.map toP).length = l0.length := List.length_map ..
  have e1 : (l1.map toP).length = l1.length := List.length_map ..
  generalize hM : l0.length + l1.length + 5000 = M
  generalize hA : l0.map toP = A at *
  generalize hB : l1.map toP = B at *
  have t0' : ∀ k, l0.length + 2 ≤ k → laws_toPairS.f k l0 = some A := fun k hk => by rw [laws_toPairS_eq l0 c0 k hk, hA]
  have t1' : ∀ k, l1.length + 2 ≤ k → laws_toPairS.f k l1 = some B := fun k hk => by rw [laws_toPairS_eq l1 c1 k hk, hB]
  repeat' first
    | with_reducible rfl
    | with_reducible refine Th.ite_t rfl ?_
    | with_reducible refine Th.ite_f (Th.bne_no _) ?_
    | with_reducible refine Th.ite_f Th.ft_no ?_
    | with_reducible refine Th.ite_f (show ¬ ((!true) = true) by simp) ?_
    | with_reducible refine Th.bind_to (t0' _ (by omega)) ?_
    | with_reducible refine Th.bind_to (t1' _ (by omega)) ?_
    | with_reducible refine Th.bind_to (spec_PairChanges_eq A B _ (by omega)) ?_
    | with_reducible refine Th.bind_to (impl_PairChanges_eq A B _ (by omega)) ?_
    | with_reducible refine Th.bind_to (laws_eqPairS_refl _ (by omega) _ (by omega)) ?_
    | with_reducible refine Th.bind_to rfl ?_

end Go.Proofs.Yteomkhlhjhmbmaa.Pure
