/- The plain law of FnExactPartitionMerge: what the printed functions compute, and that it answers true: for every input that the statement lets in. -/
import Derived.Test.YteomkhlhjhmbmaaPFnExactPartitionMergex
import Derived.Test.YteomkhlhjhmbmaaSFnExactPartitionMerge
import Derived.Test.YteomkhlhjhmbmaaThA
import Derived.Test.YteomkhlhjhmbmaaThB
import Derived.Test.YteomkhlhjhmbmaaThL
import Derived.Test.YteomkhlhjhmbmaaThD
namespace Go.Proofs.Yteomkhlhjhmbmaa.Pure
open Go Go.RowKit Go.Proofs.Yteomkhlhjhmbmaa.PFnExactPartitionMerge Go.Proofs.YteomkhlhjhmbmaaW.PrintWords Go.Proofs.YteomkhlhjhmbmaaW.PrintLast Go.Proofs.Yteomkhlhjhmbmaa
set_option linter.unusedVariables false
set_option linter.unusedSimpArgs false
set_option maxRecDepth 10000
theorem laws_szInterval_tot (a b : ByteArray) (n : Int) : ∃ t, laws_szInterval.f a b n = some t := by
  unfold laws_szInterval.f
  by_cases h1 : wrap64 (n - (a.size : Int)) < 0
  · rw [if_pos h1]; exact ⟨_, rfl⟩
  · rw [if_neg h1]
    by_cases h2 : wrap64 (wrap64 (n - (a.size : Int)) - (b.size : Int)) < 0
    · rw [if_pos h2]; exact ⟨_, rfl⟩
    · rw [if_neg h2]; exact ⟨_, rfl⟩
theorem laws_szInterval_le (a b : ByteArray) (n : Int) (ha : a.size ≤ maxLen) (hb : b.size ≤ maxLen) (h0 : 0 ≤ n) (hn : n ≤ 1048576) : ∃ t, laws_szInterval.f a b n = some t ∧ t ≤ 1048576 := by
  simp only [maxLen] at ha hb
  unfold laws_szInterval.f
  rw [Th.wrap_small (show -9223372036854775808 ≤ n - (a.size : Int) by omega) (by omega)]
  by_cases h1 : n - (a.size : Int) < 0
  · rw [if_pos h1]; exact ⟨_, rfl, by omega⟩
  · rw [if_neg h1, Th.wrap_small (show -9223372036854775808 ≤ n - (a.size : Int) - (b.size : Int) by omega) (by omega)]
    by_cases h2 : n - (a.size : Int) - (b.size : Int) < 0
    · rw [if_pos h2]; exact ⟨_, rfl, by omega⟩
    · rw [if_neg h2]; exact ⟨_, rfl, by omega⟩
theorem laws_szIntervalS_l0 (l : List S76) (hl : l.length ≤ maxLen) (hw : ∀ a ∈ l, a.f0.size ≤ maxLen ∧ a.f1.size ≤ maxLen) : ∀ (d i : Nat) (n : Int), i + d = l.length → 0 ≤ n → n ≤ 1048576 → ∃ t, t ≤ 1048576 ∧ ∀ k, d < k → laws_szIntervalS.l0 k l n (i : Int) = some t
  | 0, i, n, h, h0, hn => by
    refine ⟨n, hn, fun k hk => ?_⟩
    obtain ⟨k, rfl⟩ : ∃ m, k = m + 1 := ⟨k - 1, by omega⟩
    rw [laws_szIntervalS.l0, if_neg (by omega)]
  | d + 1, i, n, h, h0, hn => by
    simp only [maxLen] at hl
    have hi : i < l.length := by omega
    have hm := hw _ (Th.getD_mem z76 l i hi)
    obtain ⟨t, ht, ht1⟩ := laws_szInterval_le (l.getD i z76).f0 (l.getD i z76).f1 n hm.1 hm.2 h0 hn
    have step : ∀ k, laws_szIntervalS.l0 (k + 1) l n (i : Int) = if t < 0 then some (-1) else laws_szIntervalS.l0 k l t ((i + 1 : Nat) : Int) := by
      intro k
      rw [laws_szIntervalS.l0, if_pos (by omega), if_pos (by omega), show rd_T76 l (i : Int) = l.getD i z76 from rfl, ht, Option.bind_some, Th.wrap_small (by omega) (by omega)]
      rfl
    by_cases hn' : t < 0
    · refine ⟨-1, by omega, fun k hk => ?_⟩
      obtain ⟨k, rfl⟩ : ∃ m, k = m + 1 := ⟨k - 1, by omega⟩
      rw [step, if_pos hn']
    · obtain ⟨t2, ht2, hk2⟩ := laws_szIntervalS_l0 l hl hw d (i + 1) t (by omega) (by omega) ht1
      refine ⟨t2, ht2, fun k hk => ?_⟩
      obtain ⟨k, rfl⟩ : ∃ m, k = m + 1 := ⟨k - 1, by omega⟩
      rw [step, if_neg hn', hk2 k (by omega)]
theorem laws_szIntervalS_tot (l : List S76) (n : Int) (h0 : 0 ≤ n) (hn : n ≤ 1048576) (hw : l.length ≤ maxLen ∧ ∀ a ∈ l, a.f0.size ≤ maxLen ∧ a.f1.size ≤ maxLen) : ∃ t, t ≤ 1048576 ∧ (0 ≤ t → l.length ≤ 1048576) ∧ ∀ k, l.length + 2 ≤ k → laws_szIntervalS.f k l n = some t := by
  have hl := hw.1
  simp only [maxLen] at hl
  unfold laws_szIntervalS.f
  rw [Th.wrap_small (by omega) (by omega)]
  by_cases h : n - (l.length : Int) < 0
  · simp only [if_pos h]
    exact ⟨-1, by omega, by omega, fun _ _ => rfl⟩
  · simp only [if_neg h]
    obtain ⟨t, ht, hk⟩ := laws_szIntervalS_l0 l hw.1 hw.2 l.length 0 (n - (l.length : Int)) (by omega) (by omega) (by omega)
    exact ⟨t, ht, fun _ => by omega, fun k h => hk k (by omega)⟩
def toI (x : S76) : S79 := ⟨x.f0, x.f1⟩
theorem laws_toIntervalS_l0 (l : List S76) (hl : l.length ≤ 1048576) : ∀ (d i k : Nat) (o : List S79), i + d = l.length → d < k → o.length = l.length → o.take i = (l.take i).map toI → laws_toIntervalS.l0 k l o (i : Int) = some (l.map toI)
  | _, _, 0, _, _, h, _, _ => by omega
  | 0, i, k + 1, o, h, _, ho, ht => by
    rw [laws_toIntervalS.l0, if_neg (by omega)]
    rw [List.take_of_length_le (by omega), List.take_of_length_le (by omega)] at ht
    rw [ht]
  | d + 1, i, k + 1, o, h, hk, ho, ht => by
    have hi : i < l.length := by omega
    have ih := laws_toIntervalS_l0 l hl d (i + 1) k (o.set i (toI (l.getD i z76))) (by omega) (by omega) (by rw [List.length_set]; exact ho) (by
      rw [Th.take_set_succ _ _ _ (by omega), ht, List.take_succ_eq_append_getElem hi, List.map_append, Th.getD_at _ l i hi]; rfl)
    rw [laws_toIntervalS.l0, if_pos (by omega), if_pos (by omega), show rd_T76 l (i : Int) = l.getD i z76 from rfl]
    simp only [laws_toInterval.f, Option.bind_some]
    rw [if_pos (by omega), Th.wrap_small (by omega) (by omega)]
    exact ih
theorem laws_toIntervalS_eq (l : List S76) (hl : l.length ≤ 1048576) (k : Nat) (hk : l.length + 2 ≤ k) : laws_toIntervalS.f k l = some (l.map toI) := by
  unfold laws_toIntervalS.f
  rw [if_pos (by omega), if_pos (by rw [Int.toNat_natCast]; omega)]
  exact laws_toIntervalS_l0 l hl l.length 0 k _ (by omega) (by omega) (by simp) (by simp)
theorem laws_eqInterval_refl (a b : ByteArray) : laws_eqInterval.f a b a b = some true := by
  unfold laws_eqInterval.f
  rw [if_pos rfl, if_pos rfl]
theorem laws_eqIntervalS_l0 (l : List S79) (hl : l.length ≤ 4294967296) : ∀ (d i k : Nat), i + d = l.length → d < k → laws_eqIntervalS.l0 k l l (i : Int) = some true
  | _, _, 0, _, h => by omega
  | 0, i, k + 1, h, _ => by rw [laws_eqIntervalS.l0, if_neg (by omega)]
  | d + 1, i, k + 1, h, hk => by
    have ih := laws_eqIntervalS_l0 l hl d (i + 1) k (by omega) (by omega)
    rw [laws_eqIntervalS.l0, if_pos (by omega), if_pos (by omega), if_pos (by omega), Th.wrap_small (by omega) (by omega)]
    simp only [laws_eqInterval.f, if_true, Option.bind_some]
    exact ih
theorem laws_eqIntervalS_refl (l : List S79) (hl : l.length ≤ 4294967296) (k : Nat) (hk : l.length + 2 ≤ k) : laws_eqIntervalS.f k l l = some true := by
  unfold laws_eqIntervalS.f
  rw [if_pos rfl]
  exact laws_eqIntervalS_l0 l hl l.length 0 k (by omega) (by omega)
theorem laws_markText_l0 : ∀ (d : Nat) (n : Int) (s : ByteArray), n < (10 : Int) ^ d → s.size + d ≤ 1000 → ∃ r, ∀ k, d < k → laws_markText.l0 k n s = some r
  | 0, n, s, hn, hs => by
    refine ⟨(⟨#[109]⟩ : ByteArray) ++ s, fun k hk => ?_⟩
    obtain ⟨k, rfl⟩ : ∃ m, k = m + 1 := ⟨k - 1, by omega⟩
    rw [Int.pow_zero] at hn
    rw [laws_markText.l0, if_neg (by omega), if_pos (by omega)]
  | d + 1, n, s, hn, hs => by
    by_cases h : n > 0
    · have h10 : n / 10 < (10 : Int) ^ d := by
        rw [Int.pow_succ] at hn
        exact Int.ediv_lt_of_lt_mul (by omega) hn
      have hsz : ∀ y : List Int, (strOfNums y).size = y.length := strOfNums_size
      obtain ⟨r, hr⟩ := laws_markText_l0 d (n / 10) (strOfNums [(wrap64 (48 + Int.tmod n 10)) % 256] ++ s) h10 (by rw [ByteArray.size_append, hsz]; simp only [List.length_cons, List.length_nil]; omega)
      by_cases hb : n ≤ 9223372036854775807
      · refine ⟨r, fun k hk => ?_⟩
        obtain ⟨k, rfl⟩ : ∃ m, k = m + 1 := ⟨k - 1, by omega⟩
        have e3 : wrap64 (Int.tdiv n 10) = n / 10 := by
          rw [Int.tdiv_eq_ediv_of_nonneg (by omega)]
          exact Th.wrap_small (by omega) (by omega)
        rw [laws_markText.l0, if_pos h, Option.bind_some, if_pos (by rw [hsz]; simp only [List.length_cons, List.length_nil]; omega), e3]
        exact hr k (by omega)
      · obtain ⟨r2, hr2⟩ : ∃ r, ∀ k, d < k → laws_markText.l0 k (wrap64 (Int.tdiv n 10)) (strOfNums [(wrap64 (48 + Int.tmod n 10)) % 256] ++ s) = some r := by
          refine laws_markText_l0 d _ _ ?_ (by rw [ByteArray.size_append, hsz]; simp only [List.length_cons, List.length_nil]; omega)
          rw [Int.tdiv_eq_ediv_of_nonneg (by omega)]
          have : wrap64 (n / 10) ≤ n / 10 := by unfold wrap64; omega
          omega
        refine ⟨r2, fun k hk => ?_⟩
        obtain ⟨k, rfl⟩ : ∃ m, k = m + 1 := ⟨k - 1, by omega⟩
        rw [laws_markText.l0, if_pos h, Option.bind_some, if_pos (by rw [hsz]; simp only [List.length_cons, List.length_nil]; omega)]
        exact hr2 k (by omega)
    · refine ⟨(⟨#[109]⟩ : ByteArray) ++ s, fun k hk => ?_⟩
      obtain ⟨k, rfl⟩ : ∃ m, k = m + 1 := ⟨k - 1, by omega⟩
      rw [laws_markText.l0, if_neg h, if_pos (by omega)]
theorem laws_markText_tot (n : Int) (hn : n < 10 ^ 15) : ∃ r, ∀ k, 1000 ≤ k → laws_markText.f k n = some r := by
  unfold laws_markText.f
  by_cases h : n ≤ 0
  · simp only [if_pos h]
    exact ⟨_, fun _ _ => rfl⟩
  · simp only [if_neg h]
    obtain ⟨r, hr⟩ := laws_markText_l0 15 n (⟨#[]⟩ : ByteArray) hn (by show 0 + 15 ≤ 1000; omega)
    exact ⟨r, fun k hk => hr k (by omega)⟩
/-- the text of a mark -/
noncomputable def mt (n : Int) : ByteArray := if h : n < 10 ^ 15 then Classical.choose (laws_markText_tot n h) else Th.mkS []
theorem laws_markText_eq (n : Int) (k : Nat) (hn : n < 1000000000000000) (hk : 1000 ≤ k) : laws_markText.f k n = some (mt n) := by
  have h : n < 10 ^ 15 := hn
  unfold mt
  rw [dif_pos h]
  exact Classical.choose_spec (laws_markText_tot n h) k hk
theorem laws_markIntervalS_l0 : ∀ (d i : Nat) (l : List S79) (n : Int), i + d = l.length → l.length ≤ 4294967296 → 0 ≤ n → n + 2 * d ≤ 1099511627776 → ∃ l' : List S79, l'.length = l.length ∧ l'.take i = l.take i ∧
    (∀ k, d + 1001 ≤ k → laws_markIntervalS.l0 k l n (i : Int) = some (n + 2 * d, l')) ∧ (∀ j, j < d → l'.getD (i + j) z79 = ⟨mt (n + 2 * j), mt (n + 2 * j + 1)⟩)
  | 0, i, l, n, h, hl, h0, hn => by
    refine ⟨l, rfl, rfl, fun k hk => ?_, fun j hj => by omega⟩
    obtain ⟨k, rfl⟩ : ∃ m, k = m + 1 := ⟨k - 1, by omega⟩
    rw [laws_markIntervalS.l0, if_neg (by omega)]
    simp
  | d + 1, i, l, n, h, hl, h0, hn => by
    have hi : i < l.length := by omega
    have hw : wrap64 ((i : Int) + 1) = ((i + 1 : Nat) : Int) := by rw [Th.wrap_small (by omega) (by omega)]; omega
    have hn1 : wrap64 (n + 1) = n + 1 := Th.wrap_small (by omega) (by omega)
    have hn2 : wrap64 (n + 1 + 1) = n + 2 := by rw [Th.wrap_small (by omega) (by omega)]; omega
    obtain ⟨l', h1, h2, h3, h4⟩ := laws_markIntervalS_l0 d (i + 1) (l.set i ⟨mt n, mt (n + 1)⟩) (n + 2) (by rw [List.length_set]; omega) (by rw [List.length_set]; omega) (by omega) (by omega)
    rw [List.length_set] at h1
    rw [Th.take_set_succ _ _ _ hi] at h2
    have hg : l'.getD i z79 = ⟨mt n, mt (n + 1)⟩ := by
      rw [← Th.getD_take _ l' i (i + 1) (by omega), h2]
      exact Th.getD_snoc _ _ _ _ (by rw [List.length_take]; omega)
    have e2 : n + 2 + 2 * (d : Int) = n + 2 * ((d + 1 : Nat) : Int) := by omega
    refine ⟨l', h1, ?_, fun k hk => ?_, fun j hj => ?_⟩
    · have := congrArg (List.take i) h2
      rw [List.take_take, Nat.min_eq_left (by omega), List.take_append_of_le_length (by rw [List.length_take]; omega), List.take_take, Nat.min_self] at this
      exact this
    · obtain ⟨k, rfl⟩ : ∃ m, k = m + 1 := ⟨k - 1, by omega⟩
      have hs : (l.set i ⟨mt n, (l.getD i z79).f1⟩).getD i z79 = ⟨mt n, (l.getD i z79).f1⟩ := by
        rw [Th.getD_at _ _ i (by rw [List.length_set]; exact hi), List.getElem_set_self]
      rw [laws_markIntervalS.l0, if_pos (by omega), laws_markText_eq n k (by omega) (by omega), Option.bind_some, if_pos (by omega), Option.bind_some, hn1, hn2, hw, laws_markText_eq (n + 1) k (by omega) (by omega), Option.bind_some]
      show laws_markIntervalS.l0 k ((l.set i ⟨mt n, (l.getD i z79).f1⟩).set i ⟨((l.set i ⟨mt n, (l.getD i z79).f1⟩).getD i z79).f0, mt (n + 1)⟩) _ _ = _
      rw [hs, List.set_set, h3 k (by omega), e2]
    · cases j with
      | zero => rw [show i + 0 = i by omega, hg, show n + 2 * ((0 : Nat) : Int) = n by omega]
      | succ j =>
        rw [show i + (j + 1) = i + 1 + j by omega, h4 j (by omega), show n + 2 + 2 * (j : Int) = n + 2 * ((j + 1 : Nat) : Int) by omega]
theorem laws_markIntervalS_eq (l : List S79) (n : Int) (hl : l.length ≤ 4294967296) (h0 : 0 ≤ n) (hn : n ≤ 8589934592) : ∃ l' : List S79, l'.length = l.length ∧ (∀ k, l.length + 1001 ≤ k → laws_markIntervalS.f k l n = some (n + 2 * l.length, l')) ∧ (∀ j, j < l.length → l'.getD j z79 = ⟨mt (n + 2 * j), mt (n + 2 * j + 1)⟩) := by
  obtain ⟨l', h1, _, h3, h4⟩ := laws_markIntervalS_l0 l.length 0 l n (by omega) hl h0 (by omega)
  exact ⟨l', h1, h3, fun j hj => by have := h4 j hj; rwa [Nat.zero_add] at this⟩
theorem laws_heldIntervalS_l0 : ∀ (d i : Nat) (l : List S79) (n : Int), i + d = l.length → l.length ≤ 4294967296 → 0 ≤ n → n + 2 * d ≤ 1099511627776 → (∀ j, j < d → l.getD (i + j) z79 = ⟨mt (n + 2 * j), mt (n + 2 * j + 1)⟩) → (∀ k, d + 1001 ≤ k → laws_heldIntervalS.l0 k l n (i : Int) = some (n + 2 * d))
  | 0, i, l, n, h, hl, h0, hn, hg, k, hk => by
    obtain ⟨k, rfl⟩ : ∃ m, k = m + 1 := ⟨k - 1, by omega⟩
    rw [laws_heldIntervalS.l0, if_neg (by omega)]
    simp
  | d + 1, i, l, n, h, hl, h0, hn, hg, k, hk => by
    obtain ⟨k, rfl⟩ : ∃ m, k = m + 1 := ⟨k - 1, by omega⟩
    have hw : wrap64 ((i : Int) + 1) = ((i + 1 : Nat) : Int) := by rw [Th.wrap_small (by omega) (by omega)]; omega
    have hn1 : wrap64 (n + 1) = n + 1 := Th.wrap_small (by omega) (by omega)
    have hn2 : wrap64 (n + 1 + 1) = n + 2 := by rw [Th.wrap_small (by omega) (by omega)]; omega
    have ih := laws_heldIntervalS_l0 d (i + 1) l (n + 2) (by omega) hl (by omega) (by omega) (fun j hj => by
      have := hg (j + 1) (by omega)
      rw [show i + (j + 1) = i + 1 + j by omega] at this
      rw [this, show n + 2 + 2 * (j : Int) = n + 2 * ((j + 1 : Nat) : Int) by omega]) k (by omega)
    have h00 := hg 0 (by omega)
    rw [show i + 0 = i by omega, show n + 2 * ((0 : Nat) : Int) = n by omega] at h00
    rw [laws_heldIntervalS.l0, if_pos (by omega), if_pos (by omega), laws_markText_eq n k (by omega) (by omega), Option.bind_some, show rd_T79 l (i : Int) = l.getD i z79 from rfl, h00, if_pos rfl, hn1, laws_markText_eq (n + 1) k (by omega) (by omega), Option.bind_some, if_pos rfl, hn2, hw, ih]
    congr 1
    omega
theorem markHeldI (l : List S79) (n : Int) (hl : l.length ≤ 4294967296) (h0 : 0 ≤ n) (hn : n ≤ 8589934592) : ∃ l' : List S79, l'.length = l.length ∧ (∀ k, l.length + 1001 ≤ k → laws_markIntervalS.f k l n = some (n + 2 * l.length, l')) ∧ (∀ k, l.length + 1001 ≤ k → laws_heldIntervalS.f k l' n = some (n + 2 * l.length)) := by
  obtain ⟨l', h1, h3, h4⟩ := laws_markIntervalS_eq l n hl h0 hn
  refine ⟨l', h1, h3, fun k hk => ?_⟩
  have := laws_heldIntervalS_l0 l'.length 0 l' n (by omega) (by omega) h0 (by omega) (fun j hj => by rw [Nat.zero_add]; exact h4 j (by omega)) k (by omega)
  unfold laws_heldIntervalS.f
  rw [show ((0 : Nat) : Int) = 0 from rfl] at this
  rw [this, h1]
theorem spec_l1In_eq (a b c : Int) : spec_l1In.f a b c = some (decide (b ≤ a) && decide (a ≤ c)) := by
  unfold spec_l1In.f
  by_cases h : a ≥ b
  · rw [if_pos h, decide_eq_true (show b ≤ a from h), Bool.true_and]
  · rw [if_neg h, decide_eq_false (show ¬ b ≤ a from h), Bool.false_and]
theorem spec_KeyValid_l0 (l : List UInt8) (hl : l.length ≤ 4) : ∀ (d i k : Nat), i + d = l.length → d < k → spec_KeyValid.l0 k (Th.mkS l) (i : Int) = some ((l.drop i).all Th.letter)
  | _, _, 0, _, h => by omega
  | 0, i, k + 1, h, _ => by
    rw [spec_KeyValid.l0, if_neg (by rw [Th.size_mkS]; omega), List.drop_of_length_le (by omega)]; rfl
  | d + 1, i, k + 1, h, hk => by
    have ih := spec_KeyValid_l0 l hl d (i + 1) k (by omega) (by omega)
    have hi : i < l.length := by omega
    rw [spec_KeyValid.l0, if_pos (by rw [Th.size_mkS]; omega), if_pos (by omega), Th.bt_mkS l i hi, Th.wrap_small (by omega) (by omega), show ((i : Int) + 1) = ((i + 1 : Nat) : Int) by omega, ih, List.drop_eq_getElem_cons hi, List.all_cons]
    simp only [Th.letter]
    by_cases h1 : ((l[i]'hi).toNat : Int) < 97
    · rw [if_pos h1, decide_eq_false (show ¬ 97 ≤ ((l[i]'hi).toNat : Int) by omega)]; rfl
    · rw [if_neg h1, decide_eq_true (show 97 ≤ ((l[i]'hi).toNat : Int) by omega)]
      by_cases h2 : ((l[i]'hi).toNat : Int) > 122
      · rw [if_pos h2, decide_eq_false (show ¬ ((l[i]'hi).toNat : Int) ≤ 122 by omega)]; rfl
      · rw [if_neg h2, decide_eq_true (show ((l[i]'hi).toNat : Int) ≤ 122 by omega)]; rfl
theorem spec_KeyValid_eq (s : ByteArray) (k : Nat) (hk : 1000 ≤ k) : spec_KeyValid.f k s = some (Th.kv s) := by
  obtain ⟨l, rfl⟩ := Th.mkS_surj s
  unfold spec_KeyValid.f Th.kv Th.kvL
  rw [spec_l1In_eq, Th.toList_mkS, Th.size_mkS, Option.bind_some]
  by_cases h : 1 ≤ l.length ∧ l.length ≤ 4
  · have h0 := spec_KeyValid_l0 l h.2 l.length 0 k (by omega) (by omega)
    rw [show ((0 : Nat) : Int) = 0 from rfl] at h0
    rw [decide_eq_true (show (1 : Int) ≤ (l.length : Int) by omega), decide_eq_true (show (l.length : Int) ≤ 4 by omega), decide_eq_true h.1, decide_eq_true h.2, h0]
    rfl
  · by_cases h1 : 1 ≤ l.length
    · rw [decide_eq_false (show ¬ (l.length : Int) ≤ 4 by omega), decide_eq_false (show ¬ l.length ≤ 4 by omega)]; simp
    · rw [decide_eq_false (show ¬ (1 : Int) ≤ (l.length : Int) by omega), decide_eq_false h1]; simp
theorem spec_IntervalValid_eq (lo hi : ByteArray) (k : Nat) (hk : 1000 ≤ k) : spec_IntervalValid.f k lo hi = some (Th.iv lo hi) := by
  unfold spec_IntervalValid.f
  simp only [spec_KeyValid_eq _ k hk, Option.bind_some]
  by_cases h2 : hi.toList = []
  · have e2 := Th.er_nil h2
    have k2 := Th.kv0_nil h2
    simp only [if_pos h2]
    by_cases h1 : lo.toList = []
    · rw [if_pos h1]
      congr 1
      exact ((Th.iv_iff lo hi).2 ⟨Th.kv0_nil h1, k2, .inl e2⟩).symm
    · rw [if_neg h1]
      cases hv : Th.kv lo with
      | true =>
        rw [if_pos rfl]
        congr 1
        exact ((Th.iv_iff lo hi).2 ⟨Th.kv0_of_kv hv, k2, .inl e2⟩).symm
      | false =>
        rw [if_neg (by simp)]
        congr 1
        symm
        rw [Bool.eq_false_iff]
        intro h
        have := ((Th.kv0_iff lo).1 ((Th.iv_iff lo hi).1 h).1)
        rcases this with h' | h'
        · exact h1 h'
        · rw [hv] at h'; cases h'
  · simp only [if_neg h2]
    cases hv2 : Th.kv hi with
    | false =>
      have hf : Th.iv lo hi = false := by
        rw [Bool.eq_false_iff]
        intro h
        rcases (Th.kv0_iff hi).1 ((Th.iv_iff lo hi).1 h).2.1 with h' | h'
        · exact h2 h'
        · rw [hv2] at h'; cases h'
      rw [hf]
      by_cases h1 : lo.toList = []
      · rw [if_pos h1]; simp
      · rw [if_neg h1]; cases Th.kv lo <;> simp
    | true =>
      have k2 := Th.kv0_of_kv hv2
      have p2 := Th.er_pos hv2
      by_cases h1 : lo.toList = []
      · have hl : Op.bytesLess lo.toList hi.toList = true := (Th.lt_iff (Th.kv0_nil h1) k2).2 (by rw [Th.er_nil h1]; omega)
        rw [if_pos h1, if_pos rfl, if_pos hl]
        congr 1
        apply Th.bool_eq
        rw [bne_iff_ne, Ne, Th.er_a hi k2, Th.iv_iff, Th.er_nil h1]
        constructor
        · intro h; exact ⟨Th.kv0_nil h1, k2, .inr ⟨by omega, by omega⟩⟩
        · rintro ⟨_, _, h | h⟩ <;> omega
      · rw [if_neg h1]
        cases hv1 : Th.kv lo with
        | false =>
          rw [if_neg (by simp)]
          congr 1
          symm
          rw [Bool.eq_false_iff]
          intro h
          rcases (Th.kv0_iff lo).1 ((Th.iv_iff lo hi).1 h).1 with h' | h'
          · exact h1 h'
          · rw [hv1] at h'; cases h'
        | true =>
          have k1 := Th.kv0_of_kv hv1
          have p1 := Th.er_pos hv1
          rw [if_pos rfl, if_pos rfl]
          by_cases hl : Th.lt lo hi
          · have hl' := (Th.lt_iff k1 k2).1 hl
            rw [if_pos hl]
            congr 1
            exact ((Th.iv_iff lo hi).2 ⟨k1, k2, .inr ⟨hl', by omega⟩⟩).symm
          · have hl' : ¬ Th.er lo < Th.er hi := fun h => hl ((Th.lt_iff k1 k2).2 h)
            rw [if_neg hl]
            congr 1
            symm
            rw [Bool.eq_false_iff]
            intro h
            rcases ((Th.iv_iff lo hi).1 h).2.2 with h | h <;> omega
theorem spec_IntervalJoin_eq (l1 h1 l2 h2 : ByteArray) (k : Nat) (hk : 1000 ≤ k) : spec_IntervalJoin.f k l1 h1 l2 h2 = some (Th.joinI l1 h1 l2 h2) := by
  unfold spec_IntervalJoin.f Th.joinI
  simp only [spec_IntervalValid_eq _ _ k hk, Option.bind_some]
  cases hv : Th.iv l1 h1 with
  | false => simp; rfl
  | true =>
    rw [if_pos rfl]
    cases hv2 : Th.iv l2 h2 with
    | false => simp; rfl
    | true =>
      have i1 := (Th.iv_iff l1 h1).1 hv
      rw [if_pos rfl]
      by_cases e : h1.toList = []
      · rw [if_pos e, if_neg (fun h => h.2.2.1 (Th.er_nil e))]; rfl
      · rw [if_neg e]
        by_cases e2 : h1.toList = l2.toList
        · rw [if_pos e2, if_pos ⟨rfl, rfl, fun h => e ((Th.er_eq_zero i1.2.1).1 h), Th.str_ext e2⟩]
        · rw [if_neg e2, if_neg (fun h => e2 (by rw [h.2.2.2]))]; rfl
theorem spec_PartitionValid_l0 (l : List S79) (hl : l.length ≤ 6) : ∀ (d i k : Nat), i + d = l.length → 1 ≤ i → d + 1001 ≤ k → ∃ b, spec_PartitionValid.l0 k l (i : Int) = some b ∧ (b = true ↔ ∀ j, i ≤ j → j < l.length → Th.adj S79.f0 S79.f1 z79 l j)
  | _, _, 0, _, _, h => by omega
  | 0, i, k + 1, h, _, _ => by
    rw [spec_PartitionValid.l0, if_neg (by omega)]
    exact ⟨true, rfl, fun _ j h1 h2 => by omega, fun _ => rfl⟩
  | d + 1, i, k + 1, h, h1, hk => by
    have hi : i < l.length := by omega
    obtain ⟨b, hb, hb2⟩ := spec_PartitionValid_l0 l hl d (i + 1) k (by omega) (by omega) (by omega)
    have hw : wrap64 ((i : Int) + 1) = ((i + 1 : Nat) : Int) := by rw [Th.wrap_small (by omega) (by omega)]; omega
    have hp : wrap64 ((i : Int) - 1) = ((i - 1 : Nat) : Int) := by rw [Th.wrap_small (by omega) (by omega)]; omega
    rw [spec_PartitionValid.l0, if_pos (by omega), hp, if_pos (by omega), if_pos (by omega), if_pos (by omega), spec_IntervalJoin_eq _ _ _ _ k (by omega), Option.bind_some, hw, hb, show rd_T79 l (i : Int) = l.getD i z79 from rfl, show rd_T79 l ((i - 1 : Nat) : Int) = l.getD (i - 1) z79 from rfl]
    by_cases c : Th.adj S79.f0 S79.f1 z79 l i
    · have c' := c
      unfold Th.adj at c'
      rw [if_pos c']
      exact ⟨b, rfl, hb2.trans (Th.all_from hi c)⟩
    · have c' := c
      unfold Th.adj at c'
      rw [if_neg c']
      exact ⟨false, rfl, fun h => (by cases h), fun h => absurd (h i (Nat.le_refl _) hi) c⟩
theorem spec_PartitionValid_eq (l : List S79) (k : Nat) (hl : l.length ≤ 4294967296) (hk : 2000 ≤ k) : spec_PartitionValid.f k l = some (Th.ptv S79.f0 S79.f1 z79 l) := by
  obtain ⟨k, rfl⟩ : ∃ m, k = m + 1 := ⟨k - 1, by omega⟩
  have no : ¬ Th.PtV S79.f0 S79.f1 z79 l → spec_PartitionValid.j0 (k + 1) l true = some (Th.ptv S79.f0 S79.f1 z79 l) := by
    intro h
    have : Th.ptv S79.f0 S79.f1 z79 l = false := by
      rw [Bool.eq_false_iff]
      exact fun h' => h ((Th.ptv_iff _ _ _ _).1 h')
    rw [spec_PartitionValid.j0, if_pos rfl, this]
  unfold spec_PartitionValid.f
  rw [spec_l1In_eq, Option.bind_some]
  by_cases h : 1 ≤ (l.length : Int) ∧ (l.length : Int) ≤ 6
  · have hw : wrap64 ((l.length : Int) - 1) = ((l.length - 1 : Nat) : Int) := by rw [Th.wrap_small (by omega) (by omega)]; omega
    rw [decide_eq_true h.1, decide_eq_true h.2, if_pos (by rfl), if_pos (by omega), spec_IntervalValid_eq _ _ (k + 1) (by omega), Option.bind_some, hw, show rd_T79 l 0 = l.getD 0 z79 from rfl, show rd_T79 l ((l.length - 1 : Nat) : Int) = l.getD (l.length - 1) z79 from rfl]
    by_cases c1 : Th.iv (l.getD 0 z79).f0 (l.getD 0 z79).f1 = true
    · rw [if_pos c1]
      by_cases c2 : (l.getD 0 z79).f0.toList = []
      · rw [if_pos c2, if_pos (by omega), if_pos (by omega)]
        by_cases c3 : (l.getD (l.length - 1) z79).f1.toList = []
        · obtain ⟨b, hb, hb2⟩ := spec_PartitionValid_l0 l (by omega) (l.length - 1) 1 k (by omega) (by omega) (by omega)
          rw [spec_PartitionValid.j0, if_neg (by simpa using c3)]
          rw [show ((1 : Nat) : Int) = 1 from rfl] at hb
          rw [hb]
          congr 1
          apply Th.bool_eq
          rw [hb2, Th.ptv_iff]
          constructor
          · exact fun h' => ⟨by omega, c2, c3, (Th.step_of_adj _ _ _ l c1 _).1 h' (by omega)⟩
          · exact fun h' => (Th.step_of_adj _ _ _ l c1 _).2 (fun _ => h'.2.2.2)
        · rw [show ((l.getD (l.length - 1) z79).f1.toList != []) = true by simpa using c3]
          exact no (fun h => c3 h.2.2.1)
      · rw [if_neg c2]; exact no (fun h => c2 h.2.1)
    · rw [if_neg c1]; exact no (fun h' => c1 (h'.2.2.2 0 (by omega)).1)
  · rw [if_neg (by simp only [Bool.and_eq_true, decide_eq_true_eq]; exact h)]
    exact no (fun h' => h (by have := h'.1; omega))
theorem spec_PartitionMerge_eq (l : List S79) (n : Int) (k : Nat) (hl : l.length ≤ 4294967296) (hk : 3000 ≤ k) : spec_PartitionMerge.f k l n = some (Th.mergeI S79.f0 S79.f1 z79 S79.mk l n) := by
  unfold spec_PartitionMerge.f Th.mergeI
  rw [Option.bind_some, spec_PartitionValid_eq l k hl (by omega), Option.bind_some]
  by_cases h : Th.ptv S79.f0 S79.f1 z79 l = true
  · have hP := (Th.ptv_iff _ _ _ _).1 h
    have h6 := hP.1
    have hw : wrap64 ((l.length : Int) - 2) = (l.length : Int) - 2 := Th.wrap_small (by omega) (by omega)
    rw [if_pos h, if_pos h, hw, spec_l1In_eq, Option.bind_some]
    by_cases c : 0 ≤ n ∧ n ≤ (l.length : Int) - 2
    · obtain ⟨n, rfl⟩ : ∃ m : Nat, n = (m : Int) := ⟨n.toNat, by omega⟩
      have hn : n + 1 < l.length := by omega
      have hw1 : wrap64 ((n : Int) + 1) = ((n + 1 : Nat) : Int) := by rw [Th.wrap_small (by omega) (by omega)]; omega
      have hw2 : wrap64 ((n : Int) + 2) = ((n + 2 : Nat) : Int) := by rw [Th.wrap_small (by omega) (by omega)]; omega
      have hj := Th.join_at _ _ z79 l hP n hn
      have ht : (l.take n).length = n := by rw [List.length_take]; omega
      have hd : (l.drop (n + 2)).length = l.length - (n + 2) := List.length_drop ..
      rw [decide_eq_true c.1, decide_eq_true c.2, if_pos (by rfl), if_pos c, if_pos (by omega), if_pos (by omega), hw1, if_pos (by omega), if_pos (by omega), spec_IntervalJoin_eq _ _ _ _ k (by omega), Option.bind_some, show rd_T79 l (n : Int) = l.getD n z79 from rfl, show rd_T79 l ((n + 1 : Nat) : Int) = l.getD (n + 1) z79 from rfl, hj, if_pos (by omega), hw2]
      simp only [Option.bind_some, Int.toNat_natCast, List.nil_append]
      rw [if_pos (by simp only [List.length_nil]; omega), if_pos (by omega), if_pos (by omega), if_pos (by omega), if_pos (by rw [List.length_append]; simp only [List.length_cons, List.length_nil]; omega), List.append_assoc]
      rfl
    · rw [if_neg (by simp only [Bool.and_eq_true, decide_eq_true_eq]; exact c), if_neg c, if_pos (by simp only [List.length_nil]; omega), List.nil_append]
  · rw [if_neg h, if_neg h]
theorem impl_lettersOnly_eq : ∀ (l : List UInt8) (k : Nat), l.length < k → impl_lettersOnly.f k (Th.mkS l) = some (l.all Th.letter)
  | _, 0, h => by omega
  | [], k + 1, _ => by
    rw [impl_lettersOnly.f, if_pos (Th.toList_mkS [])]
    rfl
  | c :: l, k + 1, h => by
    have ih := impl_lettersOnly_eq l k (by simpa using h)
    have hs : (0 : Int) < ((Th.mkS (c :: l)).size : Int) := by rw [Th.size_mkS, List.length_cons]; omega
    have hx : (Th.mkS (c :: l)).extract 1 (Th.mkS (c :: l)).size = Th.mkS l := by rw [Th.extract_mkS, Th.size_mkS, List.take_length]; rfl
    have hs1 : (1 : Int) ≤ ((Th.mkS (c :: l)).size : Int) := by omega
    rw [impl_lettersOnly.f, if_neg (by rw [Th.toList_mkS]; simp), if_pos hs, if_pos hs1, hx, ih, Th.bt_zero]
    simp only [Option.bind_some, List.all_cons, Th.letter]
    by_cases h1 : (c.toNat : Int) ≥ 97
    · rw [if_pos h1, decide_eq_true (show 97 ≤ (c.toNat : Int) from h1)]
      by_cases h2 : (c.toNat : Int) ≤ 122
      · rw [if_pos h2, decide_eq_true h2]; rfl
      · rw [if_neg h2, decide_eq_false h2]; rfl
    · rw [if_neg h1, decide_eq_false (show ¬ 97 ≤ (c.toNat : Int) from h1)]; rfl
theorem impl_KeyValid_eq (s : ByteArray) (k : Nat) (hk : 1000 ≤ k) : impl_KeyValid.f k s = some (Th.kv s) := by
  obtain ⟨l, rfl⟩ := Th.mkS_surj s
  unfold impl_KeyValid.f Th.kv Th.kvL
  rw [Th.toList_mkS, Th.size_mkS]
  by_cases h1 : (l.length : Int) < 1
  · rw [if_pos h1, decide_eq_false (show ¬ 1 ≤ l.length by omega)]; rfl
  · rw [if_neg h1, decide_eq_true (show 1 ≤ l.length by omega)]
    by_cases h2 : (l.length : Int) > 4
    · rw [if_pos h2, decide_eq_false (show ¬ l.length ≤ 4 by omega)]; rfl
    · rw [if_neg h2, decide_eq_true (show l.length ≤ 4 by omega), impl_lettersOnly_eq l k (by omega)]; rfl
theorem impl_lowestKey_eq (a b : ByteArray) : impl_lowestKey.f a b = some (if a.toList = [] then Th.aK else a) := by
  unfold impl_lowestKey.f
  by_cases h : a.toList = []
  · rw [if_pos h, if_pos h]; rfl
  · rw [if_neg h, if_neg h]
theorem impl_IntervalValid_eq (lo hi : ByteArray) (k : Nat) (hk : 1000 ≤ k) : impl_IntervalValid.f k lo hi = some (Th.iv lo hi) := by
  unfold impl_IntervalValid.f
  simp only [impl_KeyValid_eq _ k hk, impl_lowestKey_eq, Option.bind_some]
  by_cases h2 : hi.toList = []
  · have e2 := Th.er_nil h2
    have k2 := Th.kv0_nil h2
    simp only [if_pos h2]
    by_cases h1 : lo.toList = []
    · rw [if_pos h1]
      congr 1
      exact ((Th.iv_iff lo hi).2 ⟨Th.kv0_nil h1, k2, .inl e2⟩).symm
    · rw [if_neg h1]
      cases hv : Th.kv lo with
      | true =>
        rw [if_pos rfl]
        congr 1
        exact ((Th.iv_iff lo hi).2 ⟨Th.kv0_of_kv hv, k2, .inl e2⟩).symm
      | false =>
        rw [if_neg (by simp)]
        congr 1
        symm
        rw [Bool.eq_false_iff]
        intro h
        have := ((Th.kv0_iff lo).1 ((Th.iv_iff lo hi).1 h).1)
        rcases this with h' | h'
        · exact h1 h'
        · rw [hv] at h'; cases h'
  · simp only [if_neg h2]
    cases hv2 : Th.kv hi with
    | false =>
      have hf : Th.iv lo hi = false := by
        rw [Bool.eq_false_iff]
        intro h
        rcases (Th.kv0_iff hi).1 ((Th.iv_iff lo hi).1 h).2.1 with h' | h'
        · exact h2 h'
        · rw [hv2] at h'; cases h'
      rw [hf]
      by_cases h1 : lo.toList = []
      · rw [if_pos h1]; simp
      · rw [if_neg h1]; cases Th.kv lo <;> simp
    | true =>
      have k2 := Th.kv0_of_kv hv2
      have p2 := Th.er_pos hv2
      by_cases h1 : lo.toList = []
      · simp only [if_pos h1, if_true]
        congr 1
        apply Th.bool_eq
        rw [show (Op.bytesLess Th.aK.toList hi.toList = true) = Th.lt Th.aK hi from rfl, Th.lt_iff (Th.kv0_of_kv Th.aK_kv) k2, Th.iv_iff, Th.aK_er, Th.er_nil h1]
        constructor
        · intro h; exact ⟨Th.kv0_nil h1, k2, .inr ⟨by omega, h⟩⟩
        · rintro ⟨_, _, h | h⟩ <;> omega
      · rw [if_neg h1]
        cases hv1 : Th.kv lo with
        | false =>
          rw [if_neg (by simp)]
          congr 1
          symm
          rw [Bool.eq_false_iff]
          intro h
          rcases (Th.kv0_iff lo).1 ((Th.iv_iff lo hi).1 h).1 with h' | h'
          · exact h1 h'
          · rw [hv1] at h'; cases h'
        | true =>
          have k1 := Th.kv0_of_kv hv1
          have p1 := Th.er_pos hv1
          simp only [if_neg h1, if_true]
          congr 1
          apply Th.bool_eq
          rw [show (Op.bytesLess lo.toList hi.toList = true) = Th.lt lo hi from rfl, Th.lt_iff k1 k2, Th.iv_iff]
          constructor
          · intro h; exact ⟨k1, k2, .inr ⟨h, by omega⟩⟩
          · rintro ⟨_, _, h | h⟩ <;> omega
theorem impl_IntervalJoin_eq (l1 h1 l2 h2 : ByteArray) (k : Nat) (hk : 1000 ≤ k) : impl_IntervalJoin.f k l1 h1 l2 h2 = some (Th.joinI l1 h1 l2 h2) := by
  unfold impl_IntervalJoin.f Th.joinI
  simp only [impl_IntervalValid_eq _ _ k hk, Option.bind_some]
  cases hv : Th.iv l1 h1 with
  | false => simp; rfl
  | true =>
    rw [if_pos rfl]
    cases hv2 : Th.iv l2 h2 with
    | false => simp; rfl
    | true =>
      have i1 := (Th.iv_iff l1 h1).1 hv
      rw [if_pos rfl]
      by_cases e : h1.toList = []
      · rw [if_pos e, if_neg (fun h => h.2.2.1 (Th.er_nil e))]; rfl
      · rw [if_neg e]
        by_cases e2 : h1.toList = l2.toList
        · rw [if_pos e2, if_pos ⟨rfl, rfl, fun h => e ((Th.er_eq_zero i1.2.1).1 h), Th.str_ext e2⟩]
        · rw [if_neg e2, if_neg (fun h => e2 (by rw [h.2.2.2]))]; rfl
theorem impl_PartitionValid_l0 (l : List S79) (hl : l.length ≤ 6) : ∀ (d i k : Nat), i + d = l.length → d + 1001 ≤ k → ∃ b, impl_PartitionValid.l0 k l l (l.length : Int) (i : Int) = some b ∧ (b = true ↔ ∀ j, i ≤ j → j < l.length → Th.stepI S79.f0 S79.f1 z79 l j)
  | _, _, 0, _, h => by omega
  | 0, i, k + 1, h, _ => by
    rw [impl_PartitionValid.l0, if_neg (by omega)]
    exact ⟨true, rfl, fun _ j h1 h2 => by omega, fun _ => rfl⟩
  | d + 1, i, k + 1, h, hk => by
    have hi : i < l.length := by omega
    obtain ⟨b, hb, hb2⟩ := impl_PartitionValid_l0 l hl d (i + 1) k (by omega) (by omega)
    have hw : wrap64 ((i : Int) + 1) = ((i + 1 : Nat) : Int) := by rw [Th.wrap_small (by omega) (by omega)]; omega
    have no : ¬ Th.stepI S79.f0 S79.f1 z79 l i → ∃ b, some false = some b ∧ (b = true ↔ ∀ j, i ≤ j → j < l.length → Th.stepI S79.f0 S79.f1 z79 l j) :=
      fun hn => ⟨false, rfl, fun h => (by cases h), fun h => absurd (h i (Nat.le_refl _) hi) hn⟩
    have go : Th.stepI S79.f0 S79.f1 z79 l i → ∃ b', some b = some b' ∧ (b' = true ↔ ∀ j, i ≤ j → j < l.length → Th.stepI S79.f0 S79.f1 z79 l j) :=
      fun hn => ⟨b, rfl, hb2.trans (Th.all_from hi hn)⟩
    rw [impl_PartitionValid.l0, if_pos (by omega), if_pos (by omega), if_pos (by omega), impl_IntervalValid_eq _ _ k (by omega), Option.bind_some, hw, hb, show rd_T79 l (i : Int) = l.getD i z79 from rfl]
    by_cases c1 : Th.iv (l.getD i z79).f0 (l.getD i z79).f1 = true
    · rw [if_pos c1]
      by_cases h0 : 0 < i
      · have hp : wrap64 ((i : Int) - 1) = ((i - 1 : Nat) : Int) := by rw [Th.wrap_small (by omega) (by omega)]; omega
        rw [if_pos (by omega), hp, if_pos (by omega), if_pos (by omega), impl_IntervalJoin_eq _ _ _ _ k (by omega), Option.bind_some, show rd_T79 l ((i - 1 : Nat) : Int) = l.getD (i - 1) z79 from rfl]
        by_cases c : Th.adj S79.f0 S79.f1 z79 l i
        · have c' := c
          unfold Th.adj at c'
          rw [if_pos c']
          exact go ⟨c1, fun _ => c⟩
        · have c' := c
          unfold Th.adj at c'
          rw [if_neg c']
          exact no (fun h => c (h.2 h0))
      · rw [if_neg (by omega)]
        exact go ⟨c1, fun h => absurd h h0⟩
    · rw [if_neg c1]
      exact no (fun h => c1 h.1)
theorem impl_PartitionValid_eq (l : List S79) (k : Nat) (hl : l.length ≤ 4294967296) (hk : 2000 ≤ k) : impl_PartitionValid.f k l = some (Th.ptv S79.f0 S79.f1 z79 l) := by
  obtain ⟨k, rfl⟩ : ∃ m, k = m + 1 := ⟨k - 1, by omega⟩
  have no : ¬ Th.PtV S79.f0 S79.f1 z79 l → impl_PartitionValid.j0 (k + 1) l true = some (Th.ptv S79.f0 S79.f1 z79 l) := by
    intro h
    have : Th.ptv S79.f0 S79.f1 z79 l = false := by
      rw [Bool.eq_false_iff]
      exact fun h' => h ((Th.ptv_iff _ _ _ _).1 h')
    rw [impl_PartitionValid.j0, if_pos rfl, this]
  unfold impl_PartitionValid.f
  by_cases h1 : (l.length : Int) < 1
  · rw [if_pos h1]; exact no (fun h => by have := h.1; omega)
  · rw [if_neg h1]
    by_cases h2 : (l.length : Int) > 6
    · rw [if_pos h2]; exact no (fun h => by have := h.1; omega)
    · have hw : wrap64 ((l.length : Int) - 1) = ((l.length - 1 : Nat) : Int) := by rw [Th.wrap_small (by omega) (by omega)]; omega
      rw [if_neg h2, if_pos (by omega), hw, show rd_T79 l 0 = l.getD 0 z79 from rfl, show rd_T79 l ((l.length - 1 : Nat) : Int) = l.getD (l.length - 1) z79 from rfl]
      by_cases c2 : (l.getD 0 z79).f0.toList = []
      · rw [if_pos c2, if_pos (by omega), if_pos (by omega)]
        by_cases c3 : (l.getD (l.length - 1) z79).f1.toList = []
        · obtain ⟨b, hb, hb2⟩ := impl_PartitionValid_l0 l (by omega) l.length 0 k (by omega) (by omega)
          rw [impl_PartitionValid.j0, if_neg (by simpa using c3)]
          rw [show ((0 : Nat) : Int) = 0 from rfl] at hb
          rw [hb]
          congr 1
          apply Th.bool_eq
          rw [hb2, Th.ptv_iff]
          constructor
          · exact fun h' => ⟨by omega, c2, c3, fun j hj => h' j (by omega) hj⟩
          · exact fun h' j _ hj => h'.2.2.2 j hj
        · rw [show ((l.getD (l.length - 1) z79).f1.toList != []) = true by simpa using c3]
          exact no (fun h => c3 h.2.2.1)
      · rw [if_neg c2]; exact no (fun h => c2 h.2.1)
theorem impl_copyOf_Interval_eq (l : List S79) (hl : l.length ≤ 4294967296) : impl_copyOf_Interval.f l = some l := by
  unfold impl_copyOf_Interval.f
  rw [if_pos (by omega)]
theorem impl_replaced_Interval_eq (l l3 : List S79) (a b : Nat) (h : a + b ≤ l.length) (hl : l.length + l3.length ≤ 4294967296) : impl_replaced_Interval.f l (a : Int) (b : Int) l3 = some (l.take a ++ l3 ++ l.drop (a + b)) := by
  unfold impl_replaced_Interval.f
  rw [if_pos ⟨by omega, by omega, by omega, by omega⟩, Int.toNat_natCast, show ((a : Int) + (b : Int)).toNat = a + b by omega]
theorem impl_PartitionMerge_eq (l : List S79) (n : Int) (k : Nat) (hl : l.length ≤ 4294967296) (hk : 3000 ≤ k) : impl_PartitionMerge.f k l n = some (Th.mergeI S79.f0 S79.f1 z79 S79.mk l n) := by
  obtain ⟨k, rfl⟩ : ∃ m, k = m + 1 := ⟨k - 1, by omega⟩
  unfold impl_PartitionMerge.f Th.mergeI
  rw [impl_PartitionValid_eq l (k + 1) hl (by omega), Option.bind_some]
  by_cases h : Th.ptv S79.f0 S79.f1 z79 l = true
  · have hP := (Th.ptv_iff _ _ _ _).1 h
    have h6 := hP.1
    have hw : wrap64 ((l.length : Int) - 1) = (l.length : Int) - 1 := Th.wrap_small (by omega) (by omega)
    have no : impl_PartitionMerge.j0 (k + 1) l n true = some (l, false) := by
      rw [impl_PartitionMerge.j0, if_pos rfl, impl_copyOf_Interval_eq l hl]; rfl
    rw [if_pos h, if_pos h, hw]
    by_cases c1 : n < 0
    · rw [if_pos c1, no, if_neg (by omega)]
    · rw [if_neg c1]
      by_cases c2 : n ≥ (l.length : Int) - 1
      · rw [decide_eq_true c2, no, if_neg (by omega)]
      · obtain ⟨n, rfl⟩ : ∃ m : Nat, n = (m : Int) := ⟨n.toNat, by omega⟩
        have hn : n + 1 < l.length := by omega
        have hw1 : wrap64 ((n : Int) + 1) = ((n + 1 : Nat) : Int) := by rw [Th.wrap_small (by omega) (by omega)]; omega
        have hj := Th.join_at _ _ z79 l hP n hn
        have hr := impl_replaced_Interval_eq l [(⟨(l.getD n z79).f0, (l.getD (n + 1) z79).f1⟩ : S79)] n 2 (by omega) (by simp only [List.length_cons, List.length_nil]; omega)
        rw [show ((2 : Nat) : Int) = 2 from rfl] at hr
        rw [decide_eq_false c2, impl_PartitionMerge.j0, if_neg (by simp), if_pos (by omega), if_pos (by omega), hw1, if_pos (by omega), if_pos (by omega), impl_IntervalJoin_eq _ _ _ _ k (by omega), Option.bind_some, show rd_T79 l (n : Int) = l.getD n z79 from rfl, show rd_T79 l ((n + 1 : Nat) : Int) = l.getD (n + 1) z79 from rfl, hj]
        simp only [if_true]
        rw [hr, Option.bind_some, if_pos (by omega), Int.toNat_natCast, List.append_assoc]
        rfl
  · rw [if_neg h, if_neg h]
theorem FnExactPartitionMerge : laws_FnExactPartitionMerge.Pure := by
  intro l n hw _
  obtain ⟨t, _, ht, hs⟩ := laws_szIntervalS_tot l 1048576 (by omega) (by omega) hw
  refine ⟨l.length + 5000 + 3, ?_⟩
  unfold laws_FnExactPartitionMerge.f
  rw [hs _ (by omega), Option.bind_some]
  by_cases h : t < 0
  · rw [if_pos h]
  have hl := ht (by omega)
  have hm : (l.map toI).length = l.length := List.length_map ..
  rw [if_neg h]
  have ej := Th.mergeI_len S79.f0 S79.f1 z79 S79.mk (l.map toI) n
  generalize hM : l.length + 5000 = M
  have t' := laws_toIntervalS_eq l hl
  have s' := spec_PartitionMerge_eq (l.map toI) n
  have i' := impl_PartitionMerge_eq (l.map toI) n
  generalize Th.mergeI S79.f0 S79.f1 z79 S79.mk (l.map toI) n = J at *
  generalize l.map toI = A at *
  obtain ⟨A', _, a2, _⟩ := laws_markIntervalS_eq A 1 (by omega) (by omega) (by omega)
  obtain ⟨J', j1, j2, j3⟩ := markHeldI J.1 1 (by omega) (by omega) (by omega)
  have n1 : ¬ 1 + 2 * (A.length : Int) < 0 := by omega
  have n2 : ¬ 1 + 2 * (J.1.length : Int) < 0 := by omega
  repeat' first
    | with_reducible rfl
    | with_reducible refine Th.ite_t rfl ?_
    | with_reducible refine Th.ite_f (Th.bne_no _) ?_
    | with_reducible refine Th.ite_f Th.ft_no ?_
    | with_reducible refine Th.ite_f (show ¬ ((!true) = true) by simp) ?_
    | with_reducible refine Th.bind_to (t' _ (by omega)) ?_
    | with_reducible refine Th.bind_to (s' _ (by omega) (by omega)) ?_
    | with_reducible refine Th.bind_to (i' _ (by omega) (by omega)) ?_
    | with_reducible refine Th.bind_to (a2 _ (by omega)) ?_
    | with_reducible refine Th.bind_to (j2 _ (by omega)) ?_
    | with_reducible refine Th.bind_to (j3 _ (by omega)) ?_
    | with_reducible refine Th.bind_to (laws_eqIntervalS_refl _ (by omega) _ (by omega)) ?_
    | with_reducible refine Th.ite_f (n1) ?_
    | with_reducible refine Th.ite_f (n2) ?_
    | rw [laws_FnExactPartitionMerge.j0]
    | rw [laws_FnExactPartitionMerge.j1]
    | rw [laws_FnExactPartitionMerge.j2]
    | with_reducible refine Th.bind_to rfl ?_

end Go.Proofs.Yteomkhlhjhmbmaa.Pure
