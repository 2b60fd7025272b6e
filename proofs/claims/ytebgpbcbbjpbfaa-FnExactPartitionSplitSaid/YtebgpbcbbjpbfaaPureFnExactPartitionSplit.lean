/- The plain law of FnExactPartitionSplit: what the printed functions compute, and that it answers true: for every input that the statement lets in. -/
import Derived.Test.YtebgpbcbbjpbfaaPFnExactPartitionSplitx
import Derived.Test.YtebgpbcbbjpbfaaSFnExactPartitionSplit
import Derived.Test.YtebgpbcbbjpbfaaThA
import Derived.Test.YtebgpbcbbjpbfaaThB
import Derived.Test.YtebgpbcbbjpbfaaThL
import Derived.Test.YtebgpbcbbjpbfaaThD
namespace Go.Proofs.Ytebgpbcbbjpbfaa.Pure
open Go Go.RowKit Go.Proofs.Ytebgpbcbbjpbfaa.PFnExactPartitionSplit Go.Proofs.YtebgpbcbbjpbfaaW.PrintWords Go.Proofs.YtebgpbcbbjpbfaaW.PrintLast Go.Proofs.Ytebgpbcbbjpbfaa
set_option linter.unusedVariables false
set_option linter.unusedSimpArgs false
set_option maxRecDepth 10000
theorem laws_szInterval_tot (a b : ByteArray) (n : Int) : ∃ t, laws_szInterval.f a b n = some t := by
  unfold laws_szInterval.f
  by_cases h1 : wrap64 (n - (a.size : Int)) < 0
  · rw [if_pos h1]; exact ⟨_, rfl⟩
  · rw [if_neg h1]
    by_cases h2 : wrap64 (wrap64 (n - (a.size : Int)) - (b.size : Int)) < 0
    · rw [if_pos h2]; exact ⟨_, rfl⟩
    · rw [if_neg h2]; exact ⟨_, rfl⟩
theorem laws_szInterval_le (a b : ByteArray) (n : Int) (ha : a.size ≤ maxLen) (hb : b.size ≤ maxLen) (h0 : 0 ≤ n) (hn : n ≤ 1048576) : ∃ t, laws_szInterval.f a b n = some t ∧ t ≤ 1048576 := by
  simp only [maxLen] at ha hb
  unfold laws_szInterval.f
  rw [Th.wrap_small (show -9223372036854775808 ≤ n - (a.size : Int) by omega) (by omega)]
  by_cases h1 : n - (a.size : Int) < 0
  · rw [if_pos h1]; exact ⟨_, rfl, by omega⟩
  · rw [if_neg h1, Th.wrap_small (show -9223372036854775808 ≤ n - (a.size : Int) - (b.size : Int) by omega) (by omega)]
    by_cases h2 : n - (a.size : Int) - (b.size : Int) < 0
    · rw [if_pos h2]; exact ⟨_, rfl, by omega⟩
    · rw [if_neg h2]; exact ⟨_, rfl, by omega⟩
theorem laws_szIntervalS_l0 (l : List S74) (hl : l.length ≤ maxLen) (hw : ∀ a ∈ l, a.f0.size ≤ maxLen ∧ a.f1.size ≤ maxLen) : ∀ (d i : Nat) (n : Int), i + d = l.length → 0 ≤ n → n ≤ 1048576 → ∃ t, t ≤ 1048576 ∧ ∀ k, d < k → laws_szIntervalS.l0 k l n (i : Int) = some t
  | 0, i, n, h, h0, hn => by
    refine ⟨n, hn, fun k hk => ?_⟩
    obtain ⟨k, rfl⟩ : ∃ m, k = m + 1 := ⟨k - 1, by omega⟩
    rw [laws_szIntervalS.l0, if_neg (by omega)]
  | d + 1, i, n, h, h0, hn => by
    simp only [maxLen] at hl
    have hi : i < l.length := by omega
    have hm := hw _ (Th.getD_mem z74 l i hi)
    obtain ⟨t, ht, ht1⟩ := laws_szInterval_le (l.getD i z74).f0 (l.getD i z74).f1 n hm.1 hm.2 h0 hn
    have step : ∀ k, laws_szIntervalS.l0 (k + 1) l n (i : Int) = if t < 0 then some (-1) else laws_szIntervalS.l0 k l t ((i + 1 : Nat) : Int) := by
      intro k
      rw [laws_szIntervalS.l0, if_pos (by omega), if_pos (by omega), show rd_T74 l (i : Int) = l.getD i z74 from rfl, ht, Option.bind_some, Th.wrap_small (by omega) (by omega)]
      rfl
    by_cases hn' : t < 0
    · refine ⟨-1, by omega, fun k hk => ?_⟩
      obtain ⟨k, rfl⟩ : ∃ m, k = m + 1 := ⟨k - 1, by omega⟩
      rw [step, if_pos hn']
    · obtain ⟨t2, ht2, hk2⟩ := laws_szIntervalS_l0 l hl hw d (i + 1) t (by omega) (by omega) ht1
      refine ⟨t2, ht2, fun k hk => ?_⟩
      obtain ⟨k, rfl⟩ : ∃ m, k = m + 1 := ⟨k - 1, by omega⟩
      rw [step, if_neg hn', hk2 k (by omega)]
theorem laws_szIntervalS_tot (l : List S74) (n : Int) (h0 : 0 ≤ n) (hn : n ≤ 1048576) (hw : l.length ≤ maxLen ∧ ∀ a ∈ l, a.f0.size ≤ maxLen ∧ a.f1.size ≤ maxLen) : ∃ t, t ≤ 1048576 ∧ (0 ≤ t → l.length ≤ 1048576) ∧ ∀ k, l.length + 2 ≤ k → laws_szIntervalS.f k l n = some t := by
  have hl := hw.1
  simp only [maxLen] at hl
  unfold laws_szIntervalS.f
  rw [Th.wrap_small (by omega) (by omega)]
  by_cases h : n - (l.length : Int) < 0
  · simp only [if_pos h]
    exact ⟨-1, by omega, by omega, fun _ _ => rfl⟩
  · simp only [if_neg h]
    obtain ⟨t, ht, hk⟩ := laws_szIntervalS_l0 l hw.1 hw.2 l.length 0 (n - (l.length : Int)) (by omega) (by omega) (by omega)
    exact ⟨t, ht, fun _ => by omega, fun k h => hk k (by omega)⟩
theorem spec_l1In_eq (a b c : Int) : spec_l1In.f a b c = some (decide (b ≤ a) && decide (a ≤ c)) := by
  unfold spec_l1In.f
  by_cases h : a ≥ b
  · rw [if_pos h, decide_eq_true (show b ≤ a from h), Bool.true_and]
  · rw [if_neg h, decide_eq_false (show ¬ b ≤ a from h), Bool.false_and]
theorem spec_KeyValid_l0 (l : List UInt8) (hl : l.length ≤ 4) : ∀ (d i k : Nat), i + d = l.length → d < k → spec_KeyValid.l0 k (Th.mkS l) (i : Int) = some ((l.drop i).all Th.letter)
  | _, _, 0, _, h => by omega
  | 0, i, k + 1, h, _ => by
    rw [spec_KeyValid.l0, if_neg (by rw [Th.size_mkS]; omega), List.drop_of_length_le (by omega)]; rfl
  | d + 1, i, k + 1, h, hk => by
    have ih := spec_KeyValid_l0 l hl d (i + 1) k (by omega) (by omega)
    have hi : i < l.length := by omega
    rw [spec_KeyValid.l0, if_pos (by rw [Th.size_mkS]; omega), if_pos (by omega), Th.bt_mkS l i hi, Th.wrap_small (by omega) (by omega), show ((i : Int) + 1) = ((i + 1 : Nat) : Int) by omega, ih, List.drop_eq_getElem_cons hi, List.all_cons]
    simp only [Th.letter]
    by_cases h1 : ((l[i]'hi).toNat : Int) < 97
    · rw [if_pos h1, decide_eq_false (show ¬ 97 ≤ ((l[i]'hi).toNat : Int) by omega)]; rfl
    · rw [if_neg h1, decide_eq_true (show 97 ≤ ((l[i]'hi).toNat : Int) by omega)]
      by_cases h2 : ((l[i]'hi).toNat : Int) > 122
      · rw [if_pos h2, decide_eq_false (show ¬ ((l[i]'hi).toNat : Int) ≤ 122 by omega)]; rfl
      · rw [if_neg h2, decide_eq_true (show ((l[i]'hi).toNat : Int) ≤ 122 by omega)]; rfl
theorem spec_KeyValid_eq (s : ByteArray) (k : Nat) (hk : 1000 ≤ k) : spec_KeyValid.f k s = some (Th.kv s) := by
  obtain ⟨l, rfl⟩ := Th.mkS_surj s
  unfold spec_KeyValid.f Th.kv Th.kvL
  rw [spec_l1In_eq, Th.toList_mkS, Th.size_mkS, Option.bind_some]
  by_cases h : 1 ≤ l.length ∧ l.length ≤ 4
  · have h0 := spec_KeyValid_l0 l h.2 l.length 0 k (by omega) (by omega)
    rw [show ((0 : Nat) : Int) = 0 from rfl] at h0
    rw [decide_eq_true (show (1 : Int) ≤ (l.length : Int) by omega), decide_eq_true (show (l.length : Int) ≤ 4 by omega), decide_eq_true h.1, decide_eq_true h.2, h0]
    rfl
  · by_cases h1 : 1 ≤ l.length
    · rw [decide_eq_false (show ¬ (l.length : Int) ≤ 4 by omega), decide_eq_false (show ¬ l.length ≤ 4 by omega)]; simp
    · rw [decide_eq_false (show ¬ (1 : Int) ≤ (l.length : Int) by omega), decide_eq_false h1]; simp
theorem spec_IntervalValid_eq (lo hi : ByteArray) (k : Nat) (hk : 1000 ≤ k) : spec_IntervalValid.f k lo hi = some (Th.iv lo hi) := by
  unfold spec_IntervalValid.f
  simp only [spec_KeyValid_eq _ k hk, Option.bind_some]
  by_cases h2 : hi.toList = []
  · have e2 := Th.er_nil h2
    have k2 := Th.kv0_nil h2
    simp only [if_pos h2]
    by_cases h1 : lo.toList = []
    · rw [if_pos h1]
      congr 1
      exact ((Th.iv_iff lo hi).2 ⟨Th.kv0_nil h1, k2, .inl e2⟩).symm
    · rw [if_neg h1]
      cases hv : Th.kv lo with
      | true =>
        rw [if_pos rfl]
        congr 1
        exact ((Th.iv_iff lo hi).2 ⟨Th.kv0_of_kv hv, k2, .inl e2⟩).symm
      | false =>
        rw [if_neg (by simp)]
        congr 1
        symm
        rw [Bool.eq_false_iff]
        intro h
        have := ((Th.kv0_iff lo).1 ((Th.iv_iff lo hi).1 h).1)
        rcases this with h' | h'
        · exact h1 h'
        · rw [hv] at h'; cases h'
  · simp only [if_neg h2]
    cases hv2 : Th.kv hi with
    | false =>
      have hf : Th.iv lo hi = false := by
        rw [Bool.eq_false_iff]
        intro h
        rcases (Th.kv0_iff hi).1 ((Th.iv_iff lo hi).1 h).2.1 with h' | h'
        · exact h2 h'
        · rw [hv2] at h'; cases h'
      rw [hf]
      by_cases h1 : lo.toList = []
      · rw [if_pos h1]; simp
      · rw [if_neg h1]; cases Th.kv lo <;> simp
    | true =>
      have k2 := Th.kv0_of_kv hv2
      have p2 := Th.er_pos hv2
      by_cases h1 : lo.toList = []
      · have hl : Op.bytesLess lo.toList hi.toList = true := (Th.lt_iff (Th.kv0_nil h1) k2).2 (by rw [Th.er_nil h1]; omega)
        rw [if_pos h1, if_pos rfl, if_pos hl]
        congr 1
        apply Th.bool_eq
        rw [bne_iff_ne, Ne, Th.er_a hi k2, Th.iv_iff, Th.er_nil h1]
        constructor
        · intro h; exact ⟨Th.kv0_nil h1, k2, .inr ⟨by omega, by omega⟩⟩
        · rintro ⟨_, _, h | h⟩ <;> omega
      · rw [if_neg h1]
        cases hv1 : Th.kv lo with
        | false =>
          rw [if_neg (by simp)]
          congr 1
          symm
          rw [Bool.eq_false_iff]
          intro h
          rcases (Th.kv0_iff lo).1 ((Th.iv_iff lo hi).1 h).1 with h' | h'
          · exact h1 h'
          · rw [hv1] at h'; cases h'
        | true =>
          have k1 := Th.kv0_of_kv hv1
          have p1 := Th.er_pos hv1
          rw [if_pos rfl, if_pos rfl]
          by_cases hl : Th.lt lo hi
          · have hl' := (Th.lt_iff k1 k2).1 hl
            rw [if_pos hl]
            congr 1
            exact ((Th.iv_iff lo hi).2 ⟨k1, k2, .inr ⟨hl', by omega⟩⟩).symm
          · have hl' : ¬ Th.er lo < Th.er hi := fun h => hl ((Th.lt_iff k1 k2).2 h)
            rw [if_neg hl]
            congr 1
            symm
            rw [Bool.eq_false_iff]
            intro h
            rcases ((Th.iv_iff lo hi).1 h).2.2 with h | h <;> omega
theorem spec_IntervalJoin_eq (l1 h1 l2 h2 : ByteArray) (k : Nat) (hk : 1000 ≤ k) : spec_IntervalJoin.f k l1 h1 l2 h2 = some (Th.joinI l1 h1 l2 h2) := by
  unfold spec_IntervalJoin.f Th.joinI
  simp only [spec_IntervalValid_eq _ _ k hk, Option.bind_some]
  cases hv : Th.iv l1 h1 with
  | false => simp; rfl
  | true =>
    rw [if_pos rfl]
    cases hv2 : Th.iv l2 h2 with
    | false => simp; rfl
    | true =>
      have i1 := (Th.iv_iff l1 h1).1 hv
      rw [if_pos rfl]
      by_cases e : h1.toList = []
      · rw [if_pos e, if_neg (fun h => h.2.2.1 (Th.er_nil e))]; rfl
      · rw [if_neg e]
        by_cases e2 : h1.toList = l2.toList
        · rw [if_pos e2, if_pos ⟨rfl, rfl, fun h => e ((Th.er_eq_zero i1.2.1).1 h), Th.str_ext e2⟩]
        · rw [if_neg e2, if_neg (fun h => e2 (by rw [h.2.2.2]))]; rfl
theorem spec_PartitionValid_l0 (l : List S76) (hl : l.length ≤ 6) : ∀ (d i k : Nat), i + d = l.length → 1 ≤ i → d + 1001 ≤ k → ∃ b, spec_PartitionValid.l0 k l (i : Int) = some b ∧ (b = true ↔ ∀ j, i ≤ j → j < l.length → Th.adj S76.f0 S76.f1 z76 l j)
  | _, _, 0, _, _, h => by omega
  | 0, i, k + 1, h, _, _ => by
    rw [spec_PartitionValid.l0, if_neg (by omega)]
    exact ⟨true, rfl, fun _ j h1 h2 => by omega, fun _ => rfl⟩
  | d + 1, i, k + 1, h, h1, hk => by
    have hi : i < l.length := by omega
    obtain ⟨b, hb, hb2⟩ := spec_PartitionValid_l0 l hl d (i + 1) k (by omega) (by omega) (by omega)
    have hw : wrap64 ((i : Int) + 1) = ((i + 1 : Nat) : Int) := by rw [Th.wrap_small (by omega) (by omega)]; omega
    have hp : wrap64 ((i : Int) - 1) = ((i - 1 : Nat) : Int) := by rw [Th.wrap_small (by omega) (by omega)]; omega
    rw [spec_PartitionValid.l0, if_pos (by omega), hp, if_pos (by omega), if_pos (by omega), if_pos (by omega), spec_IntervalJoin_eq _ _ _ _ k (by omega), Option.bind_some, hw, hb, show rd_T76 l (i : Int) = l.getD i z76 from rfl, show rd_T76 l ((i - 1 : Nat) : Int) = l.getD (i - 1) z76 from rfl]
    by_cases c : Th.adj S76.f0 S76.f1 z76 l i
    · have c' := c
      unfold Th.adj at c'
      rw [if_pos c']
      exact ⟨b, rfl, hb2.trans (Th.all_from hi c)⟩
    · have c' := c
      unfold Th.adj at c'
      rw [if_neg c']
      exact ⟨false, rfl, fun h => (by cases h), fun h => absurd (h i (Nat.le_refl _) hi) c⟩
theorem spec_PartitionValid_eq (l : List S76) (k : Nat) (hl : l.length ≤ 4294967296) (hk : 2000 ≤ k) : spec_PartitionValid.f k l = some (Th.ptv S76.f0 S76.f1 z76 l) := by
  obtain ⟨k, rfl⟩ : ∃ m, k = m + 1 := ⟨k - 1, by omega⟩
  have no : ¬ Th.PtV S76.f0 S76.f1 z76 l → spec_PartitionValid.j0 (k + 1) l true = some (Th.ptv S76.f0 S76.f1 z76 l) := by
    intro h
    have : Th.ptv S76.f0 S76.f1 z76 l = false := by
      rw [Bool.eq_false_iff]
      exact fun h' => h ((Th.ptv_iff _ _ _ _).1 h')
    rw [spec_PartitionValid.j0, if_pos rfl, this]
  unfold spec_PartitionValid.f
  rw [spec_l1In_eq, Option.bind_some]
  by_cases h : 1 ≤ (l.length : Int) ∧ (l.length : Int) ≤ 6
  · have hw : wrap64 ((l.length : Int) - 1) = ((l.length - 1 : Nat) : Int) := by rw [Th.wrap_small (by omega) (by omega)]; omega
    rw [decide_eq_true h.1, decide_eq_true h.2, if_pos (by rfl), if_pos (by omega), spec_IntervalValid_eq _ _ (k + 1) (by omega), Option.bind_some, hw, show rd_T76 l 0 = l.getD 0 z76 from rfl, show rd_T76 l ((l.length - 1 : Nat) : Int) = l.getD (l.length - 1) z76 from rfl]
    by_cases c1 : Th.iv (l.getD 0 z76).f0 (l.getD 0 z76).f1 = true
    · rw [if_pos c1]
      by_cases c2 : (l.getD 0 z76).f0.toList = []
      · rw [if_pos c2, if_pos (by omega), if_pos (by omega)]
        by_cases c3 : (l.getD (l.length - 1) z76).f1.toList = []
        · obtain ⟨b, hb, hb2⟩ := spec_PartitionValid_l0 l (by omega) (l.length - 1) 1 k (by omega) (by omega) (by omega)
          rw [spec_PartitionValid.j0, if_neg (by simpa using c3)]
          rw [show ((1 : Nat) : Int) = 1 from rfl] at hb
          rw [hb]
          congr 1
          apply Th.bool_eq
          rw [hb2, Th.ptv_iff]
          constructor
          · exact fun h' => ⟨by omega, c2, c3, (Th.step_of_adj _ _ _ l c1 _).1 h' (by omega)⟩
          · exact fun h' => (Th.step_of_adj _ _ _ l c1 _).2 (fun _ => h'.2.2.2)
        · rw [show ((l.getD (l.length - 1) z76).f1.toList != []) = true by simpa using c3]
          exact no (fun h => c3 h.2.2.1)
      · rw [if_neg c2]; exact no (fun h => c2 h.2.1)
    · rw [if_neg c1]; exact no (fun h' => c1 (h'.2.2.2 0 (by omega)).1)
  · rw [if_neg (by simp only [Bool.and_eq_true, decide_eq_true_eq]; exact h)]
    exact no (fun h' => h (by have := h'.1; omega))
theorem spec_IntervalHas_eq (lo hi key : ByteArray) (k : Nat) (hk : 1000 ≤ k) : spec_IntervalHas.f k lo hi key = some (Th.hasI lo hi key) := by
  unfold spec_IntervalHas.f Th.hasI
  simp only [spec_KeyValid_eq _ k hk, spec_IntervalValid_eq _ _ k hk, Option.bind_some]
  cases hv : Th.iv lo hi with
  | false => simp
  | true =>
    rw [if_pos rfl]
    cases hk2 : Th.kv key with
    | false => simp
    | true =>
      have hi2 := (Th.iv_iff lo hi).1 hv
      have h3 := Th.kv0_of_kv hk2
      rw [if_pos rfl]
      by_cases hl : Th.lt key lo
      · have := (Th.lt_iff h3 hi2.1).1 hl
        rw [if_pos hl]
        congr 1
        symm
        rw [decide_eq_false_iff_not]
        omega
      · have hn : ¬ Th.er key < Th.er lo := fun h => hl ((Th.lt_iff h3 hi2.1).2 h)
        rw [if_neg hl]
        by_cases e : hi.toList = []
        · rw [if_pos e]
          congr 1
          symm
          rw [decide_eq_true_eq]
          exact ⟨rfl, rfl, by omega, .inl (Th.er_nil e)⟩
        · rw [if_neg e]
          congr 1
          apply Th.bool_eq
          have : Th.er hi ≠ 0 := fun h => e ((Th.er_eq_zero hi2.2.1).1 h)
          rw [show (Op.bytesLess key.toList hi.toList = true) = Th.lt key hi from rfl, Th.lt_iff h3 hi2.2.1, decide_eq_true_eq]
          constructor
          · intro h; exact ⟨rfl, rfl, by omega, .inr h⟩
          · rintro ⟨_, _, _, h | h⟩
            · exact absurd h this
            · exact h
theorem spec_PartitionFind_l0 (l : List S76) (s : ByteArray) (hl : l.length ≤ 6) : ∀ (d i k : Nat), i + d = l.length → d + 1001 ≤ k → spec_PartitionFind.l0 k l s (i : Int) = some (Th.fi S76.f0 S76.f1 s (l.drop i) i)
  | _, _, 0, _, h => by omega
  | 0, i, k + 1, h, _ => by
    rw [spec_PartitionFind.l0, if_neg (by omega), List.drop_of_length_le (by omega)]
    rfl
  | d + 1, i, k + 1, h, hk => by
    have hi : i < l.length := by omega
    have ih := spec_PartitionFind_l0 l s hl d (i + 1) k (by omega) (by omega)
    have hw : wrap64 ((i : Int) + 1) = ((i + 1 : Nat) : Int) := by rw [Th.wrap_small (by omega) (by omega)]; omega
    rw [spec_PartitionFind.l0, if_pos (by omega), if_pos (by omega), spec_IntervalHas_eq _ _ _ k (by omega), Option.bind_some, hw, ih, show rd_T76 l (i : Int) = l.getD i z76 from rfl, List.drop_eq_getElem_cons hi, Th.getD_at _ l i hi]
    by_cases c : Th.hasI (l[i]'hi).f0 (l[i]'hi).f1 s = true
    · rw [if_pos c, Th.fi, if_pos c]
    · rw [if_neg c, Th.fi, if_neg c]
theorem spec_PartitionFind_eq (l : List S76) (s : ByteArray) (k : Nat) (hl : l.length ≤ 4294967296) (hk : 2000 ≤ k) : spec_PartitionFind.f k l s = some (Th.findI S76.f0 S76.f1 z76 l s) := by
  unfold spec_PartitionFind.f Th.findI
  rw [spec_PartitionValid_eq l k hl hk, Option.bind_some]
  by_cases h : Th.ptv S76.f0 S76.f1 z76 l = true
  · have hP := (Th.ptv_iff _ _ _ _).1 h
    have := spec_PartitionFind_l0 l s hP.1.2 l.length 0 k (by omega) (by have := hP.1.2; omega)
    rw [show ((0 : Nat) : Int) = 0 from rfl] at this
    rw [if_pos h, if_pos h, this, List.drop_zero]
  · rw [if_neg h, if_neg h]
theorem spec_IntervalCut_eq (lo hi key : ByteArray) (k : Nat) (hk : 2000 ≤ k) : spec_IntervalCut.f k lo hi key = some (Th.cutI lo hi key) := by
  unfold spec_IntervalCut.f Th.cutI
  simp only [spec_KeyValid_eq _ k (by omega), spec_IntervalValid_eq _ _ k (by omega), Option.bind_some]
  cases Th.iv lo hi <;> cases Th.kv key <;> cases Th.iv lo key <;> cases Th.iv key hi <;> simp <;> rfl
theorem spec_PartitionSplit_eq (l : List S76) (s : ByteArray) (k : Nat) (hl : l.length ≤ 4294967296) (hk : 3000 ≤ k) : spec_PartitionSplit.f k l s = some (Th.splitI S76.f0 S76.f1 z76 S76.mk l s) := by
  unfold spec_PartitionSplit.f Th.splitI
  rw [Option.bind_some, spec_PartitionFind_eq l s k hl (by omega), Option.bind_some]
  have hr := Th.findI_range S76.f0 S76.f1 z76 l s
  generalize Th.findI S76.f0 S76.f1 z76 l s = q at hr ⊢
  by_cases h : q < 0
  · rw [if_pos h, if_pos h]
  obtain ⟨hv, h1, h2⟩ : Th.ptv S76.f0 S76.f1 z76 l = true ∧ 0 ≤ q ∧ q < l.length := by
    rcases hr with e | e
    · omega
    · exact e
  have h6 := ((Th.ptv_iff _ _ _ _).1 hv).1
  obtain ⟨q, rfl⟩ : ∃ m : Nat, q = (m : Int) := ⟨q.toNat, by omega⟩
  have hw1 : wrap64 ((q : Int) + 1) = ((q + 1 : Nat) : Int) := by rw [Th.wrap_small (by omega) (by omega)]; omega
  rw [if_neg h, if_neg h, if_pos h1, if_pos h2, spec_IntervalCut_eq _ _ _ k (by omega), Option.bind_some, show rd_T76 l (q : Int) = l.getD q z76 from rfl, Int.toNat_natCast]
  generalize Th.cutI (l.getD q z76).f0 (l.getD q z76).f1 s = c
  have ht : (l.take q).length = q := by rw [List.length_take]; omega
  have hd : (l.drop (q + 1)).length = l.length - (q + 1) := List.length_drop ..
  by_cases hc : c.2.2.2.2 = true
  · rw [if_pos hc]
    by_cases g : (l.length : Int) ≥ 6
    · rw [if_pos g, if_pos (by simp only [List.length_nil]; omega), List.nil_append, if_neg (by omega)]
    · rw [if_neg g, if_pos (show c.2.2.2.2 = true ∧ l.length < 6 from ⟨hc, by omega⟩), if_pos (by omega), hw1]
      simp only [Option.bind_some, List.nil_append, Int.toNat_natCast]
      rw [if_pos (by simp only [List.length_nil]; omega), if_pos (by simp only [List.length_cons, List.length_nil]; omega), if_pos (by omega), if_pos (by omega), if_pos (by rw [List.length_append]; simp only [List.length_cons, List.length_nil]; omega), List.append_assoc]
      rfl
  · rw [if_neg hc, if_pos (by simp only [List.length_nil]; omega), List.nil_append, if_neg (fun h => hc h.1)]
def toI (x : S74) : S76 := ⟨x.f0, x.f1⟩
theorem laws_toIntervalS_l0 (l : List S74) (hl : l.length ≤ 1048576) : ∀ (d i k : Nat) (o : List S76), i + d = l.length → d < k → o.length = l.length → o.take i = (l.take i).map toI → laws_toIntervalS.l0 k l o (i : Int) = some (l.map toI)
  | _, _, 0, _, _, h, _, _ => by omega
  | 0, i, k + 1, o, h, _, ho, ht => by
    rw [laws_toIntervalS.l0, if_neg (by omega)]
    rw [List.take_of_length_le (by omega), List.take_of_length_le (by omega)] at ht
    rw [ht]
  | d + 1, i, k + 1, o, h, hk, ho, ht => by
    have hi : i < l.length := by omega
    have ih := laws_toIntervalS_l0 l hl d (i + 1) k (o.set i (toI (l.getD i z74))) (by omega) (by omega) (by rw [List.length_set]; exact ho) (by
      rw [Th.take_set_succ _ _ _ (by omega), ht, List.take_succ_eq_append_getElem hi, List.map_append, Th.getD_at _ l i hi]; rfl)
    rw [laws_toIntervalS.l0, if_pos (by omega), if_pos (by omega), show rd_T74 l (i : Int) = l.getD i z74 from rfl]
    simp only [laws_toInterval.f, Option.bind_some]
    rw [if_pos (by omega), Th.wrap_small (by omega) (by omega)]
    exact ih
theorem laws_toIntervalS_eq (l : List S74) (hl : l.length ≤ 1048576) (k : Nat) (hk : l.length + 2 ≤ k) : laws_toIntervalS.f k l = some (l.map toI) := by
  unfold laws_toIntervalS.f
  rw [if_pos (by omega), if_pos (by rw [Int.toNat_natCast]; omega)]
  exact laws_toIntervalS_l0 l hl l.length 0 k _ (by omega) (by omega) (by simp) (by simp)
theorem impl_lettersOnly_eq : ∀ (l : List UInt8) (k : Nat), l.length < k → impl_lettersOnly.f k (Th.mkS l) = some (l.all Th.letter)
  | _, 0, h => by omega
  | [], k + 1, _ => by
    rw [impl_lettersOnly.f, if_pos (Th.toList_mkS [])]
    rfl
  | c :: l, k + 1, h => by
    have ih := impl_lettersOnly_eq l k (by simpa using h)
    have hs : (0 : Int) < ((Th.mkS (c :: l)).size : Int) := by rw [Th.size_mkS, List.length_cons]; omega
    have hx : (Th.mkS (c :: l)).extract 1 (Th.mkS (c :: l)).size = Th.mkS l := by rw [Th.extract_mkS, Th.size_mkS, List.take_length]; rfl
    have hs1 : (1 : Int) ≤ ((Th.mkS (c :: l)).size : Int) := by omega
    rw [impl_lettersOnly.f, if_neg (by rw [Th.toList_mkS]; simp), if_pos hs, if_pos hs1, hx, ih, Th.bt_zero]
    simp only [Option.bind_some, List.all_cons, Th.letter]
    by_cases h1 : (c.toNat : Int) ≥ 97
    · rw [if_pos h1, decide_eq_true (show 97 ≤ (c.toNat : Int) from h1)]
      by_cases h2 : (c.toNat : Int) ≤ 122
      · rw [if_pos h2, decide_eq_true h2]; rfl
      · rw [if_neg h2, decide_eq_false h2]; rfl
    · rw [if_neg h1, decide_eq_false (show ¬ 97 ≤ (c.toNat : Int) from h1)]; rfl
theorem impl_KeyValid_eq (s : ByteArray) (k : Nat) (hk : 1000 ≤ k) : impl_KeyValid.f k s = some (Th.kv s) := by
  obtain ⟨l, rfl⟩ := Th.mkS_surj s
  unfold impl_KeyValid.f Th.kv Th.kvL
  rw [Th.toList_mkS, Th.size_mkS]
  by_cases h1 : (l.length : Int) < 1
  · rw [if_pos h1, decide_eq_false (show ¬ 1 ≤ l.length by omega)]; rfl
  · rw [if_neg h1, decide_eq_true (show 1 ≤ l.length by omega)]
    by_cases h2 : (l.length : Int) > 4
    · rw [if_pos h2, decide_eq_false (show ¬ l.length ≤ 4 by omega)]; rfl
    · rw [if_neg h2, decide_eq_true (show l.length ≤ 4 by omega), impl_lettersOnly_eq l k (by omega)]; rfl
theorem impl_lowestKey_eq (a b : ByteArray) : impl_lowestKey.f a b = some (if a.toList = [] then Th.aK else a) := by
  unfold impl_lowestKey.f
  by_cases h : a.toList = []
  · rw [if_pos h, if_pos h]; rfl
  · rw [if_neg h, if_neg h]
theorem impl_IntervalValid_eq (lo hi : ByteArray) (k : Nat) (hk : 1000 ≤ k) : impl_IntervalValid.f k lo hi = some (Th.iv lo hi) := by
  unfold impl_IntervalValid.f
  simp only [impl_KeyValid_eq _ k hk, impl_lowestKey_eq, Option.bind_some]
  by_cases h2 : hi.toList = []
  · have e2 := Th.er_nil h2
    have k2 := Th.kv0_nil h2
    simp only [if_pos h2]
    by_cases h1 : lo.toList = []
    · rw [if_pos h1]
      congr 1
      exact ((Th.iv_iff lo hi).2 ⟨Th.kv0_nil h1, k2, .inl e2⟩).symm
    · rw [if_neg h1]
      cases hv : Th.kv lo with
      | true =>
        rw [if_pos rfl]
        congr 1
        exact ((Th.iv_iff lo hi).2 ⟨Th.kv0_of_kv hv, k2, .inl e2⟩).symm
      | false =>
        rw [if_neg (by simp)]
        congr 1
        symm
        rw [Bool.eq_false_iff]
        intro h
        have := ((Th.kv0_iff lo).1 ((Th.iv_iff lo hi).1 h).1)
        rcases this with h' | h'
        · exact h1 h'
        · rw [hv] at h'; cases h'
  · simp only [if_neg h2]
    cases hv2 : Th.kv hi with
    | false =>
      have hf : Th.iv lo hi = false := by
        rw [Bool.eq_false_iff]
        intro h
        rcases (Th.kv0_iff hi).1 ((Th.iv_iff lo hi).1 h).2.1 with h' | h'
        · exact h2 h'
        · rw [hv2] at h'; cases h'
      rw [hf]
      by_cases h1 : lo.toList = []
      · rw [if_pos h1]; simp
      · rw [if_neg h1]; cases Th.kv lo <;> simp
    | true =>
      have k2 := Th.kv0_of_kv hv2
      have p2 := Th.er_pos hv2
      by_cases h1 : lo.toList = []
      · simp only [if_pos h1, if_true]
        congr 1
        apply Th.bool_eq
        rw [show (Op.bytesLess Th.aK.toList hi.toList = true) = Th.lt Th.aK hi from rfl, Th.lt_iff (Th.kv0_of_kv Th.aK_kv) k2, Th.iv_iff, Th.aK_er, Th.er_nil h1]
        constructor
        · intro h; exact ⟨Th.kv0_nil h1, k2, .inr ⟨by omega, h⟩⟩
        · rintro ⟨_, _, h | h⟩ <;> omega
      · rw [if_neg h1]
        cases hv1 : Th.kv lo with
        | false =>
          rw [if_neg (by simp)]
          congr 1
          symm
          rw [Bool.eq_false_iff]
          intro h
          rcases (Th.kv0_iff lo).1 ((Th.iv_iff lo hi).1 h).1 with h' | h'
          · exact h1 h'
          · rw [hv1] at h'; cases h'
        | true =>
          have k1 := Th.kv0_of_kv hv1
          have p1 := Th.er_pos hv1
          simp only [if_neg h1, if_true]
          congr 1
          apply Th.bool_eq
          rw [show (Op.bytesLess lo.toList hi.toList = true) = Th.lt lo hi from rfl, Th.lt_iff k1 k2, Th.iv_iff]
          constructor
          · intro h; exact ⟨k1, k2, .inr ⟨h, by omega⟩⟩
          · rintro ⟨_, _, h | h⟩ <;> omega
theorem impl_IntervalJoin_eq (l1 h1 l2 h2 : ByteArray) (k : Nat) (hk : 1000 ≤ k) : impl_IntervalJoin.f k l1 h1 l2 h2 = some (Th.joinI l1 h1 l2 h2) := by
  unfold impl_IntervalJoin.f Th.joinI
  simp only [impl_IntervalValid_eq _ _ k hk, Option.bind_some]
  cases hv : Th.iv l1 h1 with
  | false => simp; rfl
  | true =>
    rw [if_pos rfl]
    cases hv2 : Th.iv l2 h2 with
    | false => simp; rfl
    | true =>
      have i1 := (Th.iv_iff l1 h1).1 hv
      rw [if_pos rfl]
      by_cases e : h1.toList = []
      · rw [if_pos e, if_neg (fun h => h.2.2.1 (Th.er_nil e))]; rfl
      · rw [if_neg e]
        by_cases e2 : h1.toList = l2.toList
        · rw [if_pos e2, if_pos ⟨rfl, rfl, fun h => e ((Th.er_eq_zero i1.2.1).1 h), Th.str_ext e2⟩]
        · rw [if_neg e2, if_neg (fun h => e2 (by rw [h.2.2.2]))]; rfl
theorem impl_PartitionValid_l0 (l : List S76) (hl : l.length ≤ 6) : ∀ (d i k : Nat), i + d = l.length → d + 1001 ≤ k → ∃ b, impl_PartitionValid.l0 k l l (l.length : Int) (i : Int) = some b ∧ (b = true ↔ ∀ j, i ≤ j → j < l.length → Th.stepI S76.f0 S76.f1 z76 l j)
  | _, _, 0, _, h => by omega
  | 0, i, k + 1, h, _ => by
    rw [impl_PartitionValid.l0, if_neg (by omega)]
    exact ⟨true, rfl, fun _ j h1 h2 => by omega, fun _ => rfl⟩
  | d + 1, i, k + 1, h, hk => by
    have hi : i < l.length := by omega
    obtain ⟨b, hb, hb2⟩ := impl_PartitionValid_l0 l hl d (i + 1) k (by omega) (by omega)
    have hw : wrap64 ((i : Int) + 1) = ((i + 1 : Nat) : Int) := by rw [Th.wrap_small (by omega) (by omega)]; omega
    have no : ¬ Th.stepI S76.f0 S76.f1 z76 l i → ∃ b, some false = some b ∧ (b = true ↔ ∀ j, i ≤ j → j < l.length → Th.stepI S76.f0 S76.f1 z76 l j) :=
      fun hn => ⟨false, rfl, fun h => (by cases h), fun h => absurd (h i (Nat.le_refl _) hi) hn⟩
    have go : Th.stepI S76.f0 S76.f1 z76 l i → ∃ b', some b = some b' ∧ (b' = true ↔ ∀ j, i ≤ j → j < l.length → Th.stepI S76.f0 S76.f1 z76 l j) :=
      fun hn => ⟨b, rfl, hb2.trans (Th.all_from hi hn)⟩
    rw [impl_PartitionValid.l0, if_pos (by omega), if_pos (by omega), if_pos (by omega), impl_IntervalValid_eq _ _ k (by omega), Option.bind_some, hw, hb, show rd_T76 l (i : Int) = l.getD i z76 from rfl]
    by_cases c1 : Th.iv (l.getD i z76).f0 (l.getD i z76).f1 = true
    · rw [if_pos c1]
      by_cases h0 : 0 < i
      · have hp : wrap64 ((i : Int) - 1) = ((i - 1 : Nat) : Int) := by rw [Th.wrap_small (by omega) (by omega)]; omega
        rw [if_pos (by omega), hp, if_pos (by omega), if_pos (by omega), impl_IntervalJoin_eq _ _ _ _ k (by omega), Option.bind_some, show rd_T76 l ((i - 1 : Nat) : Int) = l.getD (i - 1) z76 from rfl]
        by_cases c : Th.adj S76.f0 S76.f1 z76 l i
        · have c' := c
          unfold Th.adj at c'
          rw [if_pos c']
          exact go ⟨c1, fun _ => c⟩
        · have c' := c
          unfold Th.adj at c'
          rw [if_neg c']
          exact no (fun h => c (h.2 h0))
      · rw [if_neg (by omega)]
        exact go ⟨c1, fun h => absurd h h0⟩
    · rw [if_neg c1]
      exact no (fun h => c1 h.1)
theorem impl_PartitionValid_eq (l : List S76) (k : Nat) (hl : l.length ≤ 4294967296) (hk : 2000 ≤ k) : impl_PartitionValid.f k l = some (Th.ptv S76.f0 S76.f1 z76 l) := by
  obtain ⟨k, rfl⟩ : ∃ m, k = m + 1 := ⟨k - 1, by omega⟩
  have no : ¬ Th.PtV S76.f0 S76.f1 z76 l → impl_PartitionValid.j0 (k + 1) l true = some (Th.ptv S76.f0 S76.f1 z76 l) := by
    intro h
    have : Th.ptv S76.f0 S76.f1 z76 l = false := by
      rw [Bool.eq_false_iff]
      exact fun h' => h ((Th.ptv_iff _ _ _ _).1 h')
    rw [impl_PartitionValid.j0, if_pos rfl, this]
  unfold impl_PartitionValid.f
  by_cases h1 : (l.length : Int) < 1
  · rw [if_pos h1]; exact no (fun h => by have := h.1; omega)
  · rw [if_neg h1]
    by_cases h2 : (l.length : Int) > 6
    · rw [if_pos h2]; exact no (fun h => by have := h.1; omega)
    · have hw : wrap64 ((l.length : Int) - 1) = ((l.length - 1 : Nat) : Int) := by rw [Th.wrap_small (by omega) (by omega)]; omega
      rw [if_neg h2, if_pos (by omega), hw, show rd_T76 l 0 = l.getD 0 z76 from rfl, show rd_T76 l ((l.length - 1 : Nat) : Int) = l.getD (l.length - 1) z76 from rfl]
      by_cases c2 : (l.getD 0 z76).f0.toList = []
      · rw [if_pos c2, if_pos (by omega), if_pos (by omega)]
        by_cases c3 : (l.getD (l.length - 1) z76).f1.toList = []
        · obtain ⟨b, hb, hb2⟩ := impl_PartitionValid_l0 l (by omega) l.length 0 k (by omega) (by omega)
          rw [impl_PartitionValid.j0, if_neg (by simpa using c3)]
          rw [show ((0 : Nat) : Int) = 0 from rfl] at hb
          rw [hb]
          congr 1
          apply Th.bool_eq
          rw [hb2, Th.ptv_iff]
          constructor
          · exact fun h' => ⟨by omega, c2, c3, fun j hj => h' j (by omega) hj⟩
          · exact fun h' j _ hj => h'.2.2.2 j hj
        · rw [show ((l.getD (l.length - 1) z76).f1.toList != []) = true by simpa using c3]
          exact no (fun h => c3 h.2.2.1)
      · rw [if_neg c2]; exact no (fun h => c2 h.2.1)
theorem impl_inside_eq (lo hi key : ByteArray) (h1 : Th.kv0 lo) (h2 : Th.kv0 hi) (h3 : Th.kv0 key) : impl_inside.f lo hi key = some (decide (Th.er lo ≤ Th.er key ∧ (Th.er hi = 0 ∨ Th.er key < Th.er hi))) := by
  have hh : (if hi.toList = [] then some true else some (Op.bytesLess key.toList hi.toList)) = some (decide (Th.er hi = 0 ∨ Th.er key < Th.er hi)) := by
    by_cases e : hi.toList = []
    · rw [if_pos e, decide_eq_true (.inl (Th.er_nil e))]
    · rw [if_neg e]
      congr 1
      apply Th.bool_eq
      have : Th.er hi ≠ 0 := fun h => e ((Th.er_eq_zero h2).1 h)
      rw [show (Op.bytesLess key.toList hi.toList = true) = Th.lt key hi from rfl, Th.lt_iff h3 h2, decide_eq_true_eq]
      constructor
      · exact .inr
      · rintro (h | h)
        · exact absurd h this
        · exact h
  unfold impl_inside.f
  rw [hh]
  by_cases hl : Th.lt lo key
  · have := (Th.lt_iff h1 h3).1 hl
    rw [if_pos hl]
    congr 1
    apply Th.bool_eq
    simp only [decide_eq_true_eq]
    constructor
    · intro h; exact ⟨by omega, h⟩
    · exact fun h => h.2
  · have hn : ¬ Th.er lo < Th.er key := fun h => hl ((Th.lt_iff h1 h3).2 h)
    rw [if_neg hl]
    by_cases he : lo.toList = key.toList
    · have : lo = key := Th.str_ext he
      subst this
      rw [if_pos he]
      congr 1
      apply Th.bool_eq
      simp only [decide_eq_true_eq]
      constructor
      · intro h; exact ⟨by omega, h⟩
      · exact fun h => h.2
    · rw [if_neg he, decide_eq_false]
      rintro ⟨h, _⟩
      exact he (by rw [Th.er_inj h1 h3 (by omega)])
theorem impl_PartitionFind_l0 (l : List S76) (s : ByteArray) (hs : Th.kv s = true) (hP : Th.PtV S76.f0 S76.f1 z76 l) : ∀ (d i k : Nat), i + d = l.length → d + 1 ≤ k → impl_PartitionFind.l0 k s l (l.length : Int) (i : Int) = some (Th.fi S76.f0 S76.f1 s (l.drop i) i)
  | _, _, 0, _, h => by omega
  | 0, i, k + 1, h, _ => by
    rw [impl_PartitionFind.l0, if_neg (by omega), List.drop_of_length_le (by omega)]
    rfl
  | d + 1, i, k + 1, h, hk => by
    have hi : i < l.length := by omega
    have h6 := hP.1.2
    have ih := impl_PartitionFind_l0 l s hs hP d (i + 1) k (by omega) (by omega)
    have hw : wrap64 ((i : Int) + 1) = ((i + 1 : Nat) : Int) := by rw [Th.wrap_small (by omega) (by omega)]; omega
    have hv := (hP.2.2.2 i hi).1
    have hv2 := (Th.iv_iff _ _).1 hv
    rw [impl_PartitionFind.l0, if_pos (by omega), if_pos (by omega), if_pos (by omega), show rd_T76 l (i : Int) = l.getD i z76 from rfl, impl_inside_eq _ _ _ hv2.1 hv2.2.1 (Th.kv0_of_kv hs), Option.bind_some, hw, ih]
    rw [List.drop_eq_getElem_cons hi, Th.fi]
    rw [Th.getD_at _ l i hi] at hv ⊢
    by_cases c : Th.hasI (l[i]'hi).f0 (l[i]'hi).f1 s = true
    · rw [if_pos c, if_pos (by rw [decide_eq_true_eq]; exact ((Th.hasI_iff _ _ _).1 c).2.2)]
    · rw [if_neg c, if_neg (by rw [decide_eq_true_eq]; exact fun h => c ((Th.hasI_iff _ _ _).2 ⟨hv, hs, h⟩))]
theorem impl_PartitionFind_eq (l : List S76) (s : ByteArray) (k : Nat) (hl : l.length ≤ 4294967296) (hk : 2000 ≤ k) : impl_PartitionFind.f k l s = some (Th.findI S76.f0 S76.f1 z76 l s) := by
  obtain ⟨k, rfl⟩ : ∃ m, k = m + 1 := ⟨k - 1, by omega⟩
  unfold impl_PartitionFind.f Th.findI
  rw [impl_PartitionValid_eq l (k + 1) hl hk, Option.bind_some]
  by_cases h : Th.ptv S76.f0 S76.f1 z76 l = true
  · have hP := (Th.ptv_iff _ _ _ _).1 h
    rw [if_pos h, if_pos h, impl_KeyValid_eq s (k + 1) (by omega), Option.bind_some, impl_PartitionFind.j0]
    by_cases hs : Th.kv s = true
    · have := impl_PartitionFind_l0 l s hs hP l.length 0 k (by omega) (by have := hP.1.2; omega)
      rw [show ((0 : Nat) : Int) = 0 from rfl] at this
      rw [hs, if_neg (by simp), this, List.drop_zero]
    · have hs' : Th.kv s = false := by simpa using hs
      rw [hs', if_pos (by rfl), Th.fi_none _ _ s hs']
  · rw [if_neg h, if_neg h, impl_PartitionFind.j0, if_pos rfl]
theorem impl_IntervalCut_eq (lo hi key : ByteArray) (k : Nat) (hk : 2000 ≤ k) : impl_IntervalCut.f k lo hi key = some (Th.cutI lo hi key) := by
  obtain ⟨k, rfl⟩ : ∃ m, k = m + 1 := ⟨k - 1, by omega⟩
  unfold impl_IntervalCut.f Th.cutI
  simp only [impl_IntervalCut.j0, impl_KeyValid_eq _ (k + 1) (by omega), impl_IntervalValid_eq _ _ (k + 1) (by omega), impl_IntervalValid_eq _ _ k (by omega), Option.bind_some]
  cases Th.iv lo hi <;> cases Th.kv key <;> cases Th.iv lo key <;> cases Th.iv key hi <;> simp <;> rfl
theorem impl_copyOf_Interval_eq (l : List S76) (hl : l.length ≤ 4294967296) : impl_copyOf_Interval.f l = some l := by
  unfold impl_copyOf_Interval.f
  rw [if_pos (by omega)]
theorem impl_replaced_Interval_eq (l l3 : List S76) (a b : Nat) (h : a + b ≤ l.length) (hl : l.length + l3.length ≤ 4294967296) : impl_replaced_Interval.f l (a : Int) (b : Int) l3 = some (l.take a ++ l3 ++ l.drop (a + b)) := by
  unfold impl_replaced_Interval.f
  rw [if_pos ⟨by omega, by omega, by omega, by omega⟩, Int.toNat_natCast, show ((a : Int) + (b : Int)).toNat = a + b by omega]
theorem impl_PartitionSplit_eq (l : List S76) (s : ByteArray) (k : Nat) (hl : l.length ≤ 4294967296) (hk : 3000 ≤ k) : impl_PartitionSplit.f k l s = some (Th.splitI S76.f0 S76.f1 z76 S76.mk l s) := by
  obtain ⟨k, rfl⟩ : ∃ m, k = m + 1 := ⟨k - 1, by omega⟩
  unfold impl_PartitionSplit.f Th.splitI
  rw [impl_PartitionFind_eq l s (k + 1) hl (by omega), Option.bind_some]
  have hr := Th.findI_range S76.f0 S76.f1 z76 l s
  generalize Th.findI S76.f0 S76.f1 z76 l s = q at hr ⊢
  by_cases h : q < 0
  · rw [if_pos h, if_pos h]
  obtain ⟨hv, h1, h2⟩ : Th.ptv S76.f0 S76.f1 z76 l = true ∧ 0 ≤ q ∧ q < l.length := by
    rcases hr with e | e
    · omega
    · exact e
  have h6 := ((Th.ptv_iff _ _ _ _).1 hv).1
  obtain ⟨q, rfl⟩ : ∃ m : Nat, q = (m : Int) := ⟨q.toNat, by omega⟩
  rw [if_neg h, if_neg h, if_pos h1, if_pos h2, impl_IntervalCut_eq _ _ _ (k + 1) (by omega), Option.bind_some, show rd_T76 l (q : Int) = l.getD q z76 from rfl, Int.toNat_natCast]
  generalize Th.cutI (l.getD q z76).f0 (l.getD q z76).f1 s = c
  have no : impl_PartitionSplit.j0 (k + 1) l (q : Int) true c.1 c.2.1 c.2.2.1 c.2.2.2.1 = some (l, false) := by
    rw [impl_PartitionSplit.j0, if_pos rfl, impl_copyOf_Interval_eq l hl]; rfl
  by_cases hc : c.2.2.2.2 = true
  · rw [if_pos hc]
    by_cases g : (l.length : Int) ≥ 6
    · rw [decide_eq_true g, no, if_neg (by omega)]
    · have hr := impl_replaced_Interval_eq l [(⟨c.1, c.2.1⟩ : S76), (⟨c.2.2.1, c.2.2.2.1⟩ : S76)] q 1 (by omega) (by simp only [List.length_cons, List.length_nil]; omega)
      rw [show ((1 : Nat) : Int) = 1 from rfl] at hr
      rw [decide_eq_false g, impl_PartitionSplit.j0, if_neg (by simp), hr, Option.bind_some, if_pos (show c.2.2.2.2 = true ∧ l.length < 6 from ⟨hc, by omega⟩), List.append_assoc]
      rfl
  · rw [if_neg hc, no, if_neg (fun h => hc h.1)]
theorem laws_eqInterval_refl (a b : ByteArray) : laws_eqInterval.f a b a b = some true := by
  unfold laws_eqInterval.f
  rw [if_pos rfl, if_pos rfl]
theorem laws_eqIntervalS_l0 (l : List S76) (hl : l.length ≤ 4294967296) : ∀ (d i k : Nat), i + d = l.length → d < k → laws_eqIntervalS.l0 k l l (i : Int) = some true
  | _, _, 0, _, h => by omega
  | 0, i, k + 1, h, _ => by rw [laws_eqIntervalS.l0, if_neg (by omega)]
  | d + 1, i, k + 1, h, hk => by
    have ih := laws_eqIntervalS_l0 l hl d (i + 1) k (by omega) (by omega)
    rw [laws_eqIntervalS.l0, if_pos (by omega), if_pos (by omega), if_pos (by omega), Th.wrap_small (by omega) (by omega)]
    simp only [laws_eqInterval.f, if_true, Option.bind_some]
    exact ih
theorem laws_eqIntervalS_refl (l : List S76) (hl : l.length ≤ 4294967296) (k : Nat) (hk : l.length + 2 ≤ k) : laws_eqIntervalS.f k l l = some true := by
  unfold laws_eqIntervalS.f
  rw [if_pos rfl]
  exact laws_eqIntervalS_l0 l hl l.length 0 k (by omega) (by omega)
theorem laws_markText_l0 : ∀ (d : Nat) (n : Int) (s : ByteArray), n < (10 : Int) ^ d → s.size + d ≤ 1000 → ∃ r, ∀ k, d < k → laws_markText.l0 k n s = some r
  | 0, n, s, hn, hs => by
    refine ⟨(⟨#[109]⟩ : ByteArray) ++ s, fun k hk => ?_⟩
    obtain ⟨k, rfl⟩ : ∃ m, k = m + 1 := ⟨k - 1, by omega⟩
    rw [Int.pow_zero] at hn
    rw [laws_markText.l0, if_neg (by omega), if_pos (by omega)]
  | d + 1, n, s, hn, hs => by
    by_cases h : n > 0
    · have h10 : n / 10 < (10 : Int) ^ d := by
        rw [Int.pow_succ] at hn
        exact Int.ediv_lt_of_lt_mul (by omega) hn
      have hsz : ∀ y : List Int, (strOfNums y).size = y.length := strOfNums_size
      obtain ⟨r, hr⟩ := laws_markText_l0 d (n / 10) (strOfNums [(wrap64 (48 + Int.tmod n 10)) % 256] ++ s) h10 (by rw [ByteArray.size_append, hsz]; simp only [List.length_cons, List.length_nil]; omega)
      by_cases hb : n ≤ 9223372036854775807
      · refine ⟨r, fun k hk => ?_⟩
        obtain ⟨k, rfl⟩ : ∃ m, k = m + 1 := ⟨k - 1, by omega⟩
        have e3 : wrap64 (Int.tdiv n 10) = n / 10 := by
          rw [Int.tdiv_eq_ediv_of_nonneg (by omega)]
          exact Th.wrap_small (by omega) (by omega)
        rw [laws_markText.l0, if_pos h, Option.bind_some, if_pos (by rw [hsz]; simp only [List.length_cons, List.length_nil]; omega), e3]
        exact hr k (by omega)
      · obtain ⟨r2, hr2⟩ : ∃ r, ∀ k, d < k → laws_markText.l0 k (wrap64 (Int.tdiv n 10)) (strOfNums [(wrap64 (48 + Int.tmod n 10)) % 256] ++ s) = some r := by
          refine laws_markText_l0 d _ _ ?_ (by rw [ByteArray.size_append, hsz]; simp only [List.length_cons, List.length_nil]; omega)
          rw [Int.tdiv_eq_ediv_of_nonneg (by omega)]
          have : wrap64 (n / 10) ≤ n / 10 := by unfold wrap64; omega
          omega
        refine ⟨r2, fun k hk => ?_⟩
        obtain ⟨k, rfl⟩ : ∃ m, k = m + 1 := ⟨k - 1, by omega⟩
        rw [laws_markText.l0, if_pos h, Option.bind_some, if_pos (by rw [hsz]; simp only [List.length_cons, List.length_nil]; omega)]
        exact hr2 k (by omega)
    · refine ⟨(⟨#[109]⟩ : ByteArray) ++ s, fun k hk => ?_⟩
      obtain ⟨k, rfl⟩ : ∃ m, k = m + 1 := ⟨k - 1, by omega⟩
      rw [laws_markText.l0, if_neg h, if_pos (by omega)]
theorem laws_markText_tot (n : Int) (hn : n < 10 ^ 15) : ∃ r, ∀ k, 1000 ≤ k → laws_markText.f k n = some r := by
  unfold laws_markText.f
  by_cases h : n ≤ 0
  · simp only [if_pos h]
    exact ⟨_, fun _ _ => rfl⟩
  · simp only [if_neg h]
    obtain ⟨r, hr⟩ := laws_markText_l0 15 n (⟨#[]⟩ : ByteArray) hn (by show 0 + 15 ≤ 1000; omega)
    exact ⟨r, fun k hk => hr k (by omega)⟩
/-- the text of a mark -/
noncomputable def mt (n : Int) : ByteArray := if h : n < 10 ^ 15 then Classical.choose (laws_markText_tot n h) else Th.mkS []
theorem laws_markText_eq (n : Int) (k : Nat) (hn : n < 1000000000000000) (hk : 1000 ≤ k) : laws_markText.f k n = some (mt n) := by
  have h : n < 10 ^ 15 := hn
  unfold mt
  rw [dif_pos h]
  exact Classical.choose_spec (laws_markText_tot n h) k hk
theorem laws_markIntervalS_l0 : ∀ (d i : Nat) (l : List S76) (n : Int), i + d = l.length → l.length ≤ 4294967296 → 0 ≤ n → n + 2 * d ≤ 1099511627776 → ∃ l' : List S76, l'.length = l.length ∧ l'.take i = l.take i ∧
    (∀ k, d + 1001 ≤ k → laws_markIntervalS.l0 k l n (i : Int) = some (n + 2 * d, l')) ∧ (∀ j, j < d → l'.getD (i + j) z76 = ⟨mt (n + 2 * j), mt (n + 2 * j + 1)⟩)
  | 0, i, l, n, h, hl, h0, hn => by
    refine ⟨l, rfl, rfl, fun k hk => ?_, fun j hj => by omega⟩
    obtain ⟨k, rfl⟩ : ∃ m, k = m + 1 := ⟨k - 1, by omega⟩
    rw [laws_markIntervalS.l0, if_neg (by omega)]
    simp
  | d + 1, i, l, n, h, hl, h0, hn => by
    have hi : i < l.length := by omega
    have hw : wrap64 ((i : Int) + 1) = ((i + 1 : Nat) : Int) := by rw [Th.wrap_small (by omega) (by omega)]; omega
    have hn1 : wrap64 (n + 1) = n + 1 := Th.wrap_small (by omega) (by omega)
    have hn2 : wrap64 (n + 1 + 1) = n + 2 := by rw [Th.wrap_small (by omega) (by omega)]; omega
    obtain ⟨l', h1, h2, h3, h4⟩ := laws_markIntervalS_l0 d (i + 1) (l.set i ⟨mt n, mt (n + 1)⟩) (n + 2) (by rw [List.length_set]; omega) (by rw [List.length_set]; omega) (by omega) (by omega)
    rw [List.length_set] at h1
    rw [Th.take_set_succ _ _ _ hi] at h2
    have hg : l'.getD i z76 = ⟨mt n, mt (n + 1)⟩ := by
      rw [← Th.getD_take _ l' i (i + 1) (by omega), h2]
      exact Th.getD_snoc _ _ _ _ (by rw [List.length_take]; omega)
    have e2 : n + 2 + 2 * (d : Int) = n + 2 * ((d + 1 : Nat) : Int) := by omega
    refine ⟨l', h1, ?_, fun k hk => ?_, fun j hj => ?_⟩
    · have := congrArg (List.take i) h2
      rw [List.take_take, Nat.min_eq_left (by omega), List.take_append_of_le_length (by rw [List.length_take]; omega), List.take_take, Nat.min_self] at this
      exact this
    · obtain ⟨k, rfl⟩ : ∃ m, k = m + 1 := ⟨k - 1, by omega⟩
      have hs : (l.set i ⟨mt n, (l.getD i z76).f1⟩).getD i z76 = ⟨mt n, (l.getD i z76).f1⟩ := by
        rw [Th.getD_at _ _ i (by rw [List.length_set]; exact hi), List.getElem_set_self]
      rw [laws_markIntervalS.l0, if_pos (by omega), laws_markText_eq n k (by omega) (by omega), Option.bind_some, if_pos (by omega), Option.bind_some, hn1, hn2, hw, laws_markText_eq (n + 1) k (by omega) (by omega), Option.bind_some]
      show laws_markIntervalS.l0 k ((l.set i ⟨mt n, (l.getD i z76).f1⟩).set i ⟨((l.set i ⟨mt n, (l.getD i z76).f1⟩).getD i z76).f0, mt (n + 1)⟩) _ _ = _
      rw [hs, List.set_set, h3 k (by omega), e2]
    · cases j with
      | zero => rw [show i + 0 = i by omega, hg, show n + 2 * ((0 : Nat) : Int) = n by omega]
      | succ j =>
        rw [show i + (j + 1) = i + 1 + j by omega, h4 j (by omega), show n + 2 + 2 * (j : Int) = n + 2 * ((j + 1 : Nat) : Int) by omega]
theorem laws_markIntervalS_eq (l : List S76) (n : Int) (hl : l.length ≤ 4294967296) (h0 : 0 ≤ n) (hn : n ≤ 8589934592) : ∃ l' : List S76, l'.length = l.length ∧ (∀ k, l.length + 1001 ≤ k → laws_markIntervalS.f k l n = some (n + 2 * l.length, l')) ∧ (∀ j, j < l.length → l'.getD j z76 = ⟨mt (n + 2 * j), mt (n + 2 * j + 1)⟩) := by
  obtain ⟨l', h1, _, h3, h4⟩ := laws_markIntervalS_l0 l.length 0 l n (by omega) hl h0 (by omega)
  exact ⟨l', h1, h3, fun j hj => by have := h4 j hj; rwa [Nat.zero_add] at this⟩
theorem laws_heldIntervalS_l0 : ∀ (d i : Nat) (l : List S76) (n : Int), i + d = l.length → l.length ≤ 4294967296 → 0 ≤ n → n + 2 * d ≤ 1099511627776 → (∀ j, j < d → l.getD (i + j) z76 = ⟨mt (n + 2 * j), mt (n + 2 * j + 1)⟩) → (∀ k, d + 1001 ≤ k → laws_heldIntervalS.l0 k l n (i : Int) = some (n + 2 * d))
  | 0, i, l, n, h, hl, h0, hn, hg, k, hk => by
    obtain ⟨k, rfl⟩ : ∃ m, k = m + 1 := ⟨k - 1, by omega⟩
    rw [laws_heldIntervalS.l0, if_neg (by omega)]
    simp
  | d + 1, i, l, n, h, hl, h0, hn, hg, k, hk => by
    obtain ⟨k, rfl⟩ : ∃ m, k = m + 1 := ⟨k - 1, by omega⟩
    have hw : wrap64 ((i : Int) + 1) = ((i + 1 : Nat) : Int) := by rw [Th.wrap_small (by omega) (by omega)]; omega
    have hn1 : wrap64 (n + 1) = n + 1 := Th.wrap_small (by omega) (by omega)
    have hn2 : wrap64 (n + 1 + 1) = n + 2 := by rw [Th.wrap_small (by omega) (by omega)]; omega
    have ih := laws_heldIntervalS_l0 d (i + 1) l (n + 2) (by omega) hl (by omega) (by omega) (fun j hj => by
      have := hg (j + 1) (by omega)
      rw [show i + (j + 1) = i + 1 + j by omega] at this
      rw [this, show n + 2 + 2 * (j : Int) = n + 2 * ((j + 1 : Nat) : Int) by omega]) k (by omega)
    have h00 := hg 0 (by omega)
    rw [show i + 0 = i by omega, show n + 2 * ((0 : Nat) : Int) = n by omega] at h00
    rw [laws_heldIntervalS.l0, if_pos (by omega), if_pos (by omega), laws_markText_eq n k (by omega) (by omega), Option.bind_some, show rd_T76 l (i : Int) = l.getD i z76 from rfl, h00, if_pos rfl, hn1, laws_markText_eq (n + 1) k (by omega) (by omega), Option.bind_some, if_pos rfl, hn2, hw, ih]
    congr 1
    omega
theorem markHeldI (l : List S76) (n : Int) (hl : l.length ≤ 4294967296) (h0 : 0 ≤ n) (hn : n ≤ 8589934592) : ∃ l' : List S76, l'.length = l.length ∧ (∀ k, l.length + 1001 ≤ k → laws_markIntervalS.f k l n = some (n + 2 * l.length, l')) ∧ (∀ k, l.length + 1001 ≤ k → laws_heldIntervalS.f k l' n = some (n + 2 * l.length)) := by
  obtain ⟨l', h1, h3, h4⟩ := laws_markIntervalS_eq l n hl h0 hn
  refine ⟨l', h1, h3, fun k hk => ?_⟩
  have := laws_heldIntervalS_l0 l'.length 0 l' n (by omega) (by omega) h0 (by omega) (fun j hj => by rw [Nat.zero_add]; exact h4 j (by omega)) k (by omega)
  unfold laws_heldIntervalS.f
  rw [show ((0 : Nat) : Int) = 0 from rfl] at this
  rw [this, h1]
theorem FnExactPartitionSplit : laws_FnExactPartitionSplit.Pure := by
  intro l s hw _
  obtain ⟨t, _, ht, hs⟩ := laws_szIntervalS_tot l 1048576 (by omega) (by omega) hw
  refine ⟨l.length + 5000 + 3, ?_⟩
  unfold laws_FnExactPartitionSplit.f
  by_cases hb : (s.size : Int) > 1048576
  · rw [if_pos hb]
  rw [if_neg hb, hs _ (by omega), Option.bind_some]
  by_cases h : t < 0
  · rw [if_pos h]
  have hl := ht (by omega)
  have hm : (l.map toI).length = l.length := List.length_map ..
  rw [if_neg h]
  have ej := Th.splitI_len S76.f0 S76.f1 z76 S76.mk (l.map toI) s
  generalize hM : l.length + 5000 = M
  have t' := laws_toIntervalS_eq l hl
  have s' := spec_PartitionSplit_eq (l.map toI) s
  have i' := impl_PartitionSplit_eq (l.map toI) s
  generalize Th.splitI S76.f0 S76.f1 z76 S76.mk (l.map toI) s = J at *
  generalize l.map toI = A at *
  obtain ⟨A', _, a2, _⟩ := laws_markIntervalS_eq A 1 (by omega) (by omega) (by omega)
  obtain ⟨J', j1, j2, j3⟩ := markHeldI J.1 1 (by omega) (by omega) (by omega)
  have n1 : ¬ 1 + 2 * (A.length : Int) < 0 := by omega
  have n2 : ¬ 1 + 2 * (J.1.length : Int) < 0 := by omega
  repeat' first
    | with_reducible rfl
    | with_reducible refine Th.ite_t rfl ?_
    | with_reducible refine Th.ite_f (Th.bne_no _) ?_
    | with_reducible refine Th.ite_f Th.ft_no ?_
    | with_reducible refine Th.ite_f (show ¬ ((!true) = true) by simp) ?_
    | with_reducible refine Th.bind_to (t' _ (by omega)) ?_
    | with_reducible refine Th.bind_to (s' _ (by omega) (by omega)) ?_
    | with_reducible refine Th.bind_to (i' _ (by omega) (by omega)) ?_
    | with_reducible refine Th.bind_to (a2 _ (by omega)) ?_
    | with_reducible refine Th.bind_to (j2 _ (by omega)) ?_
    | with_reducible refine Th.bind_to (j3 _ (by omega)) ?_
    | with_reducible refine Th.bind_to (laws_eqIntervalS_refl _ (by omega) _ (by omega)) ?_
    | with_reducible refine Th.ite_f (n1) ?_
    | with_reducible refine Th.ite_f (n2) ?_
    | rw [laws_FnExactPartitionSplit.j0]
    | rw [laws_FnExactPartitionSplit.j1]
    | rw [laws_FnExactPartitionSplit.j2]
    | with_reducible refine Th.bind_to rfl ?_

end Go.Proofs.Ytebgpbcbbjpbfaa.Pure
