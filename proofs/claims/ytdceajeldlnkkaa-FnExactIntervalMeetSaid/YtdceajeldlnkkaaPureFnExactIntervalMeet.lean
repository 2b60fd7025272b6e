/- The plain law of FnExactIntervalMeet: what the printed functions compute, and that it answers true: for every input that the statement lets in. -/
import Derived.Test.YtdceajeldlnkkaaPFnExactIntervalMeetx
import Derived.Test.YtdceajeldlnkkaaSFnExactIntervalMeet
import Derived.Test.YtdceajeldlnkkaaThA
import Derived.Test.YtdceajeldlnkkaaThB
namespace Go.Proofs.Ytdceajeldlnkkaa.Pure
open Go Go.RowKit Go.Proofs.Ytdceajeldlnkkaa.PFnExactIntervalMeet Go.Proofs.YtdceajeldlnkkaaW.PrintWords Go.Proofs.YtdceajeldlnkkaaW.PrintLast Go.Proofs.Ytdceajeldlnkkaa
set_option linter.unusedVariables false
set_option linter.unusedSimpArgs false
set_option maxRecDepth 10000
theorem laws_szInterval_tot (a b : ByteArray) (n : Int) : ∃ t, laws_szInterval.f a b n = some t := by
  unfold laws_szInterval.f
  by_cases h1 : wrap64 (n - (a.size : Int)) < 0
  · rw [if_pos h1]; exact ⟨_, rfl⟩
  · rw [if_neg h1]
    by_cases h2 : wrap64 (wrap64 (n - (a.size : Int)) - (b.size : Int)) < 0
    · rw [if_pos h2]; exact ⟨_, rfl⟩
    · rw [if_neg h2]; exact ⟨_, rfl⟩
theorem laws_eqInterval_refl (a b : ByteArray) : laws_eqInterval.f a b a b = some true := by
  unfold laws_eqInterval.f
  rw [if_pos rfl, if_pos rfl]
theorem spec_l1In_eq (a b c : Int) : spec_l1In.f a b c = some (decide (b ≤ a) && decide (a ≤ c)) := by
  unfold spec_l1In.f
  by_cases h : a ≥ b
  · rw [if_pos h, decide_eq_true (show b ≤ a from h), Bool.true_and]
  · rw [if_neg h, decide_eq_false (show ¬ b ≤ a from h), Bool.false_and]
theorem spec_KeyValid_l0 (l : List UInt8) (hl : l.length ≤ 4) : ∀ (d i k : Nat), i + d = l.length → d < k → spec_KeyValid.l0 k (Th.mkS l) (i : Int) = some ((l.drop i).all Th.letter)
  | _, _, 0, _, h => by omega
  | 0, i, k + 1, h, _ => by
    rw [spec_KeyValid.l0, if_neg (by rw [Th.size_mkS]; omega), List.drop_of_length_le (by omega)]; rfl
  | d + 1, i, k + 1, h, hk => by
    have ih := spec_KeyValid_l0 l hl d (i + 1) k (by omega) (by omega)
    have hi : i < l.length := by omega
    rw [spec_KeyValid.l0, if_pos (by rw [Th.size_mkS]; omega), if_pos (by omega), Th.bt_mkS l i hi, Th.wrap_small (by omega) (by omega), show ((i : Int) + 1) = ((i + 1 : Nat) : Int) by omega, ih, List.drop_eq_getElem_cons hi, List.all_cons]
    simp only [Th.letter]
    by_cases h1 : ((l[i]'hi).toNat : Int) < 97
    · rw [if_pos h1, decide_eq_false (show ¬ 97 ≤ ((l[i]'hi).toNat : Int) by omega)]; rfl
    · rw [if_neg h1, decide_eq_true (show 97 ≤ ((l[i]'hi).toNat : Int) by omega)]
      by_cases h2 : ((l[i]'hi).toNat : Int) > 122
      · rw [if_pos h2, decide_eq_false (show ¬ ((l[i]'hi).toNat : Int) ≤ 122 by omega)]; rfl
      · rw [if_neg h2, decide_eq_true (show ((l[i]'hi).toNat : Int) ≤ 122 by omega)]; rfl
theorem spec_KeyValid_eq (s : ByteArray) (k : Nat) (hk : 1000 ≤ k) : spec_KeyValid.f k s = some (Th.kv s) := by
  obtain ⟨l, rfl⟩ := Th.mkS_surj s
  unfold spec_KeyValid.f Th.kv Th.kvL
  rw [spec_l1In_eq, Th.toList_mkS, Th.size_mkS, Option.bind_some]
  by_cases h : 1 ≤ l.length ∧ l.length ≤ 4
  · have h0 := spec_KeyValid_l0 l h.2 l.length 0 k (by omega) (by omega)
    rw [show ((0 : Nat) : Int) = 0 from rfl] at h0
    rw [decide_eq_true (show (1 : Int) ≤ (l.length : Int) by omega), decide_eq_true (show (l.length : Int) ≤ 4 by omega), decide_eq_true h.1, decide_eq_true h.2, h0]
    rfl
  · by_cases h1 : 1 ≤ l.length
    · rw [decide_eq_false (show ¬ (l.length : Int) ≤ 4 by omega), decide_eq_false (show ¬ l.length ≤ 4 by omega)]; simp
    · rw [decide_eq_false (show ¬ (1 : Int) ≤ (l.length : Int) by omega), decide_eq_false h1]; simp
theorem spec_IntervalValid_eq (lo hi : ByteArray) (k : Nat) (hk : 1000 ≤ k) : spec_IntervalValid.f k lo hi = some (Th.iv lo hi) := by
  unfold spec_IntervalValid.f
  simp only [spec_KeyValid_eq _ k hk, Option.bind_some]
  by_cases h2 : hi.toList = []
  · have e2 := Th.er_nil h2
    have k2 := Th.kv0_nil h2
    simp only [if_pos h2]
    by_cases h1 : lo.toList = []
    · rw [if_pos h1]
      congr 1
      exact ((Th.iv_iff lo hi).2 ⟨Th.kv0_nil h1, k2, .inl e2⟩).symm
    · rw [if_neg h1]
      cases hv : Th.kv lo with
      | true =>
        rw [if_pos rfl]
        congr 1
        exact ((Th.iv_iff lo hi).2 ⟨Th.kv0_of_kv hv, k2, .inl e2⟩).symm
      | false =>
        rw [if_neg (by simp)]
        congr 1
        symm
        rw [Bool.eq_false_iff]
        intro h
        have := ((Th.kv0_iff lo).1 ((Th.iv_iff lo hi).1 h).1)
        rcases this with h' | h'
        · exact h1 h'
        · rw [hv] at h'; cases h'
  · simp only [if_neg h2]
    cases hv2 : Th.kv hi with
    | false =>
      have hf : Th.iv lo hi = false := by
        rw [Bool.eq_false_iff]
        intro h
        rcases (Th.kv0_iff hi).1 ((Th.iv_iff lo hi).1 h).2.1 with h' | h'
        · exact h2 h'
        · rw [hv2] at h'; cases h'
      rw [hf]
      by_cases h1 : lo.toList = []
      · rw [if_pos h1]; simp
      · rw [if_neg h1]; cases Th.kv lo <;> simp
    | true =>
      have k2 := Th.kv0_of_kv hv2
      have p2 := Th.er_pos hv2
      by_cases h1 : lo.toList = []
      · have hl : Op.bytesLess lo.toList hi.toList = true := (Th.lt_iff (Th.kv0_nil h1) k2).2 (by rw [Th.er_nil h1]; omega)
        rw [if_pos h1, if_pos rfl, if_pos hl]
        congr 1
        apply Th.bool_eq
        rw [bne_iff_ne, Ne, Th.er_a hi k2, Th.iv_iff, Th.er_nil h1]
        constructor
        · intro h; exact ⟨Th.kv0_nil h1, k2, .inr ⟨by omega, by omega⟩⟩
        · rintro ⟨_, _, h | h⟩ <;> omega
      · rw [if_neg h1]
        cases hv1 : Th.kv lo with
        | false =>
          rw [if_neg (by simp)]
          congr 1
          symm
          rw [Bool.eq_false_iff]
          intro h
          rcases (Th.kv0_iff lo).1 ((Th.iv_iff lo hi).1 h).1 with h' | h'
          · exact h1 h'
          · rw [hv1] at h'; cases h'
        | true =>
          have k1 := Th.kv0_of_kv hv1
          have p1 := Th.er_pos hv1
          rw [if_pos rfl, if_pos rfl]
          by_cases hl : Th.lt lo hi
          · have hl' := (Th.lt_iff k1 k2).1 hl
            rw [if_pos hl]
            congr 1
            exact ((Th.iv_iff lo hi).2 ⟨k1, k2, .inr ⟨hl', by omega⟩⟩).symm
          · have hl' : ¬ Th.er lo < Th.er hi := fun h => hl ((Th.lt_iff k1 k2).2 h)
            rw [if_neg hl]
            congr 1
            symm
            rw [Bool.eq_false_iff]
            intro h
            rcases ((Th.iv_iff lo hi).1 h).2.2 with h | h <;> omega
theorem spec_IntervalMeet_eq (l1 h1 l2 h2 : ByteArray) (k : Nat) (hk : 2000 ≤ k) : spec_IntervalMeet.f k l1 h1 l2 h2 = some (Th.meetI l1 h1 l2 h2) := by
  obtain ⟨k, rfl⟩ : ∃ m, k = m + 2 := ⟨k - 2, by omega⟩
  have hm : ∀ x y : ByteArray, (∀ r : ByteArray → Option (ByteArray × ByteArray × Bool), (if x.toList = [] then r y else if y.toList = [] then r x else if Th.lt x y then r x else r y) = r (Th.mnI y x)) := by
    intro x y r
    unfold Th.mnI
    by_cases a : x.toList = []
    · rw [if_pos a]
      by_cases b : y.toList = []
      · rw [if_pos b, Th.str_ext (a.trans b.symm)]
      · rw [if_neg b, if_pos a]
    · rw [if_neg a]
      by_cases b : y.toList = []
      · rw [if_pos b, if_pos b]
      · rw [if_neg b, if_neg b, if_neg a]
        by_cases c : Th.lt x y
        · rw [if_pos c, if_pos c]
        · rw [if_neg c, if_neg c]
  have hx : ∀ (r : ByteArray → Option (ByteArray × ByteArray × Bool)), (if Th.lt l2 l1 then r l1 else if l2.toList = l1.toList then r l1 else r l2) = r (Th.mxI l1 l2) := by
    intro r
    unfold Th.mxI
    by_cases a : Th.lt l2 l1
    · rw [if_pos a, if_neg (fun b => Th.lt_asymm a b)]
    · rw [if_neg a]
      by_cases b : l2.toList = l1.toList
      · have : l2 = l1 := Th.str_ext b
        subst this
        rw [if_pos b, if_neg (Th.lt_irrefl _)]
      · rw [if_neg b, if_pos]
        rcases Classical.em (Th.lt l1 l2) with c | c
        · exact c
        · exact absurd (congrArg ByteArray.toList (Th.lt_total a c)) b
  have hj : ∀ (L : ByteArray), (if Th.iv L (Th.mnI h1 h2) = true then some (L, Th.mnI h1 h2, true) else some ((⟨#[]⟩ : ByteArray), (⟨#[]⟩ : ByteArray), false)) = (if h2.toList = [] then (if Th.iv L h1 = true then some (L, h1, true) else some ((⟨#[]⟩ : ByteArray), (⟨#[]⟩ : ByteArray), false)) else if h1.toList = [] then (if Th.iv L h2 = true then some (L, h2, true) else some ((⟨#[]⟩ : ByteArray), (⟨#[]⟩ : ByteArray), false)) else if Th.lt h2 h1 then (if Th.iv L h2 = true then some (L, h2, true) else some ((⟨#[]⟩ : ByteArray), (⟨#[]⟩ : ByteArray), false)) else (if Th.iv L h1 = true then some (L, h1, true) else some ((⟨#[]⟩ : ByteArray), (⟨#[]⟩ : ByteArray), false))) :=
    fun L => (hm h2 h1 (fun H => if Th.iv L H = true then some (L, H, true) else some ((⟨#[]⟩ : ByteArray), (⟨#[]⟩ : ByteArray), false))).symm
  have key : (if Th.lt l2 l1 then (if h2.toList = [] then spec_IntervalMeet.j1 (k + 1) false l2 h2 l1 h1 else if h1.toList = [] then spec_IntervalMeet.j1 (k + 1) true l2 h2 l1 h1 else spec_IntervalMeet.j1 (k + 1) (Op.bytesLess h2.toList h1.toList) l2 h2 l1 h1)
      else if l2.toList = l1.toList then (if h2.toList = [] then spec_IntervalMeet.j2 (k + 1) false l2 h2 l1 h1 else if h1.toList = [] then spec_IntervalMeet.j2 (k + 1) true l2 h2 l1 h1 else spec_IntervalMeet.j2 (k + 1) (Op.bytesLess h2.toList h1.toList) l2 h2 l1 h1)
      else (if h2.toList = [] then spec_IntervalMeet.j3 (k + 1) false l2 h2 l2 h1 else if h1.toList = [] then spec_IntervalMeet.j3 (k + 1) true l2 h2 l2 h1 else spec_IntervalMeet.j3 (k + 1) (Op.bytesLess h2.toList h1.toList) l2 h2 l2 h1))
      = (if Th.iv (Th.mxI l1 l2) (Th.mnI h1 h2) = true then some (Th.mxI l1 l2, Th.mnI h1 h2, true) else some ((⟨#[]⟩ : ByteArray), (⟨#[]⟩ : ByteArray), false)) := by
    rw [← hx (fun L => if Th.iv L (Th.mnI h1 h2) = true then some (L, Th.mnI h1 h2, true) else some ((⟨#[]⟩ : ByteArray), (⟨#[]⟩ : ByteArray), false))]
    simp only [spec_IntervalMeet.j1, spec_IntervalMeet.j2, spec_IntervalMeet.j3, spec_IntervalValid_eq _ _ k (by omega), Option.bind_some, hj, Bool.false_eq_true, if_false, if_true]
  unfold spec_IntervalMeet.f Th.meetI
  simp only [spec_IntervalMeet.j0, spec_IntervalValid_eq _ _ (k + 2) (by omega), Option.bind_some]
  cases hv1 : Th.iv l1 h1 with
  | false => simp; rfl
  | true =>
    cases hv2 : Th.iv l2 h2 with
    | false => simp; rfl
    | true =>
      simp only [Bool.not_true, if_true, Bool.false_eq_true, if_false, true_and]
      refine key.trans ?_
      cases Th.iv (Th.mxI l1 l2) (Th.mnI h1 h2) <;> simp <;> rfl
theorem impl_lettersOnly_eq : ∀ (l : List UInt8) (k : Nat), l.length < k → impl_lettersOnly.f k (Th.mkS l) = some (l.all Th.letter)
  | _, 0, h => by omega
  | [], k + 1, _ => by
    rw [impl_lettersOnly.f, if_pos (Th.toList_mkS [])]
    rfl
  | c :: l, k + 1, h => by
    have ih := impl_lettersOnly_eq l k (by simpa using h)
    have hs : (0 : Int) < ((Th.mkS (c :: l)).size : Int) := by rw [Th.size_mkS, List.length_cons]; omega
    have hx : (Th.mkS (c :: l)).extract 1 (Th.mkS (c :: l)).size = Th.mkS l := by rw [Th.extract_mkS, Th.size_mkS, List.take_length]; rfl
    have hs1 : (1 : Int) ≤ ((Th.mkS (c :: l)).size : Int) := by omega
    rw [impl_lettersOnly.f, if_neg (by rw [Th.toList_mkS]; simp), if_pos hs, if_pos hs1, hx, ih, Th.bt_zero]
    simp only [Option.bind_some, List.all_cons, Th.letter]
    by_cases h1 : (c.toNat : Int) ≥ 97
    · rw [if_pos h1, decide_eq_true (show 97 ≤ (c.toNat : Int) from h1)]
      by_cases h2 : (c.toNat : Int) ≤ 122
      · rw [if_pos h2, decide_eq_true h2]; rfl
      · rw [if_neg h2, decide_eq_false h2]; rfl
    · rw [if_neg h1, decide_eq_false (show ¬ 97 ≤ (c.toNat : Int) from h1)]; rfl
theorem impl_KeyValid_eq (s : ByteArray) (k : Nat) (hk : 1000 ≤ k) : impl_KeyValid.f k s = some (Th.kv s) := by
  obtain ⟨l, rfl⟩ := Th.mkS_surj s
  unfold impl_KeyValid.f Th.kv Th.kvL
  rw [Th.toList_mkS, Th.size_mkS]
  by_cases h1 : (l.length : Int) < 1
  · rw [if_pos h1, decide_eq_false (show ¬ 1 ≤ l.length by omega)]; rfl
  · rw [if_neg h1, decide_eq_true (show 1 ≤ l.length by omega)]
    by_cases h2 : (l.length : Int) > 4
    · rw [if_pos h2, decide_eq_false (show ¬ l.length ≤ 4 by omega)]; rfl
    · rw [if_neg h2, decide_eq_true (show l.length ≤ 4 by omega), impl_lettersOnly_eq l k (by omega)]; rfl
theorem impl_lowestKey_eq (a b : ByteArray) : impl_lowestKey.f a b = some (if a.toList = [] then Th.aK else a) := by
  unfold impl_lowestKey.f
  by_cases h : a.toList = []
  · rw [if_pos h, if_pos h]; rfl
  · rw [if_neg h, if_neg h]
theorem impl_IntervalValid_eq (lo hi : ByteArray) (k : Nat) (hk : 1000 ≤ k) : impl_IntervalValid.f k lo hi = some (Th.iv lo hi) := by
  unfold impl_IntervalValid.f
  simp only [impl_KeyValid_eq _ k hk, impl_lowestKey_eq, Option.bind_some]
  by_cases h2 : hi.toList = []
  · have e2 := Th.er_nil h2
    have k2 := Th.kv0_nil h2
    simp only [if_pos h2]
    by_cases h1 : lo.toList = []
    · rw [if_pos h1]
      congr 1
      exact ((Th.iv_iff lo hi).2 ⟨Th.kv0_nil h1, k2, .inl e2⟩).symm
    · rw [if_neg h1]
      cases hv : Th.kv lo with
      | true =>
        rw [if_pos rfl]
        congr 1
        exact ((Th.iv_iff lo hi).2 ⟨Th.kv0_of_kv hv, k2, .inl e2⟩).symm
      | false =>
        rw [if_neg (by simp)]
        congr 1
        symm
        rw [Bool.eq_false_iff]
        intro h
        have := ((Th.kv0_iff lo).1 ((Th.iv_iff lo hi).1 h).1)
        rcases this with h' | h'
        · exact h1 h'
        · rw [hv] at h'; cases h'
  · simp only [if_neg h2]
    cases hv2 : Th.kv hi with
    | false =>
      have hf : Th.iv lo hi = false := by
        rw [Bool.eq_false_iff]
        intro h
        rcases (Th.kv0_iff hi).1 ((Th.iv_iff lo hi).1 h).2.1 with h' | h'
        · exact h2 h'
        · rw [hv2] at h'; cases h'
      rw [hf]
      by_cases h1 : lo.toList = []
      · rw [if_pos h1]; simp
      · rw [if_neg h1]; cases Th.kv lo <;> simp
    | true =>
      have k2 := Th.kv0_of_kv hv2
      have p2 := Th.er_pos hv2
      by_cases h1 : lo.toList = []
      · simp only [if_pos h1, if_true]
        congr 1
        apply Th.bool_eq
        rw [show (Op.bytesLess Th.aK.toList hi.toList = true) = Th.lt Th.aK hi from rfl, Th.lt_iff (Th.kv0_of_kv Th.aK_kv) k2, Th.iv_iff, Th.aK_er, Th.er_nil h1]
        constructor
        · intro h; exact ⟨Th.kv0_nil h1, k2, .inr ⟨by omega, h⟩⟩
        · rintro ⟨_, _, h | h⟩ <;> omega
      · rw [if_neg h1]
        cases hv1 : Th.kv lo with
        | false =>
          rw [if_neg (by simp)]
          congr 1
          symm
          rw [Bool.eq_false_iff]
          intro h
          rcases (Th.kv0_iff lo).1 ((Th.iv_iff lo hi).1 h).1 with h' | h'
          · exact h1 h'
          · rw [hv1] at h'; cases h'
        | true =>
          have k1 := Th.kv0_of_kv hv1
          have p1 := Th.er_pos hv1
          simp only [if_neg h1, if_true]
          congr 1
          apply Th.bool_eq
          rw [show (Op.bytesLess lo.toList hi.toList = true) = Th.lt lo hi from rfl, Th.lt_iff k1 k2, Th.iv_iff]
          constructor
          · intro h; exact ⟨k1, k2, .inr ⟨h, by omega⟩⟩
          · rintro ⟨_, _, h | h⟩ <;> omega
theorem impl_lesserHigh_eq (a b : ByteArray) : impl_lesserHigh.f a b = some (Th.mnI a b) := by
  unfold impl_lesserHigh.f Th.mnI
  rw [Th.minS_eq]
  by_cases h1 : a.toList = []
  · simp only [if_pos h1]
  · simp only [if_neg h1]
    by_cases h2 : b.toList = []
    · simp only [if_pos h2]
    · simp only [if_neg h2]
theorem impl_IntervalMeet_eq (l1 h1 l2 h2 : ByteArray) (k : Nat) (hk : 2000 ≤ k) : impl_IntervalMeet.f k l1 h1 l2 h2 = some (Th.meetI l1 h1 l2 h2) := by
  obtain ⟨k, rfl⟩ : ∃ m, k = m + 1 := ⟨k - 1, by omega⟩
  unfold impl_IntervalMeet.f Th.meetI
  simp only [impl_IntervalMeet.j0, impl_IntervalValid_eq _ _ (k + 1) (by omega), impl_IntervalValid_eq _ _ k (by omega), impl_lesserHigh_eq, Option.bind_some, Th.maxS_eq]
  show _ = some (if _ ∧ _ ∧ Th.iv (if Th.lt l1 l2 then l2 else l1) (Th.mnI h1 h2) = true then ((if Th.lt l1 l2 then l2 else l1), Th.mnI h1 h2, true) else _)
  by_cases a : Th.iv l1 h1 = true <;> by_cases b : Th.iv l2 h2 = true <;> by_cases c : Th.iv (if Th.lt l1 l2 then l2 else l1) (Th.mnI h1 h2) = true <;> simp only [a, b, c] <;> simp <;> rfl
theorem FnExactIntervalMeet : laws_FnExactIntervalMeet.Pure := by
  intro a b c d _ _
  obtain ⟨t, ht⟩ := laws_szInterval_tot a b 1048576
  obtain ⟨t2, ht2⟩ := laws_szInterval_tot c d t
  refine ⟨2000, ?_⟩
  unfold laws_FnExactIntervalMeet.f
  simp only [ht, ht2, laws_toInterval.f, Option.bind_some, spec_IntervalMeet_eq _ _ _ _ 2000 (by omega), impl_IntervalMeet_eq _ _ _ _ 2000 (by omega), laws_eqInterval_refl]
  simp

end Go.Proofs.Ytdceajeldlnkkaa.Pure
