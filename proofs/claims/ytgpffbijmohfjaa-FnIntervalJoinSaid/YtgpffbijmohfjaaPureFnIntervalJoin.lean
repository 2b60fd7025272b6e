/- The plain law of FnIntervalJoin: what the printed functions compute, and that it answers true: for every input that the statement lets in. -/
import Derived.Test.YtgpffbijmohfjaaPFnIntervalJoinx
import Derived.Test.YtgpffbijmohfjaaThA
import Derived.Test.YtgpffbijmohfjaaThB
import Derived.Test.YtgpffbijmohfjaaThL
import Derived.Test.YtgpffbijmohfjaaThR
namespace Go.Proofs.Ytgpffbijmohfjaa.Pure
open Go Go.RowKit Go.Proofs.Ytgpffbijmohfjaa.PFnIntervalJoin Go.Proofs.YtgpffbijmohfjaaW.PrintWords Go.Proofs.YtgpffbijmohfjaaW.PrintLast Go.Proofs.Ytgpffbijmohfjaa
set_option linter.unusedVariables false
set_option linter.unusedSimpArgs false
set_option maxRecDepth 10000
theorem impl_lettersOnly_eq : ∀ (l : List UInt8) (k : Nat), l.length < k → impl_lettersOnly.f k (Th.mkS l) = some (l.all Th.letter)
  | _, 0, h => by omega
  | [], k + 1, _ => by
    rw [impl_lettersOnly.f, if_pos (Th.toList_mkS [])]
    rfl
  | c :: l, k + 1, h => by
    have ih := impl_lettersOnly_eq l k (by simpa using h)
    have hs : (0 : Int) < ((Th.mkS (c :: l)).size : Int) := by rw [Th.size_mkS, List.length_cons]; omega
    have hx : (Th.mkS (c :: l)).extract 1 (Th.mkS (c :: l)).size = Th.mkS l := by rw [Th.extract_mkS, Th.size_mkS, List.take_length]; rfl
    have hs1 : (1 : Int) ≤ ((Th.mkS (c :: l)).size : Int) := by omega
    rw [impl_lettersOnly.f, if_neg (by rw [Th.toList_mkS]; simp), if_pos hs, if_pos hs1, hx, ih, Th.bt_zero]
    simp only [Option.bind_some, List.all_cons, Th.letter]
    by_cases h1 : (c.toNat : Int) ≥ 97
    · rw [if_pos h1, decide_eq_true (show 97 ≤ (c.toNat : Int) from h1)]
      by_cases h2 : (c.toNat : Int) ≤ 122
      · rw [if_pos h2, decide_eq_true h2]; rfl
      · rw [if_neg h2, decide_eq_false h2]; rfl
    · rw [if_neg h1, decide_eq_false (show ¬ 97 ≤ (c.toNat : Int) from h1)]; rfl
theorem impl_KeyValid_eq (s : ByteArray) (k : Nat) (hk : 1000 ≤ k) : impl_KeyValid.f k s = some (Th.kv s) := by
  obtain ⟨l, rfl⟩ := Th.mkS_surj s
  unfold impl_KeyValid.f Th.kv Th.kvL
  rw [Th.toList_mkS, Th.size_mkS]
  by_cases h1 : (l.length : Int) < 1
  · rw [if_pos h1, decide_eq_false (show ¬ 1 ≤ l.length by omega)]; rfl
  · rw [if_neg h1, decide_eq_true (show 1 ≤ l.length by omega)]
    by_cases h2 : (l.length : Int) > 4
    · rw [if_pos h2, decide_eq_false (show ¬ l.length ≤ 4 by omega)]; rfl
    · rw [if_neg h2, decide_eq_true (show l.length ≤ 4 by omega), impl_lettersOnly_eq l k (by omega)]; rfl
theorem impl_keysFrom_eq (d k : Nat) (h1 : 1 ≤ d) (hd : d ≤ 5) (hk : 6 ≤ k) : impl_keysFrom.f k (d : Int) = some (Th.wt d) := by
  obtain ⟨k, rfl⟩ : ∃ m, k = m + 4 := ⟨k - 4, by omega⟩
  have w : wrap64 2 = 2 ∧ wrap64 3 = 3 ∧ wrap64 4 = 4 ∧ wrap64 26 = 26 ∧ wrap64 27 = 27 ∧ wrap64 702 = 702 ∧ wrap64 703 = 703 ∧ wrap64 18278 = 18278 ∧ wrap64 18279 = 18279 := ⟨Th.wrap_small (by omega) (by omega), Th.wrap_small (by omega) (by omega), Th.wrap_small (by omega) (by omega), Th.wrap_small (by omega) (by omega), Th.wrap_small (by omega) (by omega), Th.wrap_small (by omega) (by omega), Th.wrap_small (by omega) (by omega), Th.wrap_small (by omega) (by omega), Th.wrap_small (by omega) (by omega)⟩
  have hc : d = 1 ∨ d = 2 ∨ d = 3 ∨ d = 4 ∨ d = 5 := by omega
  rcases hc with rfl | rfl | rfl | rfl | rfl <;> simp [impl_keysFrom.f, w, Th.wt]
theorem impl_rankBelow_eq : ∀ (l : List UInt8) (d k : Nat), Th.okL l d → l.length + 10 ≤ k → impl_rankBelow.f k (Th.mkS l) (d : Int) = some (Th.erL l d)
  | _, _, 0, _, h => by omega
  | [], d, k + 1, _, _ => by
    rw [impl_rankBelow.f, if_pos (Th.toList_mkS [])]
    rfl
  | c :: l, d, k + 1, hok, hk => by
    obtain ⟨o1, o2, o3, o4⟩ := Th.okL_tail hok
    have hk' : l.length + 10 ≤ k := by simp only [List.length_cons] at hk; omega
    have ih := impl_rankBelow_eq l (d + 1) k o1 hk'
    have hs : (0 : Int) < ((Th.mkS (c :: l)).size : Int) := by rw [Th.size_mkS, List.length_cons]; omega
    have hx : (Th.mkS (c :: l)).extract 1 (Th.mkS (c :: l)).size = Th.mkS l := by rw [Th.extract_mkS, Th.size_mkS, List.take_length]; rfl
    have hr := Th.erL_range l (d + 1) o1
    have hw := Th.wt_pos d
    have hd : d = 1 ∨ d = 2 ∨ d = 3 ∨ d = 4 := by have := hok.2.1; omega
    have hb : wrap64 ((d : Int) + 1) = ((d + 1 : Nat) : Int) := by rw [Th.wrap_small (by omega) (by omega)]; omega
    have hc : ((c.toNat : Int) - 97) % 256 = (c.toNat : Int) - 97 := by omega
    have hs1 : (1 : Int) ≤ ((Th.mkS (c :: l)).size : Int) := by omega
    rw [impl_rankBelow.f, if_neg (by rw [Th.toList_mkS]; simp), if_pos hs, impl_keysFrom_eq d k hok.2.1 (by omega) (by omega), Option.bind_some, if_pos hs1, hx, hb, ih, Th.bt_zero, hc]
    simp only [Option.bind_some, Th.erL]
    have key : ∀ x : Int, 0 ≤ x → x ≤ 25 → ∀ y : Int, 0 ≤ y → y ≤ 475254 → wrap64 (wrap64 (1 + wrap64 (x * Th.wt d)) + y) = 1 + x * Th.wt d + y := by
      intro x hx0 hx1 y hy0 hy1
      have : 0 ≤ x * Th.wt d ∧ x * Th.wt d ≤ 456975 := by
        rcases hd with rfl | rfl | rfl | rfl <;> simp only [Th.wt] <;> omega
      rw [Th.wrap_small (x := x * Th.wt d) (by omega) (by omega), Th.wrap_small (x := 1 + x * Th.wt d) (by omega) (by omega), Th.wrap_small (by omega) (by omega)]
    rw [key _ (by omega) (by omega) _ hr.1 (by rcases hd with rfl | rfl | rfl | rfl <;> simp only [Th.wt] at hr <;> omega)]
theorem impl_KeyRank_eq (s : ByteArray) (k : Nat) (hk : 1000 ≤ k) : impl_KeyRank.f k s = some (Th.krank s) := by
  unfold impl_KeyRank.f Th.krank
  rw [impl_KeyValid_eq s k hk, Option.bind_some]
  by_cases h : Th.kv s = true
  · rw [if_pos h, if_pos h]
    have h0 := Th.kv0_of_kv h
    have hr := Th.er_range h0
    have := impl_rankBelow_eq s.toList 1 k h0 (by have := h0.1; omega)
    rw [Th.mkS_toList, show ((1 : Nat) : Int) = 1 from rfl] at this
    rw [this, Option.bind_some]
    show some (wrap64 (Th.er s - 1)) = _
    rw [Th.wrap_small (by omega) (by omega)]
  · rw [if_neg h, if_neg h]
theorem laws_alive_eq (k : Nat) (hk : 2000 ≤ k) : laws_alive.f k = some true := by
  unfold laws_alive.f
  rw [impl_KeyRank_eq _ k (by omega), Option.bind_some, impl_KeyRank_eq _ k (by omega), Option.bind_some]
  have e1 : Th.krank (⟨#[97, 97]⟩ : ByteArray) = 1 := by
    show Th.krank (Th.mkS [97, 97]) = 1
    unfold Th.krank Th.kv Th.er
    rw [Th.toList_mkS]
    decide
  have e2 : Th.krank (⟨#[]⟩ : ByteArray) = -1 := by
    show Th.krank (Th.mkS []) = -1
    unfold Th.krank Th.kv Th.er
    rw [Th.toList_mkS]
    decide
  rw [e1, if_pos rfl, e2]
  rfl
theorem impl_lowestKey_eq (a b : ByteArray) : impl_lowestKey.f a b = some (if a.toList = [] then Th.aK else a) := by
  unfold impl_lowestKey.f
  by_cases h : a.toList = []
  · rw [if_pos h, if_pos h]; rfl
  · rw [if_neg h, if_neg h]
theorem impl_IntervalValid_eq (lo hi : ByteArray) (k : Nat) (hk : 1000 ≤ k) : impl_IntervalValid.f k lo hi = some (Th.iv lo hi) := by
  unfold impl_IntervalValid.f
  simp only [impl_KeyValid_eq _ k hk, impl_lowestKey_eq, Option.bind_some]
  by_cases h2 : hi.toList = []
  · have e2 := Th.er_nil h2
    have k2 := Th.kv0_nil h2
    simp only [if_pos h2]
    by_cases h1 : lo.toList = []
    · rw [if_pos h1]
      congr 1
      exact ((Th.iv_iff lo hi).2 ⟨Th.kv0_nil h1, k2, .inl e2⟩).symm
    · rw [if_neg h1]
      cases hv : Th.kv lo with
      | true =>
        rw [if_pos rfl]
        congr 1
        exact ((Th.iv_iff lo hi).2 ⟨Th.kv0_of_kv hv, k2, .inl e2⟩).symm
      | false =>
        rw [if_neg (by simp)]
        congr 1
        symm
        rw [Bool.eq_false_iff]
        intro h
        have := ((Th.kv0_iff lo).1 ((Th.iv_iff lo hi).1 h).1)
        rcases this with h' | h'
        · exact h1 h'
        · rw [hv] at h'; cases h'
  · simp only [if_neg h2]
    cases hv2 : Th.kv hi with
    | false =>
      have hf : Th.iv lo hi = false := by
        rw [Bool.eq_false_iff]
        intro h
        rcases (Th.kv0_iff hi).1 ((Th.iv_iff lo hi).1 h).2.1 with h' | h'
        · exact h2 h'
        · rw [hv2] at h'; cases h'
      rw [hf]
      by_cases h1 : lo.toList = []
      · rw [if_pos h1]; simp
      · rw [if_neg h1]; cases Th.kv lo <;> simp
    | true =>
      have k2 := Th.kv0_of_kv hv2
      have p2 := Th.er_pos hv2
      by_cases h1 : lo.toList = []
      · simp only [if_pos h1, if_true]
        congr 1
        apply Th.bool_eq
        rw [show (Op.bytesLess Th.aK.toList hi.toList = true) = Th.lt Th.aK hi from rfl, Th.lt_iff (Th.kv0_of_kv Th.aK_kv) k2, Th.iv_iff, Th.aK_er, Th.er_nil h1]
        constructor
        · intro h; exact ⟨Th.kv0_nil h1, k2, .inr ⟨by omega, h⟩⟩
        · rintro ⟨_, _, h | h⟩ <;> omega
      · rw [if_neg h1]
        cases hv1 : Th.kv lo with
        | false =>
          rw [if_neg (by simp)]
          congr 1
          symm
          rw [Bool.eq_false_iff]
          intro h
          rcases (Th.kv0_iff lo).1 ((Th.iv_iff lo hi).1 h).1 with h' | h'
          · exact h1 h'
          · rw [hv1] at h'; cases h'
        | true =>
          have k1 := Th.kv0_of_kv hv1
          have p1 := Th.er_pos hv1
          simp only [if_neg h1, if_true]
          congr 1
          apply Th.bool_eq
          rw [show (Op.bytesLess lo.toList hi.toList = true) = Th.lt lo hi from rfl, Th.lt_iff k1 k2, Th.iv_iff]
          constructor
          · intro h; exact ⟨k1, k2, .inr ⟨h, by omega⟩⟩
          · rintro ⟨_, _, h | h⟩ <;> omega
theorem impl_IntervalCut_eq (lo hi key : ByteArray) (k : Nat) (hk : 2000 ≤ k) : impl_IntervalCut.f k lo hi key = some (Th.cutI lo hi key) := by
  obtain ⟨k, rfl⟩ : ∃ m, k = m + 1 := ⟨k - 1, by omega⟩
  unfold impl_IntervalCut.f Th.cutI
  simp only [impl_IntervalCut.j0, impl_KeyValid_eq _ (k + 1) (by omega), impl_IntervalValid_eq _ _ (k + 1) (by omega), impl_IntervalValid_eq _ _ k (by omega), Option.bind_some]
  cases Th.iv lo hi <;> cases Th.kv key <;> cases Th.iv lo key <;> cases Th.iv key hi <;> simp <;> rfl
theorem spec_l1In_eq (a b c : Int) : spec_l1In.f a b c = some (decide (b ≤ a) && decide (a ≤ c)) := by
  unfold spec_l1In.f
  by_cases h : a ≥ b
  · rw [if_pos h, decide_eq_true (show b ≤ a from h), Bool.true_and]
  · rw [if_neg h, decide_eq_false (show ¬ b ≤ a from h), Bool.false_and]
theorem spec_KeyValid_l0 (l : List UInt8) (hl : l.length ≤ 4) : ∀ (d i k : Nat), i + d = l.length → d < k → spec_KeyValid.l0 k (Th.mkS l) (i : Int) = some ((l.drop i).all Th.letter)
  | _, _, 0, _, h => by omega
  | 0, i, k + 1, h, _ => by
    rw [spec_KeyValid.l0, if_neg (by rw [Th.size_mkS]; omega), List.drop_of_length_le (by omega)]; rfl
  | d + 1, i, k + 1, h, hk => by
    have ih := spec_KeyValid_l0 l hl d (i + 1) k (by omega) (by omega)
    have hi : i < l.length := by omega
    rw [spec_KeyValid.l0, if_pos (by rw [Th.size_mkS]; omega), if_pos (by omega), Th.bt_mkS l i hi, Th.wrap_small (by omega) (by omega), show ((i : Int) + 1) = ((i + 1 : Nat) : Int) by omega, ih, List.drop_eq_getElem_cons hi, List.all_cons]
    simp only [Th.letter]
    by_cases h1 : ((l[i]'hi).toNat : Int) < 97
    · rw [if_pos h1, decide_eq_false (show ¬ 97 ≤ ((l[i]'hi).toNat : Int) by omega)]; rfl
    · rw [if_neg h1, decide_eq_true (show 97 ≤ ((l[i]'hi).toNat : Int) by omega)]
      by_cases h2 : ((l[i]'hi).toNat : Int) > 122
      · rw [if_pos h2, decide_eq_false (show ¬ ((l[i]'hi).toNat : Int) ≤ 122 by omega)]; rfl
      · rw [if_neg h2, decide_eq_true (show ((l[i]'hi).toNat : Int) ≤ 122 by omega)]; rfl
theorem spec_KeyValid_eq (s : ByteArray) (k : Nat) (hk : 1000 ≤ k) : spec_KeyValid.f k s = some (Th.kv s) := by
  obtain ⟨l, rfl⟩ := Th.mkS_surj s
  unfold spec_KeyValid.f Th.kv Th.kvL
  rw [spec_l1In_eq, Th.toList_mkS, Th.size_mkS, Option.bind_some]
  by_cases h : 1 ≤ l.length ∧ l.length ≤ 4
  · have h0 := spec_KeyValid_l0 l h.2 l.length 0 k (by omega) (by omega)
    rw [show ((0 : Nat) : Int) = 0 from rfl] at h0
    rw [decide_eq_true (show (1 : Int) ≤ (l.length : Int) by omega), decide_eq_true (show (l.length : Int) ≤ 4 by omega), decide_eq_true h.1, decide_eq_true h.2, h0]
    rfl
  · by_cases h1 : 1 ≤ l.length
    · rw [decide_eq_false (show ¬ (l.length : Int) ≤ 4 by omega), decide_eq_false (show ¬ l.length ≤ 4 by omega)]; simp
    · rw [decide_eq_false (show ¬ (1 : Int) ≤ (l.length : Int) by omega), decide_eq_false h1]; simp
theorem spec_IntervalValid_eq (lo hi : ByteArray) (k : Nat) (hk : 1000 ≤ k) : spec_IntervalValid.f k lo hi = some (Th.iv lo hi) := by
  unfold spec_IntervalValid.f
  simp only [spec_KeyValid_eq _ k hk, Option.bind_some]
  by_cases h2 : hi.toList = []
  · have e2 := Th.er_nil h2
    have k2 := Th.kv0_nil h2
    simp only [if_pos h2]
    by_cases h1 : lo.toList = []
    · rw [if_pos h1]
      congr 1
      exact ((Th.iv_iff lo hi).2 ⟨Th.kv0_nil h1, k2, .inl e2⟩).symm
    · rw [if_neg h1]
      cases hv : Th.kv lo with
      | true =>
        rw [if_pos rfl]
        congr 1
        exact ((Th.iv_iff lo hi).2 ⟨Th.kv0_of_kv hv, k2, .inl e2⟩).symm
      | false =>
        rw [if_neg (by simp)]
        congr 1
        symm
        rw [Bool.eq_false_iff]
        intro h
        have := ((Th.kv0_iff lo).1 ((Th.iv_iff lo hi).1 h).1)
        rcases this with h' | h'
        · exact h1 h'
        · rw [hv] at h'; cases h'
  · simp only [if_neg h2]
    cases hv2 : Th.kv hi with
    | false =>
      have hf : Th.iv lo hi = false := by
        rw [Bool.eq_false_iff]
        intro h
        rcases (Th.kv0_iff hi).1 ((Th.iv_iff lo hi).1 h).2.1 with h' | h'
        · exact h2 h'
        · rw [hv2] at h'; cases h'
      rw [hf]
      by_cases h1 : lo.toList = []
      · rw [if_pos h1]; simp
      · rw [if_neg h1]; cases Th.kv lo <;> simp
    | true =>
      have k2 := Th.kv0_of_kv hv2
      have p2 := Th.er_pos hv2
      by_cases h1 : lo.toList = []
      · have hl : Op.bytesLess lo.toList hi.toList = true := (Th.lt_iff (Th.kv0_nil h1) k2).2 (by rw [Th.er_nil h1]; omega)
        rw [if_pos h1, if_pos rfl, if_pos hl]
        congr 1
        apply Th.bool_eq
        rw [bne_iff_ne, Ne, Th.er_a hi k2, Th.iv_iff, Th.er_nil h1]
        constructor
        · intro h; exact ⟨Th.kv0_nil h1, k2, .inr ⟨by omega, by omega⟩⟩
        · rintro ⟨_, _, h | h⟩ <;> omega
      · rw [if_neg h1]
        cases hv1 : Th.kv lo with
        | false =>
          rw [if_neg (by simp)]
          congr 1
          symm
          rw [Bool.eq_false_iff]
          intro h
          rcases (Th.kv0_iff lo).1 ((Th.iv_iff lo hi).1 h).1 with h' | h'
          · exact h1 h'
          · rw [hv1] at h'; cases h'
        | true =>
          have k1 := Th.kv0_of_kv hv1
          have p1 := Th.er_pos hv1
          rw [if_pos rfl, if_pos rfl]
          by_cases hl : Th.lt lo hi
          · have hl' := (Th.lt_iff k1 k2).1 hl
            rw [if_pos hl]
            congr 1
            exact ((Th.iv_iff lo hi).2 ⟨k1, k2, .inr ⟨hl', by omega⟩⟩).symm
          · have hl' : ¬ Th.er lo < Th.er hi := fun h => hl ((Th.lt_iff k1 k2).2 h)
            rw [if_neg hl]
            congr 1
            symm
            rw [Bool.eq_false_iff]
            intro h
            rcases ((Th.iv_iff lo hi).1 h).2.2 with h | h <;> omega
theorem spec_IntervalCut_eq (lo hi key : ByteArray) (k : Nat) (hk : 2000 ≤ k) : spec_IntervalCut.f k lo hi key = some (Th.cutI lo hi key) := by
  unfold spec_IntervalCut.f Th.cutI
  simp only [spec_KeyValid_eq _ k (by omega), spec_IntervalValid_eq _ _ k (by omega), Option.bind_some]
  cases Th.iv lo hi <;> cases Th.kv key <;> cases Th.iv lo key <;> cases Th.iv key hi <;> simp <;> rfl
theorem spec_l20Rd_pick_ok (xs : List Int) (p n : Int) (k : Nat) (hx : ∀ x ∈ xs, 0 ≤ x ∧ x ≤ 255) (hl : xs.length ≤ 4294967296) (hp : 0 ≤ p ∧ p ≤ 100000000) (hn : 1 ≤ n) (hk : 1 ≤ k) : ∃ v, 0 ≤ v ∧ v < n ∧ spec_l20Rd_pick.f k xs p n = some (v, p + 1) := by
  obtain ⟨k, rfl⟩ : ∃ m, k = m + 1 := ⟨k - 1, by omega⟩
  have w1 : wrap64 (p + 1) = p + 1 := Th.wrap_small (by omega) (by omega)
  have w2 : wrap64 (p + 1 - 1) = p := by rw [Th.wrap_small (by omega) (by omega)]; omega
  unfold spec_l20Rd_pick.f
  rw [if_neg (by omega), w1, spec_l20Rd_pick.j0]
  by_cases e : (xs.length : Int) = 0
  · rw [show ((xs.length : Int) == 0) = true by simpa using e, if_pos rfl]
    exact ⟨0, by omega, by omega, rfl⟩
  · rw [show ((xs.length : Int) == 0) = false by simpa using e, if_neg (by simp), w2]
    by_cases c : p < (xs.length : Int)
    · rw [if_pos c, if_pos (by omega), if_neg (by omega)]
      have h := Th.rd_u8 xs hx p
      rw [Th.wrap_small (x := rd xs p) (by omega) (by omega)]
      exact ⟨_, Int.tmod_nonneg _ h.1, Int.tmod_lt_of_pos _ (by omega), rfl⟩
    · have hL : (0 : Int) < xs.length := by omega
      have t1 : 0 ≤ Int.tmod p (xs.length : Int) := Int.tmod_nonneg _ hp.1
      have t2 : Int.tmod p (xs.length : Int) < (xs.length : Int) := Int.tmod_lt_of_pos _ hL
      have w3 : wrap64 (wrap64 (p * 7) + 3) = p * 7 + 3 := by rw [Th.wrap_small (x := p * 7) (by omega) (by omega), Th.wrap_small (by omega) (by omega)]
      have t3 : 0 ≤ Int.tmod (p * 7 + 3) (xs.length : Int) := Int.tmod_nonneg _ (by omega)
      have t4 : Int.tmod (p * 7 + 3) (xs.length : Int) < (xs.length : Int) := Int.tmod_lt_of_pos _ hL
      have hd : 0 ≤ Int.tdiv p (xs.length : Int) ∧ Int.tdiv p (xs.length : Int) ≤ 1000000000 := by
        rw [Int.tdiv_eq_ediv_of_nonneg hp.1]
        refine ⟨Int.ediv_nonneg hp.1 (by omega), ?_⟩
        have : p / (xs.length : Int) ≤ p := Int.ediv_le_self _ hp.1
        omega
      have hv := Th.pick_val (rd xs (Int.tmod p (xs.length : Int))) (rd xs (Int.tmod (p * 7 + 3) (xs.length : Int))) p (Int.tdiv p (xs.length : Int)) (Th.rd_u8 xs hx _) (Th.rd_u8 xs hx _) ⟨hp.1, by omega⟩ hd
      rw [if_neg c, if_neg e, if_pos t1, if_pos t2, w3, if_pos t3, if_pos t4, if_neg (by omega)]
      exact ⟨_, Int.tmod_nonneg _ hv, Int.tmod_lt_of_pos _ (by omega), rfl⟩
theorem spec_l20Rd_odd_ok (xs : List Int) (p n : Int) (k : Nat) (hx : ∀ x ∈ xs, 0 ≤ x ∧ x ≤ 255) (hl : xs.length ≤ 4294967296) (hp : 0 ≤ p ∧ p ≤ 100000000) (hk : 1 ≤ k) : ∃ b q, p ≤ q ∧ q ≤ p + 1 ∧ spec_l20Rd_odd.f k xs p n = some (b, q) := by
  unfold spec_l20Rd_odd.f
  by_cases h : n > 0
  · obtain ⟨v, _, _, hv⟩ := spec_l20Rd_pick_ok xs p n k hx hl hp (by omega) hk
    rw [if_pos h, hv]
    exact ⟨_, p + 1, by omega, by omega, rfl⟩
  · rw [if_neg h]
    exact ⟨_, p, by omega, by omega, rfl⟩
theorem spec_l20Key_l0 (xs : List Int) (hx : ∀ x ∈ xs, 0 ≤ x ∧ x ≤ 255) (hl : xs.length ≤ 4294967296) : ∀ (d k : Nat) (s : ByteArray) (p : Int), d < k → 0 ≤ p → p + d ≤ 100000000 → s.size + d ≤ 100 → ∃ r, r.size ≤ 100 ∧ spec_l20Key.l0 (k + 1) s (d : Int) xs p = some (r, p + d)
  | 0, k, s, p, hk, h0, hp, hs => by
    rw [spec_l20Key.l0, if_neg (by omega)]
    exact ⟨s, by omega, by simp⟩
  | d + 1, 0, s, p, hk, h0, hp, hs => by omega
  | d + 1, k + 1, s, p, hk, h0, hp, hs => by
    obtain ⟨v, v0, v1, hv⟩ := spec_l20Rd_pick_ok xs p 4 (k + 1) hx hl ⟨h0, by omega⟩ (by omega) (by omega)
    have hz : ∀ y : List Int, (strOfNums y).size = y.length := strOfNums_size
    have hw : wrap64 (((d + 1 : Nat) : Int) - 1) = (d : Int) := by rw [Th.wrap_small (by omega) (by omega)]; omega
    obtain ⟨r, hr, he⟩ := spec_l20Key_l0 xs hx hl d k (s ++ strOfNums [(wrap64 (97 + v)) % 256]) (p + 1) (by omega) (by omega) (by omega) (by rw [ByteArray.size_append, hz]; simp only [List.length_cons, List.length_nil]; omega)
    rw [spec_l20Key.l0, if_pos (by omega), hv, Option.bind_some, Option.bind_some, if_pos (by rw [hz]; simp only [List.length_cons, List.length_nil]; omega), hw, he]
    exact ⟨r, hr, by rw [show p + 1 + (d : Int) = p + ((d + 1 : Nat) : Int) by omega]⟩
theorem spec_l20Key_ok (xs : List Int) (p n : Int) (k : Nat) (hx : ∀ x ∈ xs, 0 ≤ x ∧ x ≤ 255) (hl : xs.length ≤ 4294967296) (hp : 0 ≤ p ∧ p ≤ 90000000) (hk : 10 ≤ k) : ∃ s q, s.size ≤ 100 ∧ p ≤ q ∧ q ≤ p + 10 ∧ spec_l20Key.f k xs p n = some (s, q) := by
  obtain ⟨b, q, q0, q1, hb⟩ := spec_l20Rd_odd_ok xs p n k hx hl (by omega) (by omega)
  unfold spec_l20Key.f
  rw [hb, Option.bind_some]
  cases b with
  | true =>
    obtain ⟨v, v0, v1, hv⟩ := spec_l20Rd_pick_ok xs q 6 k hx hl (by omega) (by omega) (by omega)
    simp only [if_true, Option.bind_some]
    rw [hv, Option.bind_some, if_pos v0, if_pos (by simp only [List.length_cons, List.length_nil]; omega)]
    exact ⟨_, _, Th.rdOf_small _ 100 (by decide) _, by omega, by omega, rfl⟩
  | false =>
    obtain ⟨v, v0, v1, hv⟩ := spec_l20Rd_pick_ok xs q 12 k hx hl (by omega) (by omega) (by omega)
    simp only [Bool.false_eq_true, if_false]
    rw [hv, Option.bind_some]
    by_cases c : v = 11
    · obtain ⟨u, u0, u1, hu⟩ := spec_l20Rd_pick_ok xs (q + 1) 5 k hx hl (by omega) (by omega) (by omega)
      rw [if_pos c, Option.bind_some, hu, Option.bind_some, if_pos u0, if_pos (by simp only [List.length_cons, List.length_nil]; omega)]
      exact ⟨_, _, Th.rdOf_small _ 100 (by decide) _, by omega, by omega, rfl⟩
    · obtain ⟨u, u0, u1, hu⟩ := spec_l20Rd_pick_ok xs (q + 1) 2 k hx hl (by omega) (by omega) (by omega)
      obtain ⟨k, rfl⟩ : ∃ m, k = m + 1 := ⟨k - 1, by omega⟩
      obtain ⟨r, hr, he⟩ := spec_l20Key_l0 xs hx hl (1 + u).toNat k (⟨#[]⟩ : ByteArray) (q + 1 + 1) (by omega) (by omega) (by omega) (by rw [show ((⟨#[]⟩ : ByteArray)).size = 0 from rfl]; omega)
      rw [show (((1 + u).toNat : Nat) : Int) = 1 + u by omega] at he
      rw [if_neg c, hu, Option.bind_some, Th.wrap_small (x := 1 + u) (by omega) (by omega), he]
      exact ⟨r, _, hr, by omega, by omega, rfl⟩
theorem spec_l20Open_ok (l : List Int) (hx : ∀ x ∈ l, (Lit.int .u8 x).wf = true) (hl : l.length ≤ 4294967296) : ∃ xs : List Int, (∀ x ∈ xs, 0 ≤ x ∧ x ≤ 255) ∧ xs.length ≤ 4294967296 ∧ spec_l20Open.f l = some (xs, 0) := by
  unfold spec_l20Open.f
  by_cases h : (l.length : Int) > 2000
  · rw [if_pos h, if_pos (by omega)]
    exact ⟨l.take 2000, fun x hm => Th.u8_range (hx x (List.mem_of_mem_take hm)), by rw [List.length_take]; omega, rfl⟩
  · rw [if_neg h]
    exact ⟨l, fun x hm => Th.u8_range (hx x hm), hl, rfl⟩
theorem spec_l20Span_j0_ok (a b : ByteArray) (xs : List Int) (p : Int) (k : Nat) : ∃ s t, spec_l20Span.j0 (k + 1) a b xs p = some (s, t, p) := by
  rw [spec_l20Span.j0]
  by_cases h1 : Op.bytesLess a.toList b.toList = true
  · rw [if_pos h1]; exact ⟨_, _, rfl⟩
  · rw [if_neg h1]
    by_cases h2 : Op.bytesLess b.toList a.toList = true
    · rw [if_pos h2]; exact ⟨_, _, rfl⟩
    · rw [if_neg h2]; exact ⟨_, _, rfl⟩
theorem spec_l20Span_ok (xs : List Int) (p n : Int) (k : Nat) (hx : ∀ x ∈ xs, 0 ≤ x ∧ x ≤ 255) (hl : xs.length ≤ 4294967296) (hp : 0 ≤ p ∧ p ≤ 80000000) (hk : 20 ≤ k) : ∃ s t q, p ≤ q ∧ q ≤ p + 40 ∧ spec_l20Span.f k xs p n = some (s, t, q) := by
  obtain ⟨b, q, q0, q1, hb⟩ := spec_l20Rd_odd_ok xs p n k hx hl (by omega) (by omega)
  unfold spec_l20Span.f
  rw [hb, Option.bind_some]
  cases b with
  | true =>
    obtain ⟨v, v0, v1, hv⟩ := spec_l20Rd_pick_ok xs q 5 k hx hl (by omega) (by omega) (by omega)
    simp only [if_true, Option.bind_some]
    rw [hv, Option.bind_some, if_pos v0, if_pos (by simp only [List.length_cons, List.length_nil]; omega)]
    exact ⟨_, _, _, by omega, by omega, rfl⟩
  | false =>
    obtain ⟨s, q2, _, q20, q21, hs⟩ := spec_l20Key_ok xs q 0 k hx hl (by omega) (by omega)
    obtain ⟨t, q3, _, q30, q31, ht⟩ := spec_l20Key_ok xs q2 0 k hx hl (by omega) (by omega)
    obtain ⟨v, v0, v1, hv⟩ := spec_l20Rd_pick_ok xs q3 6 k hx hl (by omega) (by omega) (by omega)
    obtain ⟨k, rfl⟩ : ∃ m, k = m + 1 := ⟨k - 1, by omega⟩
    obtain ⟨j, j', hj⟩ := spec_l20Span_j0_ok s t xs (q3 + 1) k
    simp only [Bool.false_eq_true, if_false]
    rw [hs, Option.bind_some, ht, Option.bind_some, hv, Option.bind_some]
    dsimp only
    rw [hj]
    by_cases c0 : v = 0
    · rw [if_pos c0]; exact ⟨_, _, _, by omega, by omega, rfl⟩
    rw [if_neg c0]
    by_cases c1 : v = 1
    · rw [if_pos c1]; exact ⟨_, _, _, by omega, by omega, rfl⟩
    rw [if_neg c1]
    by_cases c2 : v = 2
    · rw [if_pos c2]
      by_cases c3 : t.toList = ([97] : List UInt8)
      · rw [if_pos c3]; exact ⟨_, _, _, by omega, by omega, rfl⟩
      · rw [if_neg c3]; exact ⟨_, _, _, by omega, by omega, rfl⟩
    · rw [if_neg c2]; exact ⟨_, _, _, by omega, by omega, rfl⟩
theorem spec_DrawIntervalJoin_ok (l : List Int) (k : Nat) (hx : ∀ x ∈ l, (Lit.int .u8 x).wf = true) (hl : l.length ≤ 4294967296) (hk : 2000 ≤ k) : ∃ a b c d : ByteArray, spec_DrawIntervalJoin.f k l = some (a, b, c, d) := by
  obtain ⟨xs, h1, h2, h3⟩ := spec_l20Open_ok l hx hl
  obtain ⟨s, t, q, q0, q1, h4⟩ := spec_l20Span_ok xs 0 12 k h1 h2 (by omega) (by omega)
  obtain ⟨r, q2, _, r0, r1, h5⟩ := spec_l20Key_ok xs q 0 k h1 h2 (by omega) (by omega)
  unfold spec_DrawIntervalJoin.f
  rw [h3, Option.bind_some]
  dsimp only
  rw [h4, Option.bind_some]
  dsimp only
  rw [h5, Option.bind_some]
  dsimp only
  rw [spec_IntervalCut_eq _ _ _ k (by omega), Option.bind_some]
  by_cases c : (Th.cutI s t r).2.2.2.2 = true
  · obtain ⟨v, v0, v1, hv⟩ := spec_l20Rd_pick_ok xs q2 4 k h1 h2 (by omega) (by omega) (by omega)
    rw [if_pos c, hv, Option.bind_some]
    dsimp only
    by_cases d : v = 0
    · obtain ⟨x, y, _, _, _, h6⟩ := spec_l20Span_ok xs (q2 + 1) 12 k h1 h2 (by omega) (by omega)
      rw [if_pos d, h6]
      exact ⟨_, _, _, _, rfl⟩
    · rw [if_neg d]; exact ⟨_, _, _, _, rfl⟩
  · obtain ⟨x, y, _, _, _, h6⟩ := spec_l20Span_ok xs q2 12 k h1 h2 (by omega) (by omega)
    rw [if_neg c, h6]
    exact ⟨_, _, _, _, rfl⟩
theorem impl_IntervalJoin_eq (l1 h1 l2 h2 : ByteArray) (k : Nat) (hk : 1000 ≤ k) : impl_IntervalJoin.f k l1 h1 l2 h2 = some (Th.joinI l1 h1 l2 h2) := by
  unfold impl_IntervalJoin.f Th.joinI
  simp only [impl_IntervalValid_eq _ _ k hk, Option.bind_some]
  cases hv : Th.iv l1 h1 with
  | false => simp; rfl
  | true =>
    rw [if_pos rfl]
    cases hv2 : Th.iv l2 h2 with
    | false => simp; rfl
    | true =>
      have i1 := (Th.iv_iff l1 h1).1 hv
      rw [if_pos rfl]
      by_cases e : h1.toList = []
      · rw [if_pos e, if_neg (fun h => h.2.2.1 (Th.er_nil e))]; rfl
      · rw [if_neg e]
        by_cases e2 : h1.toList = l2.toList
        · rw [if_pos e2, if_pos ⟨rfl, rfl, fun h => e ((Th.er_eq_zero i1.2.1).1 h), Th.str_ext e2⟩]
        · rw [if_neg e2, if_neg (fun h => e2 (by rw [h.2.2.2]))]; rfl
theorem spec_IntervalJoin_eq (l1 h1 l2 h2 : ByteArray) (k : Nat) (hk : 1000 ≤ k) : spec_IntervalJoin.f k l1 h1 l2 h2 = some (Th.joinI l1 h1 l2 h2) := by
  unfold spec_IntervalJoin.f Th.joinI
  simp only [spec_IntervalValid_eq _ _ k hk, Option.bind_some]
  cases hv : Th.iv l1 h1 with
  | false => simp; rfl
  | true =>
    rw [if_pos rfl]
    cases hv2 : Th.iv l2 h2 with
    | false => simp; rfl
    | true =>
      have i1 := (Th.iv_iff l1 h1).1 hv
      rw [if_pos rfl]
      by_cases e : h1.toList = []
      · rw [if_pos e, if_neg (fun h => h.2.2.1 (Th.er_nil e))]; rfl
      · rw [if_neg e]
        by_cases e2 : h1.toList = l2.toList
        · rw [if_pos e2, if_pos ⟨rfl, rfl, fun h => e ((Th.er_eq_zero i1.2.1).1 h), Th.str_ext e2⟩]
        · rw [if_neg e2, if_neg (fun h => e2 (by rw [h.2.2.2]))]; rfl
theorem FnIntervalJoin : laws_FnIntervalJoin.Pure := by
  intro l _ hl hx
  refine ⟨5000 + 1, ?_⟩
  unfold laws_FnIntervalJoin.f
  by_cases h : (l.length : Int) > 1048576
  · rw [if_pos h]
  obtain ⟨a, b, c, d, hd⟩ := spec_DrawIntervalJoin_ok l (5000 + 1) hx (by omega) (by omega)
  rw [if_neg h, hd, Option.bind_some]
  dsimp only
  rw [impl_IntervalJoin_eq _ _ _ _ _ (by omega), Option.bind_some, spec_IntervalJoin_eq _ _ _ _ _ (by omega), Option.bind_some, if_neg (by simp), bne_self_eq_false, laws_FnIntervalJoin.j0, if_neg (by simp)]
  by_cases hc : Th.iv a b = true ∧ Th.iv c d = true ∧ Th.er b ≠ 0 ∧ b = c
  · have e : Th.joinI a b c d = (a, d, true) := by unfold Th.joinI; rw [if_pos hc]
    obtain ⟨c1, c2, c3, rfl⟩ := hc
    have i1 := (Th.iv_iff _ _).1 c1
    have i2 := (Th.iv_iff _ _).1 c2
    have c4 : Th.iv a d = true := (Th.iv_iff _ _).2 ⟨i1.1, i2.2.1, by omega⟩
    have c5 : Th.kv b = true := (Th.kv_iff _).2 ⟨i1.2.1, by omega⟩
    have e2 : Th.cutI a d b = (a, b, b, d, true) := by unfold Th.cutI; rw [if_pos ⟨c4, c5, c1, c2⟩]
    rw [e]
    dsimp only
    rw [if_pos rfl, impl_IntervalCut_eq _ _ _ _ (by omega), Option.bind_some, e2, if_pos (by simp), if_pos (by simp)]
  · have e : Th.joinI a b c d = (Th.mkS [], Th.mkS [], false) := by unfold Th.joinI; rw [if_neg hc]
    have en : ((Th.mkS []).toList == ([] : List UInt8) && (Th.mkS []).toList == ([] : List UInt8)) = true := by rw [Th.toList_mkS]; rfl
    rw [e]
    dsimp only
    rw [if_neg (by simp), if_pos en, laws_alive_eq _ (by omega)]
    rfl

end Go.Proofs.Ytgpffbijmohfjaa.Pure
