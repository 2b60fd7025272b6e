/- The plain law of FnPartitionMerge: what the printed functions compute, and that it answers true: for every input that the statement lets in. -/
import Derived.Test.YtohafpgcnknooaaPFnPartitionMergex
import Derived.Test.YtohafpgcnknooaaThA
import Derived.Test.YtohafpgcnknooaaThB
import Derived.Test.YtohafpgcnknooaaThL
import Derived.Test.YtohafpgcnknooaaThR
import Derived.Test.YtohafpgcnknooaaThD
import Derived.Test.YtohafpgcnknooaaThE
namespace Go.Proofs.Ytohafpgcnknooaa.Pure
open Go Go.RowKit Go.Proofs.Ytohafpgcnknooaa.PFnPartitionMerge Go.Proofs.YtohafpgcnknooaaW.PrintWords Go.Proofs.YtohafpgcnknooaaW.PrintLast Go.Proofs.Ytohafpgcnknooaa
set_option linter.unusedVariables false
set_option linter.unusedSimpArgs false
set_option maxRecDepth 10000
theorem impl_lettersOnly_eq : ∀ (l : List UInt8) (k : Nat), l.length < k → impl_lettersOnly.f k (Th.mkS l) = some (l.all Th.letter)
  | _, 0, h => by omega
  | [], k + 1, _ => by
    rw [impl_lettersOnly.f, if_pos (Th.toList_mkS [])]
    rfl
  | c :: l, k + 1, h => by
    have ih := impl_lettersOnly_eq l k (by simpa using h)
    have hs : (0 : Int) < ((Th.mkS (c :: l)).size : Int) := by rw [Th.size_mkS, List.length_cons]; omega
    have hx : (Th.mkS (c :: l)).extract 1 (Th.mkS (c :: l)).size = Th.mkS l := by rw [Th.extract_mkS, Th.size_mkS, List.take_length]; rfl
    have hs1 : (1 : Int) ≤ ((Th.mkS (c :: l)).size : Int) := by omega
    rw [impl_lettersOnly.f, if_neg (by rw [Th.toList_mkS]; simp), if_pos hs, if_pos hs1, hx, ih, Th.bt_zero]
    simp only [Option.bind_some, List.all_cons, Th.letter]
    by_cases h1 : (c.toNat : Int) ≥ 97
    · rw [if_pos h1, decide_eq_true (show 97 ≤ (c.toNat : Int) from h1)]
      by_cases h2 : (c.toNat : Int) ≤ 122
      · rw [if_pos h2, decide_eq_true h2]; rfl
      · rw [if_neg h2, decide_eq_false h2]; rfl
    · rw [if_neg h1, decide_eq_false (show ¬ 97 ≤ (c.toNat : Int) from h1)]; rfl
theorem impl_KeyValid_eq (s : ByteArray) (k : Nat) (hk : 1000 ≤ k) : impl_KeyValid.f k s = some (Th.kv s) := by
  obtain ⟨l, rfl⟩ := Th.mkS_surj s
  unfold impl_KeyValid.f Th.kv Th.kvL
  rw [Th.toList_mkS, Th.size_mkS]
  by_cases h1 : (l.length : Int) < 1
  · rw [if_pos h1, decide_eq_false (show ¬ 1 ≤ l.length by omega)]; rfl
  · rw [if_neg h1, decide_eq_true (show 1 ≤ l.length by omega)]
    by_cases h2 : (l.length : Int) > 4
    · rw [if_pos h2, decide_eq_false (show ¬ l.length ≤ 4 by omega)]; rfl
    · rw [if_neg h2, decide_eq_true (show l.length ≤ 4 by omega), impl_lettersOnly_eq l k (by omega)]; rfl
theorem impl_lowestKey_eq (a b : ByteArray) : impl_lowestKey.f a b = some (if a.toList = [] then Th.aK else a) := by
  unfold impl_lowestKey.f
  by_cases h : a.toList = []
  · rw [if_pos h, if_pos h]; rfl
  · rw [if_neg h, if_neg h]
theorem impl_IntervalValid_eq (lo hi : ByteArray) (k : Nat) (hk : 1000 ≤ k) : impl_IntervalValid.f k lo hi = some (Th.iv lo hi) := by
  unfold impl_IntervalValid.f
  simp only [impl_KeyValid_eq _ k hk, impl_lowestKey_eq, Option.bind_some]
  by_cases h2 : hi.toList = []
  · have e2 := Th.er_nil h2
    have k2 := Th.kv0_nil h2
    simp only [if_pos h2]
    by_cases h1 : lo.toList = []
    · rw [if_pos h1]
      congr 1
      exact ((Th.iv_iff lo hi).2 ⟨Th.kv0_nil h1, k2, .inl e2⟩).symm
    · rw [if_neg h1]
      cases hv : Th.kv lo with
      | true =>
        rw [if_pos rfl]
        congr 1
        exact ((Th.iv_iff lo hi).2 ⟨Th.kv0_of_kv hv, k2, .inl e2⟩).symm
      | false =>
        rw [if_neg (by simp)]
        congr 1
        symm
        rw [Bool.eq_false_iff]
        intro h
        have := ((Th.kv0_iff lo).1 ((Th.iv_iff lo hi).1 h).1)
        rcases this with h' | h'
        · exact h1 h'
        · rw [hv] at h'; cases h'
  · simp only [if_neg h2]
    cases hv2 : Th.kv hi with
    | false =>
      have hf : Th.iv lo hi = false := by
        rw [Bool.eq_false_iff]
        intro h
        rcases (Th.kv0_iff hi).1 ((Th.iv_iff lo hi).1 h).2.1 with h' | h'
        · exact h2 h'
        · rw [hv2] at h'; cases h'
      rw [hf]
      by_cases h1 : lo.toList = []
      · rw [if_pos h1]; simp
      · rw [if_neg h1]; cases Th.kv lo <;> simp
    | true =>
      have k2 := Th.kv0_of_kv hv2
      have p2 := Th.er_pos hv2
      by_cases h1 : lo.toList = []
      · simp only [if_pos h1, if_true]
        congr 1
        apply Th.bool_eq
        rw [show (Op.bytesLess Th.aK.toList hi.toList = true) = Th.lt Th.aK hi from rfl, Th.lt_iff (Th.kv0_of_kv Th.aK_kv) k2, Th.iv_iff, Th.aK_er, Th.er_nil h1]
        constructor
        · intro h; exact ⟨Th.kv0_nil h1, k2, .inr ⟨by omega, h⟩⟩
        · rintro ⟨_, _, h | h⟩ <;> omega
      · rw [if_neg h1]
        cases hv1 : Th.kv lo with
        | false =>
          rw [if_neg (by simp)]
          congr 1
          symm
          rw [Bool.eq_false_iff]
          intro h
          rcases (Th.kv0_iff lo).1 ((Th.iv_iff lo hi).1 h).1 with h' | h'
          · exact h1 h'
          · rw [hv1] at h'; cases h'
        | true =>
          have k1 := Th.kv0_of_kv hv1
          have p1 := Th.er_pos hv1
          simp only [if_neg h1, if_true]
          congr 1
          apply Th.bool_eq
          rw [show (Op.bytesLess lo.toList hi.toList = true) = Th.lt lo hi from rfl, Th.lt_iff k1 k2, Th.iv_iff]
          constructor
          · intro h; exact ⟨k1, k2, .inr ⟨h, by omega⟩⟩
          · rintro ⟨_, _, h | h⟩ <;> omega
theorem impl_IntervalJoin_eq (l1 h1 l2 h2 : ByteArray) (k : Nat) (hk : 1000 ≤ k) : impl_IntervalJoin.f k l1 h1 l2 h2 = some (Th.joinI l1 h1 l2 h2) := by
  unfold impl_IntervalJoin.f Th.joinI
  simp only [impl_IntervalValid_eq _ _ k hk, Option.bind_some]
  cases hv : Th.iv l1 h1 with
  | false => simp; rfl
  | true =>
    rw [if_pos rfl]
    cases hv2 : Th.iv l2 h2 with
    | false => simp; rfl
    | true =>
      have i1 := (Th.iv_iff l1 h1).1 hv
      rw [if_pos rfl]
      by_cases e : h1.toList = []
      · rw [if_pos e, if_neg (fun h => h.2.2.1 (Th.er_nil e))]; rfl
      · rw [if_neg e]
        by_cases e2 : h1.toList = l2.toList
        · rw [if_pos e2, if_pos ⟨rfl, rfl, fun h => e ((Th.er_eq_zero i1.2.1).1 h), Th.str_ext e2⟩]
        · rw [if_neg e2, if_neg (fun h => e2 (by rw [h.2.2.2]))]; rfl
theorem impl_PartitionValid_l0 (l : List S27) (hl : l.length ≤ 6) : ∀ (d i k : Nat), i + d = l.length → d + 1001 ≤ k → ∃ b, impl_PartitionValid.l0 k l l (l.length : Int) (i : Int) = some b ∧ (b = true ↔ ∀ j, i ≤ j → j < l.length → Th.stepI S27.f0 S27.f1 z27 l j)
  | _, _, 0, _, h => by omega
  | 0, i, k + 1, h, _ => by
    rw [impl_PartitionValid.l0, if_neg (by omega)]
    exact ⟨true, rfl, fun _ j h1 h2 => by omega, fun _ => rfl⟩
  | d + 1, i, k + 1, h, hk => by
    have hi : i < l.length := by omega
    obtain ⟨b, hb, hb2⟩ := impl_PartitionValid_l0 l hl d (i + 1) k (by omega) (by omega)
    have hw : wrap64 ((i : Int) + 1) = ((i + 1 : Nat) : Int) := by rw [Th.wrap_small (by omega) (by omega)]; omega
    have no : ¬ Th.stepI S27.f0 S27.f1 z27 l i → ∃ b, some false = some b ∧ (b = true ↔ ∀ j, i ≤ j → j < l.length → Th.stepI S27.f0 S27.f1 z27 l j) :=
      fun hn => ⟨false, rfl, fun h => (by cases h), fun h => absurd (h i (Nat.le_refl _) hi) hn⟩
    have go : Th.stepI S27.f0 S27.f1 z27 l i → ∃ b', some b = some b' ∧ (b' = true ↔ ∀ j, i ≤ j → j < l.length → Th.stepI S27.f0 S27.f1 z27 l j) :=
      fun hn => ⟨b, rfl, hb2.trans (Th.all_from hi hn)⟩
    rw [impl_PartitionValid.l0, if_pos (by omega), if_pos (by omega), if_pos (by omega), impl_IntervalValid_eq _ _ k (by omega), Option.bind_some, hw, hb, show rd_T27 l (i : Int) = l.getD i z27 from rfl]
    by_cases c1 : Th.iv (l.getD i z27).f0 (l.getD i z27).f1 = true
    · rw [if_pos c1]
      by_cases h0 : 0 < i
      · have hp : wrap64 ((i : Int) - 1) = ((i - 1 : Nat) : Int) := by rw [Th.wrap_small (by omega) (by omega)]; omega
        rw [if_pos (by omega), hp, if_pos (by omega), if_pos (by omega), impl_IntervalJoin_eq _ _ _ _ k (by omega), Option.bind_some, show rd_T27 l ((i - 1 : Nat) : Int) = l.getD (i - 1) z27 from rfl]
        by_cases c : Th.adj S27.f0 S27.f1 z27 l i
        · have c' := c
          unfold Th.adj at c'
          rw [if_pos c']
          exact go ⟨c1, fun _ => c⟩
        · have c' := c
          unfold Th.adj at c'
          rw [if_neg c']
          exact no (fun h => c (h.2 h0))
      · rw [if_neg (by omega)]
        exact go ⟨c1, fun h => absurd h h0⟩
    · rw [if_neg c1]
      exact no (fun h => c1 h.1)
theorem impl_PartitionValid_eq (l : List S27) (k : Nat) (hl : l.length ≤ 4294967296) (hk : 2000 ≤ k) : impl_PartitionValid.f k l = some (Th.ptv S27.f0 S27.f1 z27 l) := by
  obtain ⟨k, rfl⟩ : ∃ m, k = m + 1 := ⟨k - 1, by omega⟩
  have no : ¬ Th.PtV S27.f0 S27.f1 z27 l → impl_PartitionValid.j0 (k + 1) l true = some (Th.ptv S27.f0 S27.f1 z27 l) := by
    intro h
    have : Th.ptv S27.f0 S27.f1 z27 l = false := by
      rw [Bool.eq_false_iff]
      exact fun h' => h ((Th.ptv_iff _ _ _ _).1 h')
    rw [impl_PartitionValid.j0, if_pos rfl, this]
  unfold impl_PartitionValid.f
  by_cases h1 : (l.length : Int) < 1
  · rw [if_pos h1]; exact no (fun h => by have := h.1; omega)
  · rw [if_neg h1]
    by_cases h2 : (l.length : Int) > 6
    · rw [if_pos h2]; exact no (fun h => by have := h.1; omega)
    · have hw : wrap64 ((l.length : Int) - 1) = ((l.length - 1 : Nat) : Int) := by rw [Th.wrap_small (by omega) (by omega)]; omega
      rw [if_neg h2, if_pos (by omega), hw, show rd_T27 l 0 = l.getD 0 z27 from rfl, show rd_T27 l ((l.length - 1 : Nat) : Int) = l.getD (l.length - 1) z27 from rfl]
      by_cases c2 : (l.getD 0 z27).f0.toList = []
      · rw [if_pos c2, if_pos (by omega), if_pos (by omega)]
        by_cases c3 : (l.getD (l.length - 1) z27).f1.toList = []
        · obtain ⟨b, hb, hb2⟩ := impl_PartitionValid_l0 l (by omega) l.length 0 k (by omega) (by omega)
          rw [impl_PartitionValid.j0, if_neg (by simpa using c3)]
          rw [show ((0 : Nat) : Int) = 0 from rfl] at hb
          rw [hb]
          congr 1
          apply Th.bool_eq
          rw [hb2, Th.ptv_iff]
          constructor
          · exact fun h' => ⟨by omega, c2, c3, fun j hj => h' j (by omega) hj⟩
          · exact fun h' j _ hj => h'.2.2.2 j hj
        · rw [show ((l.getD (l.length - 1) z27).f1.toList != []) = true by simpa using c3]
          exact no (fun h => c3 h.2.2.1)
      · rw [if_neg c2]; exact no (fun h => c2 h.2.1)
theorem impl_keysFrom_eq (d k : Nat) (h1 : 1 ≤ d) (hd : d ≤ 5) (hk : 6 ≤ k) : impl_keysFrom.f k (d : Int) = some (Th.wt d) := by
  obtain ⟨k, rfl⟩ : ∃ m, k = m + 4 := ⟨k - 4, by omega⟩
  have w : wrap64 2 = 2 ∧ wrap64 3 = 3 ∧ wrap64 4 = 4 ∧ wrap64 26 = 26 ∧ wrap64 27 = 27 ∧ wrap64 702 = 702 ∧ wrap64 703 = 703 ∧ wrap64 18278 = 18278 ∧ wrap64 18279 = 18279 := ⟨Th.wrap_small (by omega) (by omega), Th.wrap_small (by omega) (by omega), Th.wrap_small (by omega) (by omega), Th.wrap_small (by omega) (by omega), Th.wrap_small (by omega) (by omega), Th.wrap_small (by omega) (by omega), Th.wrap_small (by omega) (by omega), Th.wrap_small (by omega) (by omega), Th.wrap_small (by omega) (by omega)⟩
  have hc : d = 1 ∨ d = 2 ∨ d = 3 ∨ d = 4 ∨ d = 5 := by omega
  rcases hc with rfl | rfl | rfl | rfl | rfl <;> simp [impl_keysFrom.f, w, Th.wt]
theorem impl_rankBelow_eq : ∀ (l : List UInt8) (d k : Nat), Th.okL l d → l.length + 10 ≤ k → impl_rankBelow.f k (Th.mkS l) (d : Int) = some (Th.erL l d)
  | _, _, 0, _, h => by omega
  | [], d, k + 1, _, _ => by
    rw [impl_rankBelow.f, if_pos (Th.toList_mkS [])]
    rfl
  | c :: l, d, k + 1, hok, hk => by
    obtain ⟨o1, o2, o3, o4⟩ := Th.okL_tail hok
    have hk' : l.length + 10 ≤ k := by simp only [List.length_cons] at hk; omega
    have ih := impl_rankBelow_eq l (d + 1) k o1 hk'
    have hs : (0 : Int) < ((Th.mkS (c :: l)).size : Int) := by rw [Th.size_mkS, List.length_cons]; omega
    have hx : (Th.mkS (c :: l)).extract 1 (Th.mkS (c :: l)).size = Th.mkS l := by rw [Th.extract_mkS, Th.size_mkS, List.take_length]; rfl
    have hr := Th.erL_range l (d + 1) o1
    have hw := Th.wt_pos d
    have hd : d = 1 ∨ d = 2 ∨ d = 3 ∨ d = 4 := by have := hok.2.1; omega
    have hb : wrap64 ((d : Int) + 1) = ((d + 1 : Nat) : Int) := by rw [Th.wrap_small (by omega) (by omega)]; omega
    have hc : ((c.toNat : Int) - 97) % 256 = (c.toNat : Int) - 97 := by omega
    have hs1 : (1 : Int) ≤ ((Th.mkS (c :: l)).size : Int) := by omega
    rw [impl_rankBelow.f, if_neg (by rw [Th.toList_mkS]; simp), if_pos hs, impl_keysFrom_eq d k hok.2.1 (by omega) (by omega), Option.bind_some, if_pos hs1, hx, hb, ih, Th.bt_zero, hc]
    simp only [Option.bind_some, Th.erL]
    have key : ∀ x : Int, 0 ≤ x → x ≤ 25 → ∀ y : Int, 0 ≤ y → y ≤ 475254 → wrap64 (wrap64 (1 + wrap64 (x * Th.wt d)) + y) = 1 + x * Th.wt d + y := by
      intro x hx0 hx1 y hy0 hy1
      have : 0 ≤ x * Th.wt d ∧ x * Th.wt d ≤ 456975 := by
        rcases hd with rfl | rfl | rfl | rfl <;> simp only [Th.wt] <;> omega
      rw [Th.wrap_small (x := x * Th.wt d) (by omega) (by omega), Th.wrap_small (x := 1 + x * Th.wt d) (by omega) (by omega), Th.wrap_small (by omega) (by omega)]
    rw [key _ (by omega) (by omega) _ hr.1 (by rcases hd with rfl | rfl | rfl | rfl <;> simp only [Th.wt] at hr <;> omega)]
theorem impl_KeyRank_eq (s : ByteArray) (k : Nat) (hk : 1000 ≤ k) : impl_KeyRank.f k s = some (Th.krank s) := by
  unfold impl_KeyRank.f Th.krank
  rw [impl_KeyValid_eq s k hk, Option.bind_some]
  by_cases h : Th.kv s = true
  · rw [if_pos h, if_pos h]
    have h0 := Th.kv0_of_kv h
    have hr := Th.er_range h0
    have := impl_rankBelow_eq s.toList 1 k h0 (by have := h0.1; omega)
    rw [Th.mkS_toList, show ((1 : Nat) : Int) = 1 from rfl] at this
    rw [this, Option.bind_some]
    show some (wrap64 (Th.er s - 1)) = _
    rw [Th.wrap_small (by omega) (by omega)]
  · rw [if_neg h, if_neg h]
theorem laws_alive_eq (k : Nat) (hk : 2000 ≤ k) : laws_alive.f k = some true := by
  unfold laws_alive.f
  rw [impl_KeyRank_eq _ k (by omega), Option.bind_some, impl_KeyRank_eq _ k (by omega), Option.bind_some]
  have e1 : Th.krank (⟨#[97, 97]⟩ : ByteArray) = 1 := by
    show Th.krank (Th.mkS [97, 97]) = 1
    unfold Th.krank Th.kv Th.er
    rw [Th.toList_mkS]
    decide
  have e2 : Th.krank (⟨#[]⟩ : ByteArray) = -1 := by
    show Th.krank (Th.mkS []) = -1
    unfold Th.krank Th.kv Th.er
    rw [Th.toList_mkS]
    decide
  rw [e1, if_pos rfl, e2]
  rfl
theorem laws_sameSpans_l0 (A : List S27) (hl : A.length ≤ 100) : ∀ (d i k : Nat), i + d = A.length → d < k → laws_sameSpans.l0 k A A (i : Int) = some true
  | _, _, 0, _, h => by omega
  | 0, i, k + 1, h, _ => by rw [laws_sameSpans.l0, if_neg (by omega)]
  | d + 1, i, k + 1, h, hk => by
    have ih := laws_sameSpans_l0 A hl d (i + 1) k (by omega) (by omega)
    have hw : wrap64 ((i : Int) + 1) = ((i + 1 : Nat) : Int) := by rw [Th.wrap_small (by omega) (by omega)]; omega
    rw [laws_sameSpans.l0, if_pos (by omega), if_pos (by omega), if_pos (by omega), if_neg (by simp), hw, ih]
theorem laws_sameSpans_eq (A : List S27) (hl : A.length ≤ 100) (k : Nat) (hk : 200 ≤ k) : laws_sameSpans.f k A A = some true := by
  unfold laws_sameSpans.f
  rw [if_pos rfl]
  exact laws_sameSpans_l0 A hl A.length 0 k (by omega) (by omega)
theorem laws_sameSpans_nil (A : List S27) (k : Nat) (hk : 200 ≤ k) : ∃ b, laws_sameSpans.f k [] A = some b := by
  obtain ⟨k, rfl⟩ : ∃ m, k = m + 1 := ⟨k - 1, by omega⟩
  unfold laws_sameSpans.f
  by_cases c : (([] : List S27).length : Int) = (A.length : Int)
  · rw [if_pos c, laws_sameSpans.l0, if_neg (by simp)]; exact ⟨_, rfl⟩
  · rw [if_neg c]; exact ⟨_, rfl⟩
theorem spec_l1In_eq (a b c : Int) : spec_l1In.f a b c = some (decide (b ≤ a) && decide (a ≤ c)) := by
  unfold spec_l1In.f
  by_cases h : a ≥ b
  · rw [if_pos h, decide_eq_true (show b ≤ a from h), Bool.true_and]
  · rw [if_neg h, decide_eq_false (show ¬ b ≤ a from h), Bool.false_and]
theorem spec_KeyValid_l0 (l : List UInt8) (hl : l.length ≤ 4) : ∀ (d i k : Nat), i + d = l.length → d < k → spec_KeyValid.l0 k (Th.mkS l) (i : Int) = some ((l.drop i).all Th.letter)
  | _, _, 0, _, h => by omega
  | 0, i, k + 1, h, _ => by
    rw [spec_KeyValid.l0, if_neg (by rw [Th.size_mkS]; omega), List.drop_of_length_le (by omega)]; rfl
  | d + 1, i, k + 1, h, hk => by
    have ih := spec_KeyValid_l0 l hl d (i + 1) k (by omega) (by omega)
    have hi : i < l.length := by omega
    rw [spec_KeyValid.l0, if_pos (by rw [Th.size_mkS]; omega), if_pos (by omega), Th.bt_mkS l i hi, Th.wrap_small (by omega) (by omega), show ((i : Int) + 1) = ((i + 1 : Nat) : Int) by omega, ih, List.drop_eq_getElem_cons hi, List.all_cons]
    simp only [Th.letter]
    by_cases h1 : ((l[i]'hi).toNat : Int) < 97
    · rw [if_pos h1, decide_eq_false (show ¬ 97 ≤ ((l[i]'hi).toNat : Int) by omega)]; rfl
    · rw [if_neg h1, decide_eq_true (show 97 ≤ ((l[i]'hi).toNat : Int) by omega)]
      by_cases h2 : ((l[i]'hi).toNat : Int) > 122
      · rw [if_pos h2, decide_eq_false (show ¬ ((l[i]'hi).toNat : Int) ≤ 122 by omega)]; rfl
      · rw [if_neg h2, decide_eq_true (show ((l[i]'hi).toNat : Int) ≤ 122 by omega)]; rfl
theorem spec_KeyValid_eq (s : ByteArray) (k : Nat) (hk : 1000 ≤ k) : spec_KeyValid.f k s = some (Th.kv s) := by
  obtain ⟨l, rfl⟩ := Th.mkS_surj s
  unfold spec_KeyValid.f Th.kv Th.kvL
  rw [spec_l1In_eq, Th.toList_mkS, Th.size_mkS, Option.bind_some]
  by_cases h : 1 ≤ l.length ∧ l.length ≤ 4
  · have h0 := spec_KeyValid_l0 l h.2 l.length 0 k (by omega) (by omega)
    rw [show ((0 : Nat) : Int) = 0 from rfl] at h0
    rw [decide_eq_true (show (1 : Int) ≤ (l.length : Int) by omega), decide_eq_true (show (l.length : Int) ≤ 4 by omega), decide_eq_true h.1, decide_eq_true h.2, h0]
    rfl
  · by_cases h1 : 1 ≤ l.length
    · rw [decide_eq_false (show ¬ (l.length : Int) ≤ 4 by omega), decide_eq_false (show ¬ l.length ≤ 4 by omega)]; simp
    · rw [decide_eq_false (show ¬ (1 : Int) ≤ (l.length : Int) by omega), decide_eq_false h1]; simp
theorem spec_IntervalValid_eq (lo hi : ByteArray) (k : Nat) (hk : 1000 ≤ k) : spec_IntervalValid.f k lo hi = some (Th.iv lo hi) := by
  unfold spec_IntervalValid.f
  simp only [spec_KeyValid_eq _ k hk, Option.bind_some]
  by_cases h2 : hi.toList = []
  · have e2 := Th.er_nil h2
    have k2 := Th.kv0_nil h2
    simp only [if_pos h2]
    by_cases h1 : lo.toList = []
    · rw [if_pos h1]
      congr 1
      exact ((Th.iv_iff lo hi).2 ⟨Th.kv0_nil h1, k2, .inl e2⟩).symm
    · rw [if_neg h1]
      cases hv : Th.kv lo with
      | true =>
        rw [if_pos rfl]
        congr 1
        exact ((Th.iv_iff lo hi).2 ⟨Th.kv0_of_kv hv, k2, .inl e2⟩).symm
      | false =>
        rw [if_neg (by simp)]
        congr 1
        symm
        rw [Bool.eq_false_iff]
        intro h
        have := ((Th.kv0_iff lo).1 ((Th.iv_iff lo hi).1 h).1)
        rcases this with h' | h'
        · exact h1 h'
        · rw [hv] at h'; cases h'
  · simp only [if_neg h2]
    cases hv2 : Th.kv hi with
    | false =>
      have hf : Th.iv lo hi = false := by
        rw [Bool.eq_false_iff]
        intro h
        rcases (Th.kv0_iff hi).1 ((Th.iv_iff lo hi).1 h).2.1 with h' | h'
        · exact h2 h'
        · rw [hv2] at h'; cases h'
      rw [hf]
      by_cases h1 : lo.toList = []
      · rw [if_pos h1]; simp
      · rw [if_neg h1]; cases Th.kv lo <;> simp
    | true =>
      have k2 := Th.kv0_of_kv hv2
      have p2 := Th.er_pos hv2
      by_cases h1 : lo.toList = []
      · have hl : Op.bytesLess lo.toList hi.toList = true := (Th.lt_iff (Th.kv0_nil h1) k2).2 (by rw [Th.er_nil h1]; omega)
        rw [if_pos h1, if_pos rfl, if_pos hl]
        congr 1
        apply Th.bool_eq
        rw [bne_iff_ne, Ne, Th.er_a hi k2, Th.iv_iff, Th.er_nil h1]
        constructor
        · intro h; exact ⟨Th.kv0_nil h1, k2, .inr ⟨by omega, by omega⟩⟩
        · rintro ⟨_, _, h | h⟩ <;> omega
      · rw [if_neg h1]
        cases hv1 : Th.kv lo with
        | false =>
          rw [if_neg (by simp)]
          congr 1
          symm
          rw [Bool.eq_false_iff]
          intro h
          rcases (Th.kv0_iff lo).1 ((Th.iv_iff lo hi).1 h).1 with h' | h'
          · exact h1 h'
          · rw [hv1] at h'; cases h'
        | true =>
          have k1 := Th.kv0_of_kv hv1
          have p1 := Th.er_pos hv1
          rw [if_pos rfl, if_pos rfl]
          by_cases hl : Th.lt lo hi
          · have hl' := (Th.lt_iff k1 k2).1 hl
            rw [if_pos hl]
            congr 1
            exact ((Th.iv_iff lo hi).2 ⟨k1, k2, .inr ⟨hl', by omega⟩⟩).symm
          · have hl' : ¬ Th.er lo < Th.er hi := fun h => hl ((Th.lt_iff k1 k2).2 h)
            rw [if_neg hl]
            congr 1
            symm
            rw [Bool.eq_false_iff]
            intro h
            rcases ((Th.iv_iff lo hi).1 h).2.2 with h | h <;> omega
theorem spec_IntervalJoin_eq (l1 h1 l2 h2 : ByteArray) (k : Nat) (hk : 1000 ≤ k) : spec_IntervalJoin.f k l1 h1 l2 h2 = some (Th.joinI l1 h1 l2 h2) := by
  unfold spec_IntervalJoin.f Th.joinI
  simp only [spec_IntervalValid_eq _ _ k hk, Option.bind_some]
  cases hv : Th.iv l1 h1 with
  | false => simp; rfl
  | true =>
    rw [if_pos rfl]
    cases hv2 : Th.iv l2 h2 with
    | false => simp; rfl
    | true =>
      have i1 := (Th.iv_iff l1 h1).1 hv
      rw [if_pos rfl]
      by_cases e : h1.toList = []
      · rw [if_pos e, if_neg (fun h => h.2.2.1 (Th.er_nil e))]; rfl
      · rw [if_neg e]
        by_cases e2 : h1.toList = l2.toList
        · rw [if_pos e2, if_pos ⟨rfl, rfl, fun h => e ((Th.er_eq_zero i1.2.1).1 h), Th.str_ext e2⟩]
        · rw [if_neg e2, if_neg (fun h => e2 (by rw [h.2.2.2]))]; rfl
theorem spec_PartitionValid_l0 (l : List S27) (hl : l.length ≤ 6) : ∀ (d i k : Nat), i + d = l.length → 1 ≤ i → d + 1001 ≤ k → ∃ b, spec_PartitionValid.l0 k l (i : Int) = some b ∧ (b = true ↔ ∀ j, i ≤ j → j < l.length → Th.adj S27.f0 S27.f1 z27 l j)
  | _, _, 0, _, _, h => by omega
  | 0, i, k + 1, h, _, _ => by
    rw [spec_PartitionValid.l0, if_neg (by omega)]
    exact ⟨true, rfl, fun _ j h1 h2 => by omega, fun _ => rfl⟩
  | d + 1, i, k + 1, h, h1, hk => by
    have hi : i < l.length := by omega
    obtain ⟨b, hb, hb2⟩ := spec_PartitionValid_l0 l hl d (i + 1) k (by omega) (by omega) (by omega)
    have hw : wrap64 ((i : Int) + 1) = ((i + 1 : Nat) : Int) := by rw [Th.wrap_small (by omega) (by omega)]; omega
    have hp : wrap64 ((i : Int) - 1) = ((i - 1 : Nat) : Int) := by rw [Th.wrap_small (by omega) (by omega)]; omega
    rw [spec_PartitionValid.l0, if_pos (by omega), hp, if_pos (by omega), if_pos (by omega), if_pos (by omega), spec_IntervalJoin_eq _ _ _ _ k (by omega), Option.bind_some, hw, hb, show rd_T27 l (i : Int) = l.getD i z27 from rfl, show rd_T27 l ((i - 1 : Nat) : Int) = l.getD (i - 1) z27 from rfl]
    by_cases c : Th.adj S27.f0 S27.f1 z27 l i
    · have c' := c
      unfold Th.adj at c'
      rw [if_pos c']
      exact ⟨b, rfl, hb2.trans (Th.all_from hi c)⟩
    · have c' := c
      unfold Th.adj at c'
      rw [if_neg c']
      exact ⟨false, rfl, fun h => (by cases h), fun h => absurd (h i (Nat.le_refl _) hi) c⟩
theorem spec_PartitionValid_eq (l : List S27) (k : Nat) (hl : l.length ≤ 4294967296) (hk : 2000 ≤ k) : spec_PartitionValid.f k l = some (Th.ptv S27.f0 S27.f1 z27 l) := by
  obtain ⟨k, rfl⟩ : ∃ m, k = m + 1 := ⟨k - 1, by omega⟩
  have no : ¬ Th.PtV S27.f0 S27.f1 z27 l → spec_PartitionValid.j0 (k + 1) l true = some (Th.ptv S27.f0 S27.f1 z27 l) := by
    intro h
    have : Th.ptv S27.f0 S27.f1 z27 l = false := by
      rw [Bool.eq_false_iff]
      exact fun h' => h ((Th.ptv_iff _ _ _ _).1 h')
    rw [spec_PartitionValid.j0, if_pos rfl, this]
  unfold spec_PartitionValid.f
  rw [spec_l1In_eq, Option.bind_some]
  by_cases h : 1 ≤ (l.length : Int) ∧ (l.length : Int) ≤ 6
  · have hw : wrap64 ((l.length : Int) - 1) = ((l.length - 1 : Nat) : Int) := by rw [Th.wrap_small (by omega) (by omega)]; omega
    rw [decide_eq_true h.1, decide_eq_true h.2, if_pos (by rfl), if_pos (by omega), spec_IntervalValid_eq _ _ (k + 1) (by omega), Option.bind_some, hw, show rd_T27 l 0 = l.getD 0 z27 from rfl, show rd_T27 l ((l.length - 1 : Nat) : Int) = l.getD (l.length - 1) z27 from rfl]
    by_cases c1 : Th.iv (l.getD 0 z27).f0 (l.getD 0 z27).f1 = true
    · rw [if_pos c1]
      by_cases c2 : (l.getD 0 z27).f0.toList = []
      · rw [if_pos c2, if_pos (by omega), if_pos (by omega)]
        by_cases c3 : (l.getD (l.length - 1) z27).f1.toList = []
        · obtain ⟨b, hb, hb2⟩ := spec_PartitionValid_l0 l (by omega) (l.length - 1) 1 k (by omega) (by omega) (by omega)
          rw [spec_PartitionValid.j0, if_neg (by simpa using c3)]
          rw [show ((1 : Nat) : Int) = 1 from rfl] at hb
          rw [hb]
          congr 1
          apply Th.bool_eq
          rw [hb2, Th.ptv_iff]
          constructor
          · exact fun h' => ⟨by omega, c2, c3, (Th.step_of_adj _ _ _ l c1 _).1 h' (by omega)⟩
          · exact fun h' => (Th.step_of_adj _ _ _ l c1 _).2 (fun _ => h'.2.2.2)
        · rw [show ((l.getD (l.length - 1) z27).f1.toList != []) = true by simpa using c3]
          exact no (fun h => c3 h.2.2.1)
      · rw [if_neg c2]; exact no (fun h => c2 h.2.1)
    · rw [if_neg c1]; exact no (fun h' => c1 (h'.2.2.2 0 (by omega)).1)
  · rw [if_neg (by simp only [Bool.and_eq_true, decide_eq_true_eq]; exact h)]
    exact no (fun h' => h (by have := h'.1; omega))
theorem spec_PartitionOf_l0 (l : List ByteArray) (hl : l.length ≤ 4294967296) : ∀ (d i k : Nat), i + d = l.length → i ≤ 6 → (7 - i) + 3001 ≤ k → spec_PartitionOf.l0 k l (Th.parts S27.mk (Th.mkS []) (l.take i)) (i : Int) = some (Th.ofI S27.f0 S27.f1 z27 S27.mk l)
  | _, _, 0, _, _, h => by omega
  | 0, i, k + 1, h, h6, hk => by
    have hp := Th.parts_len S27.mk l (Th.mkS [])
    rw [spec_PartitionOf.l0, if_neg (by omega), List.take_of_length_le (by omega), spec_PartitionValid_eq _ k (by omega) (by omega), Option.bind_some]
    unfold Th.ofI
    by_cases c : Th.ptv S27.f0 S27.f1 z27 (Th.parts S27.mk (Th.mkS []) l) = true
    · rw [if_pos c, if_pos c]
    · rw [if_neg c, if_neg c]
  | d + 1, i, k + 1, h, h6, hk => by
    have hi : i < l.length := by omega
    have hp : (Th.parts S27.mk (Th.mkS []) (l.take i)).length = i + 1 := by rw [Th.parts_len, List.length_take]; omega
    have hw : wrap64 ((i : Int) + 1) = ((i + 1 : Nat) : Int) := by rw [Th.wrap_small (by omega) (by omega)]; omega
    rw [spec_PartitionOf.l0, if_pos (by omega), hp]
    by_cases c : i ≤ 5
    · have hn : wrap64 (((i + 1 : Nat) : Int) - 1) = ((i : Nat) : Int) := by rw [Th.wrap_small (by omega) (by omega)]; omega
      have ih := spec_PartitionOf_l0 l hl d (i + 1) k (by omega) (by omega) (by omega)
      have sn := Th.parts_snoc S27.f0 S27.mk (fun _ _ => rfl) z27 (l.take i) (Th.mkS []) (l.getD i ByteArray.empty)
      rw [show (l.take i).length = i by rw [List.length_take]; omega] at sn
      have tk : l.take (i + 1) = l.take i ++ [l.getD i ByteArray.empty] := by rw [List.take_succ_eq_append_getElem hi, Th.getD_at _ l i hi]
      rw [tk, sn] at ih
      rw [if_pos (by omega), if_pos (by omega), hn, if_pos (by omega), if_pos (by omega), Option.bind_some, if_pos (by rw [List.length_set]; omega), hw, Int.toNat_natCast]
      exact ih
    · have hp' : ¬ Th.ptv S27.f0 S27.f1 z27 (Th.parts S27.mk (Th.mkS []) (l.take i)) = true := by
        intro h'
        have := ((Th.ptv_iff _ _ _ _).1 h').1.2
        omega
      rw [if_neg (by omega), spec_PartitionValid_eq _ k (by omega) (by omega), Option.bind_some, if_neg hp', Th.ofI_long _ _ _ _ _ (by omega)]
theorem spec_PartitionOf_eq (l : List ByteArray) (k : Nat) (hl : l.length ≤ 4294967296) (hk : 4000 ≤ k) : spec_PartitionOf.f k l = some (Th.ofI S27.f0 S27.f1 z27 S27.mk l) := by
  unfold spec_PartitionOf.f
  exact spec_PartitionOf_l0 l hl l.length 0 k (by omega) (by omega) (by omega)
theorem spec_l20Rd_pick_ok (xs : List Int) (p n : Int) (k : Nat) (hx : ∀ x ∈ xs, 0 ≤ x ∧ x ≤ 255) (hl : xs.length ≤ 4294967296) (hp : 0 ≤ p ∧ p ≤ 100000000) (hn : 1 ≤ n) (hk : 1 ≤ k) : ∃ v, 0 ≤ v ∧ v < n ∧ spec_l20Rd_pick.f k xs p n = some (v, p + 1) := by
  obtain ⟨k, rfl⟩ : ∃ m, k = m + 1 := ⟨k - 1, by omega⟩
  have w1 : wrap64 (p + 1) = p + 1 := Th.wrap_small (by omega) (by omega)
  have w2 : wrap64 (p + 1 - 1) = p := by rw [Th.wrap_small (by omega) (by omega)]; omega
  unfold spec_l20Rd_pick.f
  rw [if_neg (by omega), w1, spec_l20Rd_pick.j0]
  by_cases e : (xs.length : Int) = 0
  · rw [show ((xs.length : Int) == 0) = true by simpa using e, if_pos rfl]
    exact ⟨0, by omega, by omega, rfl⟩
  · rw [show ((xs.length : Int) == 0) = false by simpa using e, if_neg (by simp), w2]
    by_cases c : p < (xs.length : Int)
    · rw [if_pos c, if_pos (by omega), if_neg (by omega)]
      have h := Th.rd_u8 xs hx p
      rw [Th.wrap_small (x := rd xs p) (by omega) (by omega)]
      exact ⟨_, Int.tmod_nonneg _ h.1, Int.tmod_lt_of_pos _ (by omega), rfl⟩
    · have hL : (0 : Int) < xs.length := by omega
      have t1 : 0 ≤ Int.tmod p (xs.length : Int) := Int.tmod_nonneg _ hp.1
      have t2 : Int.tmod p (xs.length : Int) < (xs.length : Int) := Int.tmod_lt_of_pos _ hL
      have w3 : wrap64 (wrap64 (p * 7) + 3) = p * 7 + 3 := by rw [Th.wrap_small (x := p * 7) (by omega) (by omega), Th.wrap_small (by omega) (by omega)]
      have t3 : 0 ≤ Int.tmod (p * 7 + 3) (xs.length : Int) := Int.tmod_nonneg _ (by omega)
      have t4 : Int.tmod (p * 7 + 3) (xs.length : Int) < (xs.length : Int) := Int.tmod_lt_of_pos _ hL
      have hd : 0 ≤ Int.tdiv p (xs.length : Int) ∧ Int.tdiv p (xs.length : Int) ≤ 1000000000 := by
        rw [Int.tdiv_eq_ediv_of_nonneg hp.1]
        refine ⟨Int.ediv_nonneg hp.1 (by omega), ?_⟩
        have : p / (xs.length : Int) ≤ p := Int.ediv_le_self _ hp.1
        omega
      have hv := Th.pick_val (rd xs (Int.tmod p (xs.length : Int))) (rd xs (Int.tmod (p * 7 + 3) (xs.length : Int))) p (Int.tdiv p (xs.length : Int)) (Th.rd_u8 xs hx _) (Th.rd_u8 xs hx _) ⟨hp.1, by omega⟩ hd
      rw [if_neg c, if_neg e, if_pos t1, if_pos t2, w3, if_pos t3, if_pos t4, if_neg (by omega)]
      exact ⟨_, Int.tmod_nonneg _ hv, Int.tmod_lt_of_pos _ (by omega), rfl⟩
theorem spec_l20Rd_odd_ok (xs : List Int) (p n : Int) (k : Nat) (hx : ∀ x ∈ xs, 0 ≤ x ∧ x ≤ 255) (hl : xs.length ≤ 4294967296) (hp : 0 ≤ p ∧ p ≤ 100000000) (hk : 1 ≤ k) : ∃ b q, p ≤ q ∧ q ≤ p + 1 ∧ spec_l20Rd_odd.f k xs p n = some (b, q) := by
  unfold spec_l20Rd_odd.f
  by_cases h : n > 0
  · obtain ⟨v, _, _, hv⟩ := spec_l20Rd_pick_ok xs p n k hx hl hp (by omega) hk
    rw [if_pos h, hv]
    exact ⟨_, p + 1, by omega, by omega, rfl⟩
  · rw [if_neg h]
    exact ⟨_, p, by omega, by omega, rfl⟩
theorem spec_l1Weight_eq (d : Nat) (h : d ≤ 4) : spec_l1Weight.f (d : Int) = some (Th.wt (d + 1)) := by
  have hc : d = 0 ∨ d = 1 ∨ d = 2 ∨ d = 3 ∨ d = 4 := by omega
  rcases hc with rfl | rfl | rfl | rfl | rfl <;> rfl
theorem spec_KeyAt_l0 : ∀ (f : Nat) (n : Int) (d k : Nat) (p : List UInt8), f + d = 3 → 0 ≤ n → n + 1 ≤ 26 * Th.wt (d + 1) → p.length ≤ d → f < k → spec_KeyAt.l0 k n (Th.mkS p) (d : Int) = some (Th.mkS (p ++ Th.keyL (f + 1) (n + 1) (d + 1)))
  | _, _, _, 0, _, _, _, _, _, h => by omega
  | f, n, d, k + 1, p, hf, h0, hn, hp, hk => by
    have hd4 : (d : Int) < 4 := by omega
    have hdn : d ≤ 4 := by omega
    obtain ⟨q0, q1, m0, m1, nb, wb, mz, ws⟩ := Th.div_facts (d := d + 1) (by omega) (by omega) h0 hn
    have hw := Th.wt_pos (d + 1)
    have hne : ¬ Th.wt (d + 1) = 0 := by omega
    have hb : wrap64 ((d : Int) + 1) = ((d + 1 : Nat) : Int) := by rw [Th.wrap_small (by omega) (by omega)]; omega
    have e2 : Int.tmod n (Th.wt (d + 1)) = n % Th.wt (d + 1) := Int.tmod_eq_emod_of_nonneg h0
    have e3 : Int.tdiv n (Th.wt (d + 1)) = n / Th.wt (d + 1) := Int.tdiv_eq_ediv_of_nonneg h0
    have hkl : Th.keyL (f + 1) (n + 1) (d + 1) = Th.chr (n / Th.wt (d + 1)) :: Th.keyL f (n % Th.wt (d + 1)) (d + 1 + 1) := by
      rw [Th.keyL, if_neg (show ¬ n + 1 = 0 from fun h => by clear e2 e3; omega), show n + 1 - 1 = n from Int.add_sub_cancel n 1]
    rw [spec_KeyAt.l0, if_pos hd4, spec_l1Weight_eq d hdn, hkl, hb]
    simp only [Option.bind_some]
    rw [if_neg hne, e2, e3]
    clear e2 e3 hkl hb hd4 hne hn
    generalize n / Th.wt (d + 1) = q at *
    generalize n % Th.wt (d + 1) = m at *
    generalize Th.wt (d + 1) = W at *
    have e4 : wrap64 (97 + wrap64 q) % 256 = ((97 + q).toNat : Int) := by
      rw [Th.wrap_small (x := q) (by omega) (by omega), Th.wrap_small (by omega) (by omega)]
      omega
    have he : strOfNums [((97 + q).toNat : Int)] = Th.mkS [Th.chr q] := Th.strOfNums_one _
    have hsz : (Th.mkS p).size + (Th.mkS [Th.chr q]).size ≤ 9223372036854775807 := by
      rw [Th.size_mkS, Th.size_mkS]
      simp only [List.length_cons, List.length_nil]
      omega
    rw [e4, he, if_pos hsz, if_neg (by omega), Th.append_mkS]
    clear e4 he hsz
    by_cases hz : m = 0
    · rw [if_pos hz, hz]
      cases f with
      | zero => rfl
      | succ f => rw [Th.keyL, if_pos rfl]
    · rw [if_neg hz]
      cases f with
      | zero => exact absurd (mz (by omega)) hz
      | succ f =>
        have hws := ws (by omega)
        have ih := spec_KeyAt_l0 f (m - 1) (d + 1) k (p ++ [Th.chr q]) (by omega) (by omega) (by omega) (by simp only [List.length_append, List.length_cons, List.length_nil]; omega) (by omega)
        rw [Th.wrap_small (by omega) (by omega), ih, show m - 1 + 1 = m by omega, List.append_assoc]
        rfl
theorem spec_KeyAt_eq (n : Int) (k : Nat) (hk : 1000 ≤ k) : spec_KeyAt.f k n = some (Th.kat n) := by
  unfold spec_KeyAt.f Th.kat
  rw [spec_l1In_eq, Option.bind_some]
  by_cases h : 0 ≤ n ∧ n ≤ 475253
  · have := spec_KeyAt_l0 3 n 0 k [] (by omega) h.1 (by simp only [Th.wt]; omega) (by simp) (by omega)
    rw [show ((0 : Nat) : Int) = 0 from rfl] at this
    rw [decide_eq_true h.1, decide_eq_true h.2, if_pos h]
    simp only [Bool.and_self, if_true]
    rw [Th.mkS_nil, this]
    rfl
  · rw [if_neg h, if_neg]
    · rfl
    · simp only [Bool.and_eq_true, decide_eq_true_eq]
      exact h
theorem spec_l20Rd_odd_no (xs : List Int) (p n : Int) (k : Nat) (h : ¬ n > 0) : spec_l20Rd_odd.f k xs p n = some (false, p) := by
  unfold spec_l20Rd_odd.f
  rw [if_neg h]
theorem spec_l20Bounds_l0 (xs : List Int) (n : Int) (hx : ∀ x ∈ xs, 0 ≤ x ∧ x ≤ 255) (hl : xs.length ≤ 4294967296) : ∀ (d k : Nat) (o : List ByteArray) (a p : Int), d + 1001 ≤ k → 0 ≤ p → p + 2 * d ≤ 80000000 → 1 ≤ a → a + 65026 * d ≤ 400000 → o.length + d ≤ 100 → Th.asc 1 o → (∀ b ∈ o, Th.er b ≤ a) → ∃ bs q, p ≤ q ∧ q ≤ p + 2 * d + 2 ∧ bs.length ≤ o.length + d + 2 ∧ (¬ n > 0 → Th.asc 1 bs ∧ bs.length ≤ o.length + d) ∧ spec_l20Bounds.l0 k n o a (d : Int) xs p = some (bs, q)
  | _, 0, _, _, _, h, _, _, _, _, _, _, _ => by omega
  | 0, k + 1, o, a, p, hk, h0, hp, ha, ha', ho, hs, hb => by
    rw [spec_l20Bounds.l0, if_neg (by omega)]
    by_cases hn : n > 0
    · obtain ⟨b, q, q0, q1, hb⟩ := spec_l20Rd_odd_ok xs p n k hx hl (by omega) (by omega)
      rw [hb, Option.bind_some]
      cases b with
      | false => exact ⟨o, q, q0, by omega, by omega, fun h => absurd hn h, by rw [if_neg (by simp)]⟩
      | true =>
        obtain ⟨v, v0, v1, hv⟩ := spec_l20Rd_pick_ok xs q 4 k hx hl (by omega) (by omega) (by omega)
        dsimp only
        rw [if_pos rfl, Option.bind_some, hv, Option.bind_some]
        dsimp only
        rw [if_pos v0, if_pos (by simp only [List.length_cons, List.length_nil]; omega), Option.bind_some, if_pos (by simp only [List.length_cons, List.length_nil]; omega)]
        exact ⟨_, q + 1, by omega, by omega, by rw [List.length_append]; simp only [List.length_cons, List.length_nil]; omega, fun h => absurd hn h, rfl⟩
    · rw [spec_l20Rd_odd_no _ _ _ _ hn, Option.bind_some]
      exact ⟨o, p, by omega, by omega, by omega, fun _ => ⟨hs, by omega⟩, by rw [if_neg (by simp)]⟩
  | d + 1, k + 1, o, a, p, hk, h0, hp, ha, ha', ho, hs, hb => by
    obtain ⟨u, u0, u1, hu⟩ := spec_l20Rd_pick_ok xs p 256 k hx hl (by omega) (by omega) (by omega)
    obtain ⟨v, v0, v1, hv⟩ := spec_l20Rd_pick_ok xs (p + 1) 256 k hx hl (by omega) (by omega) (by omega)
    have m0 : 0 ≤ u * v := Int.mul_nonneg u0 v0
    have m1 : u * v ≤ 255 * 255 := Int.mul_le_mul (by omega) (by omega) v0 (by omega)
    have e : Th.kat a = Th.keyOf (a + 1) := by unfold Th.kat; rw [if_pos (by omega)]
    have g1 := Th.keyOf_ok (n := a + 1) (by omega) (by omega)
    have g2 := Th.keyOf_kv (n := a + 1) (by omega) (by omega)
    have hw : wrap64 (((d + 1 : Nat) : Int) - 1) = (d : Int) := by rw [Th.wrap_small (by omega) (by omega)]; omega
    have hw2 : wrap64 (wrap64 (a + 1) + wrap64 (u * v)) = a + 1 + u * v := by
      rw [Th.wrap_small (x := a + 1) (by omega) (by omega), Th.wrap_small (x := u * v) (by omega) (by omega), Th.wrap_small (by omega) (by omega)]
    obtain ⟨bs, q, q0, q1, hbl, hbs, hr⟩ := spec_l20Bounds_l0 xs n hx hl d k (o ++ [Th.keyOf (a + 1)]) (a + 1 + u * v) (p + 1 + 1) (by omega) (by omega) (by omega) (by omega) (by omega) (by rw [List.length_append]; simp only [List.length_cons, List.length_nil]; omega)
      (Th.asc_insert _ g2 [] (by simp) o 1 (by omega) (fun b hb' => by have := hb b hb'; omega) (by rw [List.append_nil]; exact hs))
      (fun b hb' => by
        rcases List.mem_append.1 hb' with h | h
        · have := hb b h; omega
        · rw [List.mem_singleton.1 h]; omega)
    rw [List.length_append] at hbl hbs
    simp only [List.length_cons, List.length_nil] at hbl hbs
    rw [spec_l20Bounds.l0, if_pos (by omega), spec_KeyAt_eq _ k (by omega), Option.bind_some, if_pos (by omega), hu, Option.bind_some]
    dsimp only
    rw [hv, Option.bind_some]
    dsimp only
    rw [hw, hw2, e, hr]
    exact ⟨bs, q, by omega, by omega, by omega, fun h => ⟨(hbs h).1, by have := (hbs h).2; omega⟩, rfl⟩
theorem spec_l20Bounds_ok (xs : List Int) (p n : Int) (k : Nat) (hx : ∀ x ∈ xs, 0 ≤ x ∧ x ≤ 255) (hl : xs.length ≤ 4294967296) (hp : 0 ≤ p ∧ p ≤ 70000000) (hk : 2000 ≤ k) : ∃ bs q, p ≤ q ∧ q ≤ p + 20 ∧ bs.length ≤ 7 ∧ (¬ n > 0 → Th.asc 1 bs ∧ bs.length ≤ 5) ∧ spec_l20Bounds.f k xs p n = some (bs, q) := by
  obtain ⟨u, u0, u1, hu⟩ := spec_l20Rd_pick_ok xs p 200 k hx hl (by omega) (by omega) (by omega)
  obtain ⟨v, v0, v1, hv⟩ := spec_l20Rd_pick_ok xs (p + 1) 6 k hx hl (by omega) (by omega) (by omega)
  obtain ⟨bs, q, q0, q1, h1, h2, h3⟩ := spec_l20Bounds_l0 xs n hx hl v.toNat k [] (1 + u) (p + 1 + 1) (by omega) (by omega) (by omega) (by omega) (by omega) (by simp only [List.length_nil]; omega) trivial (by simp)
  rw [show ((v.toNat : Nat) : Int) = v by omega] at h3
  simp only [List.length_nil] at h1 h2
  unfold spec_l20Bounds.f
  rw [hu, Option.bind_some]
  dsimp only
  rw [hv, Option.bind_some, Th.wrap_small (x := 1 + u) (by omega) (by omega)]
  dsimp only
  rw [h3]
  exact ⟨bs, q, by omega, by omega, by omega, fun h => ⟨(h2 h).1, by have := (h2 h).2; omega⟩, rfl⟩
theorem ofMade (bs : List ByteArray) (hl : bs.length ≤ 5) (ha : Th.asc 1 bs) : Th.ofI S27.f0 S27.f1 z27 S27.mk bs = (Th.parts S27.mk (Th.mkS []) bs, true) := Th.of_parts S27.f0 S27.f1 S27.mk (fun _ _ => rfl) (fun _ _ => rfl) z27 bs hl ha
theorem spec_l20Parts_ok (xs : List Int) (p n : Int) (k : Nat) (hx : ∀ x ∈ xs, 0 ≤ x ∧ x ≤ 255) (hl : xs.length ≤ 4294967296) (hp : 0 ≤ p ∧ p ≤ 70000000) (hk : 5000 ≤ k) : ∃ l q, p ≤ q ∧ q ≤ p + 30 ∧ l.length ≤ 12 ∧ spec_l20Parts.f k xs p n = some (l, q) := by
  obtain ⟨bs, q, q0, q1, h1, h2, h3⟩ := spec_l20Bounds_ok xs p 0 k hx hl (by omega) (by omega)
  obtain ⟨ha, h5⟩ := h2 (by omega)
  obtain ⟨b, r, r0, r1, hb⟩ := spec_l20Rd_odd_ok xs q n k hx hl (by omega) (by omega)
  obtain ⟨v, v0, v1, hv⟩ := spec_l20Rd_pick_ok xs r 5 k hx hl (by omega) (by omega) (by omega)
  have hpl := Th.parts_len S27.mk bs (Th.mkS [])
  unfold spec_l20Parts.f
  rw [h3, Option.bind_some]
  dsimp only
  rw [spec_PartitionOf_eq bs k (by omega) (by omega), Option.bind_some, ofMade bs h5 ha, hb, Option.bind_some]
  dsimp only
  generalize Th.parts S27.mk (Th.mkS []) bs = A at *
  have hw : wrap64 ((A.length : Int) - 1) = (A.length : Int) - 1 := Th.wrap_small (by omega) (by omega)
  cases b with
  | false =>
    rw [if_neg (by simp)]
    exact ⟨A, r, by omega, by omega, by omega, rfl⟩
  | true =>
    rw [if_pos rfl, hv, Option.bind_some, hw]
    dsimp only
    by_cases c0 : v = 0
    · rw [if_pos c0, if_pos (by omega)]
      exact ⟨_, _, by omega, by omega, by rw [List.length_drop]; omega, rfl⟩
    rw [if_neg c0]
    by_cases c1 : v = 1
    · rw [if_pos c1, if_pos (by omega)]
      exact ⟨_, _, by omega, by omega, by rw [List.length_append]; simp only [List.length_cons, List.length_nil]; omega, rfl⟩
    rw [if_neg c1]
    by_cases c2 : v = 2
    · rw [if_pos c2, if_pos (by omega), if_pos (by omega)]
      exact ⟨_, _, by omega, by omega, by rw [List.length_set]; omega, rfl⟩
    rw [if_neg c2]
    by_cases c3 : v = 3
    · rw [if_pos c3, if_pos (by omega)]
      exact ⟨_, _, by omega, by omega, by rw [List.length_set]; omega, rfl⟩
    rw [if_neg c3, if_pos (by omega)]
    exact ⟨_, _, by omega, by omega, by rw [List.length_append]; omega, rfl⟩
theorem spec_l20Open_ok (l : List Int) (hx : ∀ x ∈ l, (Lit.int .u8 x).wf = true) (hl : l.length ≤ 4294967296) : ∃ xs : List Int, (∀ x ∈ xs, 0 ≤ x ∧ x ≤ 255) ∧ xs.length ≤ 4294967296 ∧ spec_l20Open.f l = some (xs, 0) := by
  unfold spec_l20Open.f
  by_cases h : (l.length : Int) > 2000
  · rw [if_pos h, if_pos (by omega)]
    exact ⟨l.take 2000, fun x hm => Th.u8_range (hx x (List.mem_of_mem_take hm)), by rw [List.length_take]; omega, rfl⟩
  · rw [if_neg h]
    exact ⟨l, fun x hm => Th.u8_range (hx x hm), hl, rfl⟩
theorem spec_DrawPartitionMerge_ok (l : List Int) (k : Nat) (hx : ∀ x ∈ l, (Lit.int .u8 x).wf = true) (hl : l.length ≤ 4294967296) (hk : 5000 ≤ k) : ∃ A n, A.length ≤ 12 ∧ spec_DrawPartitionMerge.f k l = some (A, n) := by
  obtain ⟨xs, h1, h2, h3⟩ := spec_l20Open_ok l hx hl
  obtain ⟨A, q, q0, q1, hA, h4⟩ := spec_l20Parts_ok xs 0 9 k h1 h2 (by omega) hk
  have hw : wrap64 ((A.length : Int) + 1) = (A.length : Int) + 1 := Th.wrap_small (by omega) (by omega)
  obtain ⟨u, u0, u1, hu⟩ := spec_l20Rd_pick_ok xs q ((A.length : Int) + 1) k h1 h2 (by omega) (by omega) (by omega)
  obtain ⟨v, v0, v1, hv⟩ := spec_l20Rd_pick_ok xs (q + 1) 9 k h1 h2 (by omega) (by omega) (by omega)
  unfold spec_DrawPartitionMerge.f
  rw [h3, Option.bind_some]
  dsimp only
  rw [h4, Option.bind_some]
  dsimp only
  rw [hw, hu, Option.bind_some]
  dsimp only
  rw [hv]
  exact ⟨A, _, hA, rfl⟩
theorem impl_copyOf_Interval_eq (l : List S27) (hl : l.length ≤ 4294967296) : impl_copyOf_Interval.f l = some l := by
  unfold impl_copyOf_Interval.f
  rw [if_pos (by omega)]
theorem impl_replaced_Interval_eq (l l3 : List S27) (a b : Nat) (h : a + b ≤ l.length) (hl : l.length + l3.length ≤ 4294967296) : impl_replaced_Interval.f l (a : Int) (b : Int) l3 = some (l.take a ++ l3 ++ l.drop (a + b)) := by
  unfold impl_replaced_Interval.f
  rw [if_pos ⟨by omega, by omega, by omega, by omega⟩, Int.toNat_natCast, show ((a : Int) + (b : Int)).toNat = a + b by omega]
theorem impl_PartitionMerge_eq (l : List S27) (n : Int) (k : Nat) (hl : l.length ≤ 4294967296) (hk : 3000 ≤ k) : impl_PartitionMerge.f k l n = some (Th.mergeI S27.f0 S27.f1 z27 S27.mk l n) := by
  obtain ⟨k, rfl⟩ : ∃ m, k = m + 1 := ⟨k - 1, by omega⟩
  unfold impl_PartitionMerge.f Th.mergeI
  rw [impl_PartitionValid_eq l (k + 1) hl (by omega), Option.bind_some]
  by_cases h : Th.ptv S27.f0 S27.f1 z27 l = true
  · have hP := (Th.ptv_iff _ _ _ _).1 h
    have h6 := hP.1
    have hw : wrap64 ((l.length : Int) - 1) = (l.length : Int) - 1 := Th.wrap_small (by omega) (by omega)
    have no : impl_PartitionMerge.j0 (k + 1) l n true = some (l, false) := by
      rw [impl_PartitionMerge.j0, if_pos rfl, impl_copyOf_Interval_eq l hl]; rfl
    rw [if_pos h, if_pos h, hw]
    by_cases c1 : n < 0
    · rw [if_pos c1, no, if_neg (by omega)]
    · rw [if_neg c1]
      by_cases c2 : n ≥ (l.length : Int) - 1
      · rw [decide_eq_true c2, no, if_neg (by omega)]
      · obtain ⟨n, rfl⟩ : ∃ m : Nat, n = (m : Int) := ⟨n.toNat, by omega⟩
        have hn : n + 1 < l.length := by omega
        have hw1 : wrap64 ((n : Int) + 1) = ((n + 1 : Nat) : Int) := by rw [Th.wrap_small (by omega) (by omega)]; omega
        have hj := Th.join_at _ _ z27 l hP n hn
        have hr := impl_replaced_Interval_eq l [(⟨(l.getD n z27).f0, (l.getD (n + 1) z27).f1⟩ : S27)] n 2 (by omega) (by simp only [List.length_cons, List.length_nil]; omega)
        rw [show ((2 : Nat) : Int) = 2 from rfl] at hr
        rw [decide_eq_false c2, impl_PartitionMerge.j0, if_neg (by simp), if_pos (by omega), if_pos (by omega), hw1, if_pos (by omega), if_pos (by omega), impl_IntervalJoin_eq _ _ _ _ k (by omega), Option.bind_some, show rd_T27 l (n : Int) = l.getD n z27 from rfl, show rd_T27 l ((n + 1 : Nat) : Int) = l.getD (n + 1) z27 from rfl, hj]
        simp only [if_true]
        rw [hr, Option.bind_some, if_pos (by omega), Int.toNat_natCast, List.append_assoc]
        rfl
  · rw [if_neg h, if_neg h]
theorem spec_PartitionMerge_eq (l : List S27) (n : Int) (k : Nat) (hl : l.length ≤ 4294967296) (hk : 3000 ≤ k) : spec_PartitionMerge.f k l n = some (Th.mergeI S27.f0 S27.f1 z27 S27.mk l n) := by
  unfold spec_PartitionMerge.f Th.mergeI
  rw [Option.bind_some, spec_PartitionValid_eq l k hl (by omega), Option.bind_some]
  by_cases h : Th.ptv S27.f0 S27.f1 z27 l = true
  · have hP := (Th.ptv_iff _ _ _ _).1 h
    have h6 := hP.1
    have hw : wrap64 ((l.length : Int) - 2) = (l.length : Int) - 2 := Th.wrap_small (by omega) (by omega)
    rw [if_pos h, if_pos h, hw, spec_l1In_eq, Option.bind_some]
    by_cases c : 0 ≤ n ∧ n ≤ (l.length : Int) - 2
    · obtain ⟨n, rfl⟩ : ∃ m : Nat, n = (m : Int) := ⟨n.toNat, by omega⟩
      have hn : n + 1 < l.length := by omega
      have hw1 : wrap64 ((n : Int) + 1) = ((n + 1 : Nat) : Int) := by rw [Th.wrap_small (by omega) (by omega)]; omega
      have hw2 : wrap64 ((n : Int) + 2) = ((n + 2 : Nat) : Int) := by rw [Th.wrap_small (by omega) (by omega)]; omega
      have hj := Th.join_at _ _ z27 l hP n hn
      have ht : (l.take n).length = n := by rw [List.length_take]; omega
      have hd : (l.drop (n + 2)).length = l.length - (n + 2) := List.length_drop ..
      rw [decide_eq_true c.1, decide_eq_true c.2, if_pos (by rfl), if_pos c, if_pos (by omega), if_pos (by omega), hw1, if_pos (by omega), if_pos (by omega), spec_IntervalJoin_eq _ _ _ _ k (by omega), Option.bind_some, show rd_T27 l (n : Int) = l.getD n z27 from rfl, show rd_T27 l ((n + 1 : Nat) : Int) = l.getD (n + 1) z27 from rfl, hj, if_pos (by omega), hw2]
      simp only [Option.bind_some, Int.toNat_natCast, List.nil_append]
      rw [if_pos (by simp only [List.length_nil]; omega), if_pos (by omega), if_pos (by omega), if_pos (by omega), if_pos (by rw [List.length_append]; simp only [List.length_cons, List.length_nil]; omega), List.append_assoc]
      rfl
    · rw [if_neg (by simp only [Bool.and_eq_true, decide_eq_true_eq]; exact c), if_neg c, if_pos (by simp only [List.length_nil]; omega), List.nil_append]
  · rw [if_neg h, if_neg h]
theorem impl_inside_eq (lo hi key : ByteArray) (h1 : Th.kv0 lo) (h2 : Th.kv0 hi) (h3 : Th.kv0 key) : impl_inside.f lo hi key = some (decide (Th.er lo ≤ Th.er key ∧ (Th.er hi = 0 ∨ Th.er key < Th.er hi))) := by
  have hh : (if hi.toList = [] then some true else some (Op.bytesLess key.toList hi.toList)) = some (decide (Th.er hi = 0 ∨ Th.er key < Th.er hi)) := by
    by_cases e : hi.toList = []
    · rw [if_pos e, decide_eq_true (.inl (Th.er_nil e))]
    · rw [if_neg e]
      congr 1
      apply Th.bool_eq
      have : Th.er hi ≠ 0 := fun h => e ((Th.er_eq_zero h2).1 h)
      rw [show (Op.bytesLess key.toList hi.toList = true) = Th.lt key hi from rfl, Th.lt_iff h3 h2, decide_eq_true_eq]
      constructor
      · exact .inr
      · rintro (h | h)
        · exact absurd h this
        · exact h
  unfold impl_inside.f
  rw [hh]
  by_cases hl : Th.lt lo key
  · have := (Th.lt_iff h1 h3).1 hl
    rw [if_pos hl]
    congr 1
    apply Th.bool_eq
    simp only [decide_eq_true_eq]
    constructor
    · intro h; exact ⟨by omega, h⟩
    · exact fun h => h.2
  · have hn : ¬ Th.er lo < Th.er key := fun h => hl ((Th.lt_iff h1 h3).2 h)
    rw [if_neg hl]
    by_cases he : lo.toList = key.toList
    · have : lo = key := Th.str_ext he
      subst this
      rw [if_pos he]
      congr 1
      apply Th.bool_eq
      simp only [decide_eq_true_eq]
      constructor
      · intro h; exact ⟨by omega, h⟩
      · exact fun h => h.2
    · rw [if_neg he, decide_eq_false]
      rintro ⟨h, _⟩
      exact he (by rw [Th.er_inj h1 h3 (by omega)])
theorem impl_PartitionFind_l0 (l : List S27) (s : ByteArray) (hs : Th.kv s = true) (hP : Th.PtV S27.f0 S27.f1 z27 l) : ∀ (d i k : Nat), i + d = l.length → d + 1 ≤ k → impl_PartitionFind.l0 k s l (l.length : Int) (i : Int) = some (Th.fi S27.f0 S27.f1 s (l.drop i) i)
  | _, _, 0, _, h => by omega
  | 0, i, k + 1, h, _ => by
    rw [impl_PartitionFind.l0, if_neg (by omega), List.drop_of_length_le (by omega)]
    rfl
  | d + 1, i, k + 1, h, hk => by
    have hi : i < l.length := by omega
    have h6 := hP.1.2
    have ih := impl_PartitionFind_l0 l s hs hP d (i + 1) k (by omega) (by omega)
    have hw : wrap64 ((i : Int) + 1) = ((i + 1 : Nat) : Int) := by rw [Th.wrap_small (by omega) (by omega)]; omega
    have hv := (hP.2.2.2 i hi).1
    have hv2 := (Th.iv_iff _ _).1 hv
    rw [impl_PartitionFind.l0, if_pos (by omega), if_pos (by omega), if_pos (by omega), show rd_T27 l (i : Int) = l.getD i z27 from rfl, impl_inside_eq _ _ _ hv2.1 hv2.2.1 (Th.kv0_of_kv hs), Option.bind_some, hw, ih]
    rw [List.drop_eq_getElem_cons hi, Th.fi]
    rw [Th.getD_at _ l i hi] at hv ⊢
    by_cases c : Th.hasI (l[i]'hi).f0 (l[i]'hi).f1 s = true
    · rw [if_pos c, if_pos (by rw [decide_eq_true_eq]; exact ((Th.hasI_iff _ _ _).1 c).2.2)]
    · rw [if_neg c, if_neg (by rw [decide_eq_true_eq]; exact fun h => c ((Th.hasI_iff _ _ _).2 ⟨hv, hs, h⟩))]
theorem impl_PartitionFind_eq (l : List S27) (s : ByteArray) (k : Nat) (hl : l.length ≤ 4294967296) (hk : 2000 ≤ k) : impl_PartitionFind.f k l s = some (Th.findI S27.f0 S27.f1 z27 l s) := by
  obtain ⟨k, rfl⟩ : ∃ m, k = m + 1 := ⟨k - 1, by omega⟩
  unfold impl_PartitionFind.f Th.findI
  rw [impl_PartitionValid_eq l (k + 1) hl hk, Option.bind_some]
  by_cases h : Th.ptv S27.f0 S27.f1 z27 l = true
  · have hP := (Th.ptv_iff _ _ _ _).1 h
    rw [if_pos h, if_pos h, impl_KeyValid_eq s (k + 1) (by omega), Option.bind_some, impl_PartitionFind.j0]
    by_cases hs : Th.kv s = true
    · have := impl_PartitionFind_l0 l s hs hP l.length 0 k (by omega) (by have := hP.1.2; omega)
      rw [show ((0 : Nat) : Int) = 0 from rfl] at this
      rw [hs, if_neg (by simp), this, List.drop_zero]
    · have hs' : Th.kv s = false := by simpa using hs
      rw [hs', if_pos (by rfl), Th.fi_none _ _ s hs']
  · rw [if_neg h, if_neg h, impl_PartitionFind.j0, if_pos rfl]
theorem impl_IntervalCut_eq (lo hi key : ByteArray) (k : Nat) (hk : 2000 ≤ k) : impl_IntervalCut.f k lo hi key = some (Th.cutI lo hi key) := by
  obtain ⟨k, rfl⟩ : ∃ m, k = m + 1 := ⟨k - 1, by omega⟩
  unfold impl_IntervalCut.f Th.cutI
  simp only [impl_IntervalCut.j0, impl_KeyValid_eq _ (k + 1) (by omega), impl_IntervalValid_eq _ _ (k + 1) (by omega), impl_IntervalValid_eq _ _ k (by omega), Option.bind_some]
  cases Th.iv lo hi <;> cases Th.kv key <;> cases Th.iv lo key <;> cases Th.iv key hi <;> simp <;> rfl
theorem impl_PartitionSplit_eq (l : List S27) (s : ByteArray) (k : Nat) (hl : l.length ≤ 4294967296) (hk : 3000 ≤ k) : impl_PartitionSplit.f k l s = some (Th.splitI S27.f0 S27.f1 z27 S27.mk l s) := by
  obtain ⟨k, rfl⟩ : ∃ m, k = m + 1 := ⟨k - 1, by omega⟩
  unfold impl_PartitionSplit.f Th.splitI
  rw [impl_PartitionFind_eq l s (k + 1) hl (by omega), Option.bind_some]
  have hr := Th.findI_range S27.f0 S27.f1 z27 l s
  generalize Th.findI S27.f0 S27.f1 z27 l s = q at hr ⊢
  by_cases h : q < 0
  · rw [if_pos h, if_pos h]
  obtain ⟨hv, h1, h2⟩ : Th.ptv S27.f0 S27.f1 z27 l = true ∧ 0 ≤ q ∧ q < l.length := by
    rcases hr with e | e
    · omega
    · exact e
  have h6 := ((Th.ptv_iff _ _ _ _).1 hv).1
  obtain ⟨q, rfl⟩ : ∃ m : Nat, q = (m : Int) := ⟨q.toNat, by omega⟩
  rw [if_neg h, if_neg h, if_pos h1, if_pos h2, impl_IntervalCut_eq _ _ _ (k + 1) (by omega), Option.bind_some, show rd_T27 l (q : Int) = l.getD q z27 from rfl, Int.toNat_natCast]
  generalize Th.cutI (l.getD q z27).f0 (l.getD q z27).f1 s = c
  have no : impl_PartitionSplit.j0 (k + 1) l (q : Int) true c.1 c.2.1 c.2.2.1 c.2.2.2.1 = some (l, false) := by
    rw [impl_PartitionSplit.j0, if_pos rfl, impl_copyOf_Interval_eq l hl]; rfl
  by_cases hc : c.2.2.2.2 = true
  · rw [if_pos hc]
    by_cases g : (l.length : Int) ≥ 6
    · rw [decide_eq_true g, no, if_neg (by omega)]
    · have hr := impl_replaced_Interval_eq l [(⟨c.1, c.2.1⟩ : S27), (⟨c.2.2.1, c.2.2.2.1⟩ : S27)] q 1 (by omega) (by simp only [List.length_cons, List.length_nil]; omega)
      rw [show ((1 : Nat) : Int) = 1 from rfl] at hr
      rw [decide_eq_false g, impl_PartitionSplit.j0, if_neg (by simp), hr, Option.bind_some, if_pos (show c.2.2.2.2 = true ∧ l.length < 6 from ⟨hc, by omega⟩), List.append_assoc]
      rfl
  · rw [if_neg hc, no, if_neg (fun h => hc h.1)]
theorem FnPartitionMerge : laws_FnPartitionMerge.Pure := by
  intro l _ hl hx
  refine ⟨6000 + 1 + 1, ?_⟩
  unfold laws_FnPartitionMerge.f
  by_cases h : (l.length : Int) > 1048576
  · rw [if_pos h]
  obtain ⟨A, n, hA, hd⟩ := spec_DrawPartitionMerge_ok l (6000 + 1 + 1) hx (by omega) (by omega)
  have hj := Th.mergeI_len S27.f0 S27.f1 z27 S27.mk A n
  rw [if_neg h, hd, Option.bind_some]
  dsimp only
  rw [impl_PartitionMerge_eq A n _ (by omega) (by omega), Option.bind_some, spec_PartitionMerge_eq A n _ (by omega) (by omega), Option.bind_some, laws_sameSpans_eq _ (by omega) _ (by omega), Option.bind_some, if_pos rfl, bne_self_eq_false, laws_FnPartitionMerge.j0, if_neg (by simp)]
  by_cases c : (Th.mergeI S27.f0 S27.f1 z27 S27.mk A n).2 = true
  · obtain ⟨xs, s, ys, rfl, rfl, he, hl5, ha⟩ := Th.merge_ok S27.f0 S27.f1 S27.mk (fun _ _ => rfl) (fun _ _ => rfl) (fun _ => rfl) z27 A n c
    have hp := Th.parts_len S27.mk (xs ++ s :: ys) (Th.mkS [])
    have hp2 := Th.parts_len S27.mk (xs ++ ys) (Th.mkS [])
    have hn := Th.parts_next S27.mk z27 s ys xs (Th.mkS [])
    have hm := Th.split_back S27.f0 S27.f1 S27.mk (fun _ _ => rfl) (fun _ _ => rfl) z27 s xs ys hl5 ha
    have hv : Th.ptv S27.f0 S27.f1 z27 (Th.parts S27.mk (Th.mkS []) (xs ++ ys)) = true := (Th.ptv_iff _ _ _ _).2 ((Th.ptv_parts S27.f0 S27.f1 S27.mk (fun _ _ => rfl) (fun _ _ => rfl) z27 _).2 ⟨by rw [List.length_append, List.length_cons] at hl5; rw [List.length_append]; omega, Th.asc_erase s ys xs 1 ha⟩)
    rw [if_pos c, he]
    generalize Th.parts S27.mk (Th.mkS []) (xs ++ ys) = B at *
    generalize Th.parts S27.mk (Th.mkS []) (xs ++ s :: ys) = A at *
    rw [List.length_append, List.length_cons] at hp hl5
    rw [List.length_append] at hp2
    have hw : wrap64 ((xs.length : Int) + 1) = ((xs.length + 1 : Nat) : Int) := by rw [Th.wrap_small (by omega) (by omega)]; omega
    have hw2 : wrap64 ((A.length : Int) - 1) = (B.length : Int) := by rw [Th.wrap_small (by omega) (by omega)]; omega
    rw [if_neg (by omega), hw, if_neg (by omega), impl_PartitionValid_eq B _ (by omega) (by omega), Option.bind_some, if_pos hv, hw2, bne_self_eq_false, laws_FnPartitionMerge.j1, if_neg (by simp), hw, if_pos (by omega), if_pos (by omega), show rd_T27 A ((xs.length + 1 : Nat) : Int) = A.getD (xs.length + 1) z27 from rfl, hn, impl_PartitionSplit_eq B _ _ (by omega) (by omega), Option.bind_some, hm]
    dsimp only
    rw [if_pos rfl, laws_sameSpans_eq _ (by omega) _ (by omega)]
    rfl
  · rw [if_neg c]
    rcases Th.merge_no S27.f0 S27.f1 S27.mk z27 A n c with e | e
    · rw [e, laws_sameSpans_eq _ (by omega) _ (by omega), Option.bind_some, if_pos rfl, laws_alive_eq _ (by omega)]; rfl
    · obtain ⟨b, hb⟩ := laws_sameSpans_nil A (6000 + 1) (by omega)
      rw [e, hb, Option.bind_some, laws_alive_eq _ (by omega)]
      cases b with
      | true => rw [if_pos rfl]; rfl
      | false => rw [if_neg (by simp), if_pos (by simp)]; rfl

end Go.Proofs.Ytohafpgcnknooaa.Pure
