/- The plain law of FnPairScan: what the printed functions compute, and that it answers true: for every input that the statement lets in. -/
import Derived.Test.YtmbkffpcbknndaaPFnPairScanx
import Derived.Test.YtmbkffpcbknndaaThA
import Derived.Test.YtmbkffpcbknndaaThB
import Derived.Test.YtmbkffpcbknndaaThL
import Derived.Test.YtmbkffpcbknndaaThR
import Derived.Test.YtmbkffpcbknndaaThC
import Derived.Test.YtmbkffpcbknndaaThP
namespace Go.Proofs.Ytmbkffpcbknndaa.Pure
open Go Go.RowKit Go.Proofs.Ytmbkffpcbknndaa.PFnPairScan Go.Proofs.YtmbkffpcbknndaaW.PrintWords Go.Proofs.YtmbkffpcbknndaaW.PrintLast Go.Proofs.Ytmbkffpcbknndaa
set_option linter.unusedVariables false
set_option linter.unusedSimpArgs false
set_option maxRecDepth 10000
theorem impl_lettersOnly_eq : ∀ (l : List UInt8) (k : Nat), l.length < k → impl_lettersOnly.f k (Th.mkS l) = some (l.all Th.letter)
  | _, 0, h => by omega
  | [], k + 1, _ => by
    rw [impl_lettersOnly.f, if_pos (Th.toList_mkS [])]
    rfl
  | c :: l, k + 1, h => by
    have ih := impl_lettersOnly_eq l k (by simpa using h)
    have hs : (0 : Int) < ((Th.mkS (c :: l)).size : Int) := by rw [Th.size_mkS, List.length_cons]; omega
    have hx : (Th.mkS (c :: l)).extract 1 (Th.mkS (c :: l)).size = Th.mkS l := by rw [Th.extract_mkS, Th.size_mkS, List.take_length]; rfl
    have hs1 : (1 : Int) ≤ ((Th.mkS (c :: l)).size : Int) := by omega
    rw [impl_lettersOnly.f, if_neg (by rw [Th.toList_mkS]; simp), if_pos hs, if_pos hs1, hx, ih, Th.bt_zero]
    simp only [Option.bind_some, List.all_cons, Th.letter]
    by_cases h1 : (c.toNat : Int) ≥ 97
    · rw [if_pos h1, decide_eq_true (show 97 ≤ (c.toNat : Int) from h1)]
      by_cases h2 : (c.toNat : Int) ≤ 122
      · rw [if_pos h2, decide_eq_true h2]; rfl
      · rw [if_neg h2, decide_eq_false h2]; rfl
    · rw [if_neg h1, decide_eq_false (show ¬ 97 ≤ (c.toNat : Int) from h1)]; rfl
theorem impl_KeyValid_eq (s : ByteArray) (k : Nat) (hk : 1000 ≤ k) : impl_KeyValid.f k s = some (Th.kv s) := by
  obtain ⟨l, rfl⟩ := Th.mkS_surj s
  unfold impl_KeyValid.f Th.kv Th.kvL
  rw [Th.toList_mkS, Th.size_mkS]
  by_cases h1 : (l.length : Int) < 1
  · rw [if_pos h1, decide_eq_false (show ¬ 1 ≤ l.length by omega)]; rfl
  · rw [if_neg h1, decide_eq_true (show 1 ≤ l.length by omega)]
    by_cases h2 : (l.length : Int) > 4
    · rw [if_pos h2, decide_eq_false (show ¬ l.length ≤ 4 by omega)]; rfl
    · rw [if_neg h2, decide_eq_true (show l.length ≤ 4 by omega), impl_lettersOnly_eq l k (by omega)]; rfl
theorem impl_valueValid_eq (v : Int) : impl_valueValid.f v = some (decide (0 ≤ v ∧ v ≤ 999)) := by
  unfold impl_valueValid.f
  by_cases h : v ≥ 0
  · rw [if_pos h]; congr 1; simp [show 0 ≤ v from h]
  · rw [if_neg h]; congr 1; simp [show ¬ 0 ≤ v from h]
theorem impl_PairsValid_l0 (l : List S28) (hl : l.length ≤ 48) : ∀ (d i k : Nat), i + d = l.length → 2 * d + 1001 ≤ k → ∃ b, impl_PairsValid.l0 k l l (l.length : Int) (i : Int) = some b ∧ (b = true ↔ ∀ j, i ≤ j → j < l.length → Th.stepOk S28.f0 S28.f1 z28 l j)
  | _, _, 0, _, h => by omega
  | 0, i, k + 1, h, _ => by
    rw [impl_PairsValid.l0, if_neg (by omega)]
    exact ⟨true, rfl, fun _ j h1 h2 => by omega, fun _ => rfl⟩
  | d + 1, i, 1, h, hk => by omega
  | d + 1, i, k + 2, h, hk => by
    have hi : i < l.length := by omega
    obtain ⟨b, hb, hb2⟩ := impl_PairsValid_l0 l hl d (i + 1) k (by omega) (by omega)
    have hw : wrap64 ((i : Int) + 1) = ((i + 1 : Nat) : Int) := by rw [Th.wrap_small (by omega) (by omega)]; omega
    have no : ¬ Th.stepOk S28.f0 S28.f1 z28 l i → ∃ b, some false = some b ∧ (b = true ↔ ∀ j, i ≤ j → j < l.length → Th.stepOk S28.f0 S28.f1 z28 l j) :=
      fun hn => ⟨false, rfl, fun h => (by cases h), fun h => absurd (h i (Nat.le_refl _) hi) hn⟩
    have go : Th.stepOk S28.f0 S28.f1 z28 l i → ∃ b', some b = some b' ∧ (b' = true ↔ ∀ j, i ≤ j → j < l.length → Th.stepOk S28.f0 S28.f1 z28 l j) :=
      fun hn => ⟨b, rfl, hb2.trans (Th.all_from hi hn)⟩
    rw [impl_PairsValid.l0, if_pos (by omega), if_pos (by omega), if_pos (by omega), show rd_T28 l (i : Int) = l.getD i z28 from rfl, impl_KeyValid_eq _ (k + 1) (by omega), Option.bind_some]
    by_cases h1 : Th.kv (l.getD i z28).f0 = true
    · rw [if_pos h1, impl_valueValid_eq, Option.bind_some, impl_PairsValid.j1]
      by_cases h2 : 0 ≤ (l.getD i z28).f1 ∧ (l.getD i z28).f1 ≤ 999
      · rw [decide_eq_true h2, if_neg (by simp)]
        by_cases h0 : 0 < i
        · have hp : wrap64 ((i : Int) - 1) = ((i - 1 : Nat) : Int) := by rw [Th.wrap_small (by omega) (by omega)]; omega
          rw [if_pos (by omega), hp, if_pos (by omega), if_pos (by omega), show rd_T28 l ((i - 1 : Nat) : Int) = l.getD (i - 1) z28 from rfl, hw, hb]
          by_cases c1 : Th.lt (l.getD (i - 1) z28).f0 (l.getD i z28).f0
          · rw [if_pos c1]; exact go ⟨⟨h1, h2⟩, fun _ => c1⟩
          · rw [if_neg c1]; exact no (fun hs => c1 (hs.2 h0))
        · rw [if_neg (by omega), hw, hb]
          exact go ⟨⟨h1, h2⟩, fun h => absurd h h0⟩
      · rw [decide_eq_false h2, if_pos (by rfl)]
        exact no (fun hs => h2 hs.1.2)
    · rw [if_neg h1, impl_PairsValid.j1, if_pos rfl]
      exact no (fun hs => h1 hs.1.1)
theorem impl_PairsValid_eq (l : List S28) (k : Nat) (hk : 2000 ≤ k) : impl_PairsValid.f k l = some (Th.pv S28.f0 S28.f1 l) := by
  unfold impl_PairsValid.f
  by_cases h : (l.length : Int) > 48
  · rw [if_pos h]
    congr 1
    symm
    rw [Bool.eq_false_iff]
    intro hp
    have := ((Th.pv_iff _ _ l).1 hp).1
    omega
  · rw [if_neg h]
    obtain ⟨b, hb, hb2⟩ := impl_PairsValid_l0 l (by omega) l.length 0 k (by omega) (by omega)
    rw [show ((0 : Nat) : Int) = 0 from rfl] at hb
    rw [hb]
    congr 1
    apply Th.bool_eq
    rw [hb2, Th.pv_iff, Th.pv_steps _ _ z28]
    constructor
    · exact fun h' => ⟨by omega, fun j hj => h' j (by omega) hj⟩
    · exact fun h' j _ hj => h'.2 j hj
theorem impl_keysFrom_eq (d k : Nat) (h1 : 1 ≤ d) (hd : d ≤ 5) (hk : 6 ≤ k) : impl_keysFrom.f k (d : Int) = some (Th.wt d) := by
  obtain ⟨k, rfl⟩ : ∃ m, k = m + 4 := ⟨k - 4, by omega⟩
  have w : wrap64 2 = 2 ∧ wrap64 3 = 3 ∧ wrap64 4 = 4 ∧ wrap64 26 = 26 ∧ wrap64 27 = 27 ∧ wrap64 702 = 702 ∧ wrap64 703 = 703 ∧ wrap64 18278 = 18278 ∧ wrap64 18279 = 18279 := ⟨Th.wrap_small (by omega) (by omega), Th.wrap_small (by omega) (by omega), Th.wrap_small (by omega) (by omega), Th.wrap_small (by omega) (by omega), Th.wrap_small (by omega) (by omega), Th.wrap_small (by omega) (by omega), Th.wrap_small (by omega) (by omega), Th.wrap_small (by omega) (by omega), Th.wrap_small (by omega) (by omega)⟩
  have hc : d = 1 ∨ d = 2 ∨ d = 3 ∨ d = 4 ∨ d = 5 := by omega
  rcases hc with rfl | rfl | rfl | rfl | rfl <;> simp [impl_keysFrom.f, w, Th.wt]
theorem impl_rankBelow_eq : ∀ (l : List UInt8) (d k : Nat), Th.okL l d → l.length + 10 ≤ k → impl_rankBelow.f k (Th.mkS l) (d : Int) = some (Th.erL l d)
  | _, _, 0, _, h => by omega
  | [], d, k + 1, _, _ => by
    rw [impl_rankBelow.f, if_pos (Th.toList_mkS [])]
    rfl
  | c :: l, d, k + 1, hok, hk => by
    obtain ⟨o1, o2, o3, o4⟩ := Th.okL_tail hok
    have hk' : l.length + 10 ≤ k := by simp only [List.length_cons] at hk; omega
    have ih := impl_rankBelow_eq l (d + 1) k o1 hk'
    have hs : (0 : Int) < ((Th.mkS (c :: l)).size : Int) := by rw [Th.size_mkS, List.length_cons]; omega
    have hx : (Th.mkS (c :: l)).extract 1 (Th.mkS (c :: l)).size = Th.mkS l := by rw [Th.extract_mkS, Th.size_mkS, List.take_length]; rfl
    have hr := Th.erL_range l (d + 1) o1
    have hw := Th.wt_pos d
    have hd : d = 1 ∨ d = 2 ∨ d = 3 ∨ d = 4 := by have := hok.2.1; omega
    have hb : wrap64 ((d : Int) + 1) = ((d + 1 : Nat) : Int) := by rw [Th.wrap_small (by omega) (by omega)]; omega
    have hc : ((c.toNat : Int) - 97) % 256 = (c.toNat : Int) - 97 := by omega
    have hs1 : (1 : Int) ≤ ((Th.mkS (c :: l)).size : Int) := by omega
    rw [impl_rankBelow.f, if_neg (by rw [Th.toList_mkS]; simp), if_pos hs, impl_keysFrom_eq d k hok.2.1 (by omega) (by omega), Option.bind_some, if_pos hs1, hx, hb, ih, Th.bt_zero, hc]
    simp only [Option.bind_some, Th.erL]
    have key : ∀ x : Int, 0 ≤ x → x ≤ 25 → ∀ y : Int, 0 ≤ y → y ≤ 475254 → wrap64 (wrap64 (1 + wrap64 (x * Th.wt d)) + y) = 1 + x * Th.wt d + y := by
      intro x hx0 hx1 y hy0 hy1
      have : 0 ≤ x * Th.wt d ∧ x * Th.wt d ≤ 456975 := by
        rcases hd with rfl | rfl | rfl | rfl <;> simp only [Th.wt] <;> omega
      rw [Th.wrap_small (x := x * Th.wt d) (by omega) (by omega), Th.wrap_small (x := 1 + x * Th.wt d) (by omega) (by omega), Th.wrap_small (by omega) (by omega)]
    rw [key _ (by omega) (by omega) _ hr.1 (by rcases hd with rfl | rfl | rfl | rfl <;> simp only [Th.wt] at hr <;> omega)]
theorem impl_KeyRank_eq (s : ByteArray) (k : Nat) (hk : 1000 ≤ k) : impl_KeyRank.f k s = some (Th.krank s) := by
  unfold impl_KeyRank.f Th.krank
  rw [impl_KeyValid_eq s k hk, Option.bind_some]
  by_cases h : Th.kv s = true
  · rw [if_pos h, if_pos h]
    have h0 := Th.kv0_of_kv h
    have hr := Th.er_range h0
    have := impl_rankBelow_eq s.toList 1 k h0 (by have := h0.1; omega)
    rw [Th.mkS_toList, show ((1 : Nat) : Int) = 1 from rfl] at this
    rw [this, Option.bind_some]
    show some (wrap64 (Th.er s - 1)) = _
    rw [Th.wrap_small (by omega) (by omega)]
  · rw [if_neg h, if_neg h]
theorem laws_alive_eq (k : Nat) (hk : 2000 ≤ k) : laws_alive.f k = some true := by
  unfold laws_alive.f
  rw [impl_KeyRank_eq _ k (by omega), Option.bind_some, impl_KeyRank_eq _ k (by omega), Option.bind_some]
  have e1 : Th.krank (⟨#[97, 97]⟩ : ByteArray) = 1 := by
    show Th.krank (Th.mkS [97, 97]) = 1
    unfold Th.krank Th.kv Th.er
    rw [Th.toList_mkS]
    decide
  have e2 : Th.krank (⟨#[]⟩ : ByteArray) = -1 := by
    show Th.krank (Th.mkS []) = -1
    unfold Th.krank Th.kv Th.er
    rw [Th.toList_mkS]
    decide
  rw [e1, if_pos rfl, e2]
  rfl
theorem impl_pairPlace_neg (a b : ByteArray) : impl_pairPlace.cs a b < 0 ↔ Th.lt a b := by
  unfold impl_pairPlace.cs
  by_cases h : Op.bytesLess a.toList b.toList = true
  · rw [if_pos h]; exact ⟨fun _ => h, fun _ => by omega⟩
  · rw [if_neg h]
    refine ⟨fun h' => ?_, fun h' => absurd h' h⟩
    by_cases e : a.toList = b.toList
    · rw [if_pos e] at h'; omega
    · rw [if_neg e] at h'; omega
theorem impl_pairPlace_zero (a b : ByteArray) : impl_pairPlace.cs a b = 0 ↔ a = b := by
  unfold impl_pairPlace.cs
  by_cases h : Op.bytesLess a.toList b.toList = true
  · rw [if_pos h]
    refine ⟨fun h' => by omega, fun h' => ?_⟩
    subst h'
    rw [Th.bl_irrefl] at h; cases h
  · rw [if_neg h]
    by_cases e : a.toList = b.toList
    · rw [if_pos e]; exact ⟨fun _ => Th.str_ext e, fun _ => rfl⟩
    · rw [if_neg e]; exact ⟨fun h' => by omega, fun h' => absurd (congrArg ByteArray.toList h') e⟩
theorem impl_pairPlace_bs (l : List S28) (s : ByteArray) (ha : Th.Asc S28.f0 l) : ∀ (f lo hi : Nat), hi - lo < f → lo ≤ hi → hi ≤ l.length → (∀ j, j < lo → Th.lt (l.getD j z28).f0 s) → (∀ j, hi ≤ j → j < l.length → ¬ Th.lt (l.getD j z28).f0 s) →
    impl_pairPlace.bs l s f lo hi = some (((Th.place S28.f0 l s : Nat) : Int), Th.foundAt S28.f0 l s)
  | 0, _, _, h, _, _, _, _ => by omega
  | f + 1, lo, hi, hf, h1, h2, hb, hr => by
    rw [impl_pairPlace.bs]
    by_cases c : lo < hi
    · rw [if_pos c, show rd_T28 l (((lo + hi) / 2 : Nat) : Int) = l.getD ((lo + hi) / 2) z28 from rfl]
      by_cases e : Th.lt (l.getD ((lo + hi) / 2) z28).f0 s
      · rw [if_pos ((impl_pairPlace_neg _ _).2 e)]
        refine impl_pairPlace_bs l s ha f _ hi (by omega) (by omega) h2 (fun j hj => ?_) hr
        rcases Nat.lt_or_ge j ((lo + hi) / 2) with h | h
        · exact Th.lt_trans (Th.asc_lt _ z28 l ha j _ h (by omega)) e
        · rw [show j = (lo + hi) / 2 by omega]; exact e
      · rw [if_neg (fun h => e ((impl_pairPlace_neg _ _).1 h))]
        refine impl_pairPlace_bs l s ha f lo _ (by omega) (by omega) (by omega) hb (fun j hj hj2 h => ?_)
        rcases Nat.eq_or_lt_of_le hj with h' | h'
        · rw [← h'] at h; exact e h
        · exact e (Th.lt_trans (Th.asc_lt _ z28 l ha _ j h' hj2) h)
    · have hlh : hi = lo := by omega
      subst hlh
      have hp : Th.place S28.f0 l s = hi := Th.place_unique _ z28 l s ha hi h2 hb (fun h => hr hi (Nat.le_refl _) h)
      rw [if_neg c, Th.foundAt_getD _ z28, hp]
      by_cases d : hi < l.length
      · rw [if_pos d, decide_eq_true d, Bool.true_and, show rd_T28 l (hi : Int) = l.getD hi z28 from rfl]
        congr 2
        apply Th.bool_eq
        rw [decide_eq_true_eq, decide_eq_true_eq, impl_pairPlace_zero]
      · rw [if_neg d, decide_eq_false d, Bool.false_and]
theorem impl_pairPlace_eq (l : List S28) (s : ByteArray) (h : Th.PV S28.f0 S28.f1 l) : impl_pairPlace.f l s = some (((Th.place S28.f0 l s : Nat) : Int), Th.foundAt S28.f0 l s) := by
  have hl := h.1
  unfold impl_pairPlace.f
  rw [if_pos (by omega)]
  exact impl_pairPlace_bs l s h.2.2 _ 0 _ (by omega) (by omega) (by omega) (fun j hj => by omega) (fun j h1 h2 => by omega)
theorem impl_PairGet_eq (l : List S28) (s : ByteArray) (k : Nat) (hk : 2000 ≤ k) : impl_PairGet.f k l s = some (Th.getP S28.f0 S28.f1 l s) := by
  unfold impl_PairGet.f
  rw [impl_PairsValid_eq l k hk, Option.bind_some]
  by_cases h : Th.pv S28.f0 S28.f1 l = true
  · have hP := (Th.pv_iff _ _ l).1 h
    rw [if_pos h, impl_pairPlace_eq l s hP, Option.bind_some, Th.getP_getD _ _ z28 l s h]
    have hf := Th.foundAt_getD S28.f0 z28 l s
    cases c : Th.foundAt S28.f0 l s with
    | false => simp
    | true =>
      rw [c] at hf
      have hlt : Th.place S28.f0 l s < l.length := by
        have := hf.symm
        simp only [Bool.and_eq_true, decide_eq_true_eq] at this
        exact this.1
      simp only [if_true]
      rw [if_pos (by omega), if_pos (by omega)]
      rfl
  · rw [if_neg h]
    unfold Th.getP
    rw [if_neg h]
theorem laws_samePairs_l0 (A : List S28) (hl : A.length ≤ 1000) : ∀ (d i k : Nat), i + d = A.length → d < k → laws_samePairs.l0 k A A (i : Int) = some true
  | _, _, 0, _, h => by omega
  | 0, i, k + 1, h, _ => by rw [laws_samePairs.l0, if_neg (by omega)]
  | d + 1, i, k + 1, h, hk => by
    have ih := laws_samePairs_l0 A hl d (i + 1) k (by omega) (by omega)
    have hw : wrap64 ((i : Int) + 1) = ((i + 1 : Nat) : Int) := by rw [Th.wrap_small (by omega) (by omega)]; omega
    rw [laws_samePairs.l0, if_pos (by omega), if_pos (by omega), if_pos (by omega), if_neg (by simp), hw, ih]
theorem laws_samePairs_eq (A : List S28) (hl : A.length ≤ 1000) (k : Nat) (hk : 2000 ≤ k) : laws_samePairs.f k A A = some true := by
  unfold laws_samePairs.f
  rw [if_pos rfl]
  exact laws_samePairs_l0 A hl A.length 0 k (by omega) (by omega)
theorem laws_samePairs_nil (A : List S28) (k : Nat) (hk : 200 ≤ k) : ∃ b, laws_samePairs.f k [] A = some b := by
  obtain ⟨k, rfl⟩ : ∃ m, k = m + 1 := ⟨k - 1, by omega⟩
  unfold laws_samePairs.f
  by_cases c : (([] : List S28).length : Int) = (A.length : Int)
  · rw [if_pos c, laws_samePairs.l0, if_neg (by simp)]; exact ⟨_, rfl⟩
  · rw [if_neg c]; exact ⟨_, rfl⟩
theorem impl_lowestKey_eq (a b : ByteArray) : impl_lowestKey.f a b = some (if a.toList = [] then Th.aK else a) := by
  unfold impl_lowestKey.f
  by_cases h : a.toList = []
  · rw [if_pos h, if_pos h]; rfl
  · rw [if_neg h, if_neg h]
theorem impl_IntervalValid_eq (lo hi : ByteArray) (k : Nat) (hk : 1000 ≤ k) : impl_IntervalValid.f k lo hi = some (Th.iv lo hi) := by
  unfold impl_IntervalValid.f
  simp only [impl_KeyValid_eq _ k hk, impl_lowestKey_eq, Option.bind_some]
  by_cases h2 : hi.toList = []
  · have e2 := Th.er_nil h2
    have k2 := Th.kv0_nil h2
    simp only [if_pos h2]
    by_cases h1 : lo.toList = []
    · rw [if_pos h1]
      congr 1
      exact ((Th.iv_iff lo hi).2 ⟨Th.kv0_nil h1, k2, .inl e2⟩).symm
    · rw [if_neg h1]
      cases hv : Th.kv lo with
      | true =>
        rw [if_pos rfl]
        congr 1
        exact ((Th.iv_iff lo hi).2 ⟨Th.kv0_of_kv hv, k2, .inl e2⟩).symm
      | false =>
        rw [if_neg (by simp)]
        congr 1
        symm
        rw [Bool.eq_false_iff]
        intro h
        have := ((Th.kv0_iff lo).1 ((Th.iv_iff lo hi).1 h).1)
        rcases this with h' | h'
        · exact h1 h'
        · rw [hv] at h'; cases h'
  · simp only [if_neg h2]
    cases hv2 : Th.kv hi with
    | false =>
      have hf : Th.iv lo hi = false := by
        rw [Bool.eq_false_iff]
        intro h
        rcases (Th.kv0_iff hi).1 ((Th.iv_iff lo hi).1 h).2.1 with h' | h'
        · exact h2 h'
        · rw [hv2] at h'; cases h'
      rw [hf]
      by_cases h1 : lo.toList = []
      · rw [if_pos h1]; simp
      · rw [if_neg h1]; cases Th.kv lo <;> simp
    | true =>
      have k2 := Th.kv0_of_kv hv2
      have p2 := Th.er_pos hv2
      by_cases h1 : lo.toList = []
      · simp only [if_pos h1, if_true]
        congr 1
        apply Th.bool_eq
        rw [show (Op.bytesLess Th.aK.toList hi.toList = true) = Th.lt Th.aK hi from rfl, Th.lt_iff (Th.kv0_of_kv Th.aK_kv) k2, Th.iv_iff, Th.aK_er, Th.er_nil h1]
        constructor
        · intro h; exact ⟨Th.kv0_nil h1, k2, .inr ⟨by omega, h⟩⟩
        · rintro ⟨_, _, h | h⟩ <;> omega
      · rw [if_neg h1]
        cases hv1 : Th.kv lo with
        | false =>
          rw [if_neg (by simp)]
          congr 1
          symm
          rw [Bool.eq_false_iff]
          intro h
          rcases (Th.kv0_iff lo).1 ((Th.iv_iff lo hi).1 h).1 with h' | h'
          · exact h1 h'
          · rw [hv1] at h'; cases h'
        | true =>
          have k1 := Th.kv0_of_kv hv1
          have p1 := Th.er_pos hv1
          simp only [if_neg h1, if_true]
          congr 1
          apply Th.bool_eq
          rw [show (Op.bytesLess lo.toList hi.toList = true) = Th.lt lo hi from rfl, Th.lt_iff k1 k2, Th.iv_iff]
          constructor
          · intro h; exact ⟨k1, k2, .inr ⟨h, by omega⟩⟩
          · rintro ⟨_, _, h | h⟩ <;> omega
theorem impl_inside_eq (lo hi key : ByteArray) (h1 : Th.kv0 lo) (h2 : Th.kv0 hi) (h3 : Th.kv0 key) : impl_inside.f lo hi key = some (decide (Th.er lo ≤ Th.er key ∧ (Th.er hi = 0 ∨ Th.er key < Th.er hi))) := by
  have hh : (if hi.toList = [] then some true else some (Op.bytesLess key.toList hi.toList)) = some (decide (Th.er hi = 0 ∨ Th.er key < Th.er hi)) := by
    by_cases e : hi.toList = []
    · rw [if_pos e, decide_eq_true (.inl (Th.er_nil e))]
    · rw [if_neg e]
      congr 1
      apply Th.bool_eq
      have : Th.er hi ≠ 0 := fun h => e ((Th.er_eq_zero h2).1 h)
      rw [show (Op.bytesLess key.toList hi.toList = true) = Th.lt key hi from rfl, Th.lt_iff h3 h2, decide_eq_true_eq]
      constructor
      · exact .inr
      · rintro (h | h)
        · exact absurd h this
        · exact h
  unfold impl_inside.f
  rw [hh]
  by_cases hl : Th.lt lo key
  · have := (Th.lt_iff h1 h3).1 hl
    rw [if_pos hl]
    congr 1
    apply Th.bool_eq
    simp only [decide_eq_true_eq]
    constructor
    · intro h; exact ⟨by omega, h⟩
    · exact fun h => h.2
  · have hn : ¬ Th.er lo < Th.er key := fun h => hl ((Th.lt_iff h1 h3).2 h)
    rw [if_neg hl]
    by_cases he : lo.toList = key.toList
    · have : lo = key := Th.str_ext he
      subst this
      rw [if_pos he]
      congr 1
      apply Th.bool_eq
      simp only [decide_eq_true_eq]
      constructor
      · intro h; exact ⟨by omega, h⟩
      · exact fun h => h.2
    · rw [if_neg he, decide_eq_false]
      rintro ⟨h, _⟩
      exact he (by rw [Th.er_inj h1 h3 (by omega)])
theorem impl_IntervalHas_eq (lo hi key : ByteArray) (k : Nat) (hk : 1000 ≤ k) : impl_IntervalHas.f k lo hi key = some (Th.hasI lo hi key) := by
  unfold impl_IntervalHas.f Th.hasI
  simp only [impl_KeyValid_eq _ k hk, impl_IntervalValid_eq _ _ k hk, Option.bind_some]
  cases hv : Th.iv lo hi with
  | false => simp
  | true =>
    rw [if_pos rfl]
    cases hk2 : Th.kv key with
    | false => simp
    | true =>
      have := (Th.iv_iff lo hi).1 hv
      rw [if_pos rfl, impl_inside_eq lo hi key this.1 this.2.1 (Th.kv0_of_kv hk2)]
      simp
theorem spec_l1In_eq (a b c : Int) : spec_l1In.f a b c = some (decide (b ≤ a) && decide (a ≤ c)) := by
  unfold spec_l1In.f
  by_cases h : a ≥ b
  · rw [if_pos h, decide_eq_true (show b ≤ a from h), Bool.true_and]
  · rw [if_neg h, decide_eq_false (show ¬ b ≤ a from h), Bool.false_and]
theorem spec_KeyValid_l0 (l : List UInt8) (hl : l.length ≤ 4) : ∀ (d i k : Nat), i + d = l.length → d < k → spec_KeyValid.l0 k (Th.mkS l) (i : Int) = some ((l.drop i).all Th.letter)
  | _, _, 0, _, h => by omega
  | 0, i, k + 1, h, _ => by
    rw [spec_KeyValid.l0, if_neg (by rw [Th.size_mkS]; omega), List.drop_of_length_le (by omega)]; rfl
  | d + 1, i, k + 1, h, hk => by
    have ih := spec_KeyValid_l0 l hl d (i + 1) k (by omega) (by omega)
    have hi : i < l.length := by omega
    rw [spec_KeyValid.l0, if_pos (by rw [Th.size_mkS]; omega), if_pos (by omega), Th.bt_mkS l i hi, Th.wrap_small (by omega) (by omega), show ((i : Int) + 1) = ((i + 1 : Nat) : Int) by omega, ih, List.drop_eq_getElem_cons hi, List.all_cons]
    simp only [Th.letter]
    by_cases h1 : ((l[i]'hi).toNat : Int) < 97
    · rw [if_pos h1, decide_eq_false (show ¬ 97 ≤ ((l[i]'hi).toNat : Int) by omega)]; rfl
    · rw [if_neg h1, decide_eq_true (show 97 ≤ ((l[i]'hi).toNat : Int) by omega)]
      by_cases h2 : ((l[i]'hi).toNat : Int) > 122
      · rw [if_pos h2, decide_eq_false (show ¬ ((l[i]'hi).toNat : Int) ≤ 122 by omega)]; rfl
      · rw [if_neg h2, decide_eq_true (show ((l[i]'hi).toNat : Int) ≤ 122 by omega)]; rfl
theorem spec_KeyValid_eq (s : ByteArray) (k : Nat) (hk : 1000 ≤ k) : spec_KeyValid.f k s = some (Th.kv s) := by
  obtain ⟨l, rfl⟩ := Th.mkS_surj s
  unfold spec_KeyValid.f Th.kv Th.kvL
  rw [spec_l1In_eq, Th.toList_mkS, Th.size_mkS, Option.bind_some]
  by_cases h : 1 ≤ l.length ∧ l.length ≤ 4
  · have h0 := spec_KeyValid_l0 l h.2 l.length 0 k (by omega) (by omega)
    rw [show ((0 : Nat) : Int) = 0 from rfl] at h0
    rw [decide_eq_true (show (1 : Int) ≤ (l.length : Int) by omega), decide_eq_true (show (l.length : Int) ≤ 4 by omega), decide_eq_true h.1, decide_eq_true h.2, h0]
    rfl
  · by_cases h1 : 1 ≤ l.length
    · rw [decide_eq_false (show ¬ (l.length : Int) ≤ 4 by omega), decide_eq_false (show ¬ l.length ≤ 4 by omega)]; simp
    · rw [decide_eq_false (show ¬ (1 : Int) ≤ (l.length : Int) by omega), decide_eq_false h1]; simp
theorem spec_PairsValid_l0 (l : List S28) (hl : l.length ≤ 48) : ∀ (d i k : Nat), i + d = l.length → d + 1001 ≤ k → ∃ b, spec_PairsValid.l0 k l (i : Int) = some b ∧ (b = true ↔ ∀ j, i ≤ j → j < l.length → Th.stepOk S28.f0 S28.f1 z28 l j)
  | _, _, 0, _, h => by omega
  | 0, i, k + 1, h, _ => by
    rw [spec_PairsValid.l0, if_neg (by omega)]
    exact ⟨true, rfl, fun _ j h1 h2 => by omega, fun _ => rfl⟩
  | d + 1, i, k + 1, h, hk => by
    have hi : i < l.length := by omega
    obtain ⟨b, hb, hb2⟩ := spec_PairsValid_l0 l hl d (i + 1) k (by omega) (by omega)
    have hw : wrap64 ((i : Int) + 1) = ((i + 1 : Nat) : Int) := by rw [Th.wrap_small (by omega) (by omega)]; omega
    have no : ¬ Th.stepOk S28.f0 S28.f1 z28 l i → ∃ b, some false = some b ∧ (b = true ↔ ∀ j, i ≤ j → j < l.length → Th.stepOk S28.f0 S28.f1 z28 l j) :=
      fun hn => ⟨false, rfl, fun h => (by cases h), fun h => absurd (h i (Nat.le_refl _) hi) hn⟩
    have go : Th.stepOk S28.f0 S28.f1 z28 l i → ∃ b', some b = some b' ∧ (b' = true ↔ ∀ j, i ≤ j → j < l.length → Th.stepOk S28.f0 S28.f1 z28 l j) :=
      fun hn => ⟨b, rfl, hb2.trans (Th.all_from hi hn)⟩
    rw [spec_PairsValid.l0, if_pos (by omega), if_pos (by omega), show rd_T28 l (i : Int) = l.getD i z28 from rfl, spec_KeyValid_eq _ k (by omega), Option.bind_some]
    by_cases h1 : Th.kv (l.getD i z28).f0 = true
    · rw [if_pos h1, spec_l1In_eq, Option.bind_some]
      by_cases h2 : 0 ≤ (l.getD i z28).f1 ∧ (l.getD i z28).f1 ≤ 999
      · rw [decide_eq_true h2.1, decide_eq_true h2.2, if_pos (by rfl)]
        by_cases h0 : 0 < i
        · have hp : wrap64 ((i : Int) - 1) = ((i - 1 : Nat) : Int) := by rw [Th.wrap_small (by omega) (by omega)]; omega
          rw [if_pos (by omega), hp, if_pos (by omega), if_pos (by omega), show rd_T28 l ((i - 1 : Nat) : Int) = l.getD (i - 1) z28 from rfl, hw, hb]
          by_cases c1 : Th.lt (l.getD i z28).f0 (l.getD (i - 1) z28).f0
          · rw [if_pos c1]; exact no (fun hs => Th.lt_asymm c1 (hs.2 h0))
          · rw [if_neg c1]
            by_cases c2 : (l.getD i z28).f0.toList = (l.getD (i - 1) z28).f0.toList
            · rw [if_pos c2]; exact no (fun hs => Th.lt_irrefl _ (by have := hs.2 h0; rwa [Th.str_ext c2] at this))
            · rw [if_neg c2]
              refine go ⟨⟨h1, h2⟩, fun _ => ?_⟩
              rcases Classical.em (Th.lt (l.getD (i - 1) z28).f0 (l.getD i z28).f0) with c | c
              · exact c
              · exact absurd (congrArg ByteArray.toList (Th.lt_total c1 c)) c2
        · rw [if_neg (by omega), hw, hb]
          exact go ⟨⟨h1, h2⟩, fun h => absurd h h0⟩
      · rw [if_neg (by simp only [Bool.and_eq_true, decide_eq_true_eq]; exact h2)]
        exact no (fun hs => h2 hs.1.2)
    · rw [if_neg h1]
      exact no (fun hs => h1 hs.1.1)
theorem spec_PairsValid_eq (l : List S28) (k : Nat) (hk : 2000 ≤ k) : spec_PairsValid.f k l = some (Th.pv S28.f0 S28.f1 l) := by
  unfold spec_PairsValid.f
  by_cases h : (l.length : Int) > 48
  · rw [if_pos h]
    congr 1
    symm
    rw [Bool.eq_false_iff]
    intro hp
    have := ((Th.pv_iff _ _ l).1 hp).1
    omega
  · rw [if_neg h]
    obtain ⟨b, hb, hb2⟩ := spec_PairsValid_l0 l (by omega) l.length 0 k (by omega) (by omega)
    rw [show ((0 : Nat) : Int) = 0 from rfl] at hb
    rw [hb]
    congr 1
    apply Th.bool_eq
    rw [hb2, Th.pv_iff, Th.pv_steps _ _ z28]
    constructor
    · exact fun h' => ⟨by omega, fun j hj => h' j (by omega) hj⟩
    · exact fun h' j _ hj => h'.2 j hj
theorem spec_l4Place_l0 (l : List S28) (s : ByteArray) (hl : l.length ≤ 4294967296) : ∀ (d i k : Nat), i + d = l.length → d < k → spec_l4Place.l0 k l s (i : Int) = some (((i + Th.place S28.f0 (l.drop i) s : Nat) : Int))
  | _, _, 0, _, h => by omega
  | 0, i, k + 1, h, _ => by
    rw [spec_l4Place.l0, if_neg (by omega), List.drop_of_length_le (by omega), Th.place_nil]
    rfl
  | d + 1, i, k + 1, h, hk => by
    have hi : i < l.length := by omega
    have ih := spec_l4Place_l0 l s hl d (i + 1) k (by omega) (by omega)
    have hw : wrap64 ((i : Int) + 1) = ((i + 1 : Nat) : Int) := by rw [Th.wrap_small (by omega) (by omega)]; omega
    rw [spec_l4Place.l0, if_pos (by omega), if_pos (by omega), show rd_T28 l (i : Int) = l.getD i z28 from rfl, hw, ih, List.drop_eq_getElem_cons hi, Th.getD_at _ l i hi]
    by_cases c : Th.lt (l[i]'hi).f0 s
    · rw [if_pos c, Th.place_pos _ c]
      congr 2
      omega
    · rw [if_neg c, Th.place_neg _ c]
      rfl
theorem spec_l4Place_eq (l : List S28) (s : ByteArray) (k : Nat) (hl : l.length ≤ 4294967296) (hk : l.length + 2 ≤ k) : spec_l4Place.f k l s = some ((Th.place S28.f0 l s : Nat) : Int) := by
  have := spec_l4Place_l0 l s hl l.length 0 k (by omega) (by omega)
  unfold spec_l4Place.f
  rw [show ((0 : Nat) : Int) = 0 from rfl] at this
  rw [this, List.drop_zero, Nat.zero_add]
theorem spec_PairPut_eq (l : List S28) (s : ByteArray) (v : Int) (k : Nat) (hk : 3000 ≤ k) : spec_PairPut.f k l s v = some (Th.putP S28.f0 S28.f1 S28.mk l s v) := by
  obtain ⟨k, rfl⟩ : ∃ m, k = m + 2 := ⟨k - 2, by omega⟩
  have no : ¬ (Th.pv S28.f0 S28.f1 l = true ∧ Th.kv s = true ∧ (0 ≤ v ∧ v ≤ 999)) → Th.putP S28.f0 S28.f1 S28.mk l s v = ([], false) := by
    intro h
    unfold Th.putP
    rw [if_neg h]
  unfold spec_PairPut.f
  rw [Option.bind_some, spec_PairsValid_eq l (k + 2) (by omega), Option.bind_some]
  by_cases h : Th.pv S28.f0 S28.f1 l = true
  · rw [if_pos h, spec_KeyValid_eq s (k + 2) (by omega), Option.bind_some]
    by_cases hk2 : Th.kv s = true
    · rw [if_pos hk2, spec_l1In_eq, Option.bind_some, spec_PairPut.j0]
      by_cases hv : 0 ≤ v ∧ v ≤ 999
      · have hl := ((Th.pv_iff _ _ l).1 h).1
        have hp := Th.place_le S28.f0 l s
        rw [decide_eq_true hv.1, decide_eq_true hv.2, if_neg (by simp), spec_l4Place_eq l s (k + 1) (by omega) (by omega), Option.bind_some]
        unfold Th.putP
        rw [if_pos (show Th.pv S28.f0 S28.f1 l = true ∧ Th.kv s = true ∧ (0 ≤ v ∧ v ≤ 999) from ⟨h, hk2, hv⟩), Th.foundAt_getD _ z28]
        generalize hq : Th.place S28.f0 l s = q at hp
        have ht : (l.take q).length = q := by rw [List.length_take]; omega
        have hd : (l.drop q).length = l.length - q := List.length_drop ..
        have fin : ∀ c : Bool, c = false → spec_PairPut.j1 (k + 1) l s v [] (q : Int) c = some (if 48 ≤ l.length then (l, false) else (l.take q ++ (⟨s, v⟩ : S28) :: l.drop q, true)) := by
          intro c hc
          subst hc
          rw [spec_PairPut.j1, if_neg (by simp)]
          by_cases h48 : (l.length : Int) ≥ 48
          · rw [if_pos h48, if_pos (by simp only [List.length_nil]; omega), if_pos (by omega), List.nil_append]
          · rw [if_neg h48, if_neg (show ¬ 48 ≤ l.length by omega), if_pos (by omega), if_pos (by omega)]
            simp only [Option.bind_some, Int.toNat_natCast, List.nil_append]
            rw [if_pos (by simp only [List.length_nil]; omega), if_pos (by omega), if_pos (by rw [List.length_append]; simp only [List.length_cons, List.length_nil]; omega), List.append_assoc]
            rfl
        by_cases e : q < l.length
        · rw [if_pos (by omega), if_pos (by omega), decide_eq_true e, Bool.true_and, show rd_T28 l (q : Int) = l.getD q z28 from rfl]
          by_cases c : (l.getD q z28).f0.toList = s.toList
          · have hset : l.set q (⟨s, v⟩ : S28) = l.take q ++ (⟨s, v⟩ : S28) :: l.drop (q + 1) := List.set_eq_take_append_cons_drop.trans (if_pos e)
            rw [show ((l.getD q z28).f0.toList == s.toList) = true by simpa using c, spec_PairPut.j1, if_pos rfl, if_pos (by simp only [List.length_nil]; omega), if_pos (show decide ((l.getD q z28).f0 = s) = true by simpa using Th.str_ext c)]
            simp only [Option.bind_some, List.nil_append]
            rw [if_pos (by omega), if_pos (by omega), Int.toNat_natCast, show rd_T28 l (q : Int) = l.getD q z28 from rfl, Th.str_ext c, hset]
          · rw [if_neg (show ¬ decide ((l.getD q z28).f0 = s) = true by rw [decide_eq_true_eq]; exact fun h => c (by rw [h]))]
            exact fin _ (by simpa using c)
        · rw [if_neg (by omega), decide_eq_false e, if_neg (by simp)]
          exact fin _ rfl
      · rw [if_pos, no (fun h => hv h.2.2)]
        rw [Bool.not_eq_true', Bool.and_eq_false_iff, decide_eq_false_iff_not, decide_eq_false_iff_not]
        omega
    · rw [if_neg hk2, spec_PairPut.j0, if_pos rfl, no (fun h => hk2 h.2.1)]
  · rw [if_neg h, spec_PairPut.j0, if_pos rfl, no (fun h' => h h'.1)]
theorem spec_l20Rd_pick_ok (xs : List Int) (p n : Int) (k : Nat) (hx : ∀ x ∈ xs, 0 ≤ x ∧ x ≤ 255) (hl : xs.length ≤ 4294967296) (hp : 0 ≤ p ∧ p ≤ 100000000) (hn : 1 ≤ n) (hk : 1 ≤ k) : ∃ v, 0 ≤ v ∧ v < n ∧ spec_l20Rd_pick.f k xs p n = some (v, p + 1) := by
  obtain ⟨k, rfl⟩ : ∃ m, k = m + 1 := ⟨k - 1, by omega⟩
  have w1 : wrap64 (p + 1) = p + 1 := Th.wrap_small (by omega) (by omega)
  have w2 : wrap64 (p + 1 - 1) = p := by rw [Th.wrap_small (by omega) (by omega)]; omega
  unfold spec_l20Rd_pick.f
  rw [if_neg (by omega), w1, spec_l20Rd_pick.j0]
  by_cases e : (xs.length : Int) = 0
  · rw [show ((xs.length : Int) == 0) = true by simpa using e, if_pos rfl]
    exact ⟨0, by omega, by omega, rfl⟩
  · rw [show ((xs.length : Int) == 0) = false by simpa using e, if_neg (by simp), w2]
    by_cases c : p < (xs.length : Int)
    · rw [if_pos c, if_pos (by omega), if_neg (by omega)]
      have h := Th.rd_u8 xs hx p
      rw [Th.wrap_small (x := rd xs p) (by omega) (by omega)]
      exact ⟨_, Int.tmod_nonneg _ h.1, Int.tmod_lt_of_pos _ (by omega), rfl⟩
    · have hL : (0 : Int) < xs.length := by omega
      have t1 : 0 ≤ Int.tmod p (xs.length : Int) := Int.tmod_nonneg _ hp.1
      have t2 : Int.tmod p (xs.length : Int) < (xs.length : Int) := Int.tmod_lt_of_pos _ hL
      have w3 : wrap64 (wrap64 (p * 7) + 3) = p * 7 + 3 := by rw [Th.wrap_small (x := p * 7) (by omega) (by omega), Th.wrap_small (by omega) (by omega)]
      have t3 : 0 ≤ Int.tmod (p * 7 + 3) (xs.length : Int) := Int.tmod_nonneg _ (by omega)
      have t4 : Int.tmod (p * 7 + 3) (xs.length : Int) < (xs.length : Int) := Int.tmod_lt_of_pos _ hL
      have hd : 0 ≤ Int.tdiv p (xs.length : Int) ∧ Int.tdiv p (xs.length : Int) ≤ 1000000000 := by
        rw [Int.tdiv_eq_ediv_of_nonneg hp.1]
        refine ⟨Int.ediv_nonneg hp.1 (by omega), ?_⟩
        have : p / (xs.length : Int) ≤ p := Int.ediv_le_self _ hp.1
        omega
      have hv := Th.pick_val (rd xs (Int.tmod p (xs.length : Int))) (rd xs (Int.tmod (p * 7 + 3) (xs.length : Int))) p (Int.tdiv p (xs.length : Int)) (Th.rd_u8 xs hx _) (Th.rd_u8 xs hx _) ⟨hp.1, by omega⟩ hd
      rw [if_neg c, if_neg e, if_pos t1, if_pos t2, w3, if_pos t3, if_pos t4, if_neg (by omega)]
      exact ⟨_, Int.tmod_nonneg _ hv, Int.tmod_lt_of_pos _ (by omega), rfl⟩
theorem spec_l20Rd_odd_ok (xs : List Int) (p n : Int) (k : Nat) (hx : ∀ x ∈ xs, 0 ≤ x ∧ x ≤ 255) (hl : xs.length ≤ 4294967296) (hp : 0 ≤ p ∧ p ≤ 100000000) (hk : 1 ≤ k) : ∃ b q, p ≤ q ∧ q ≤ p + 1 ∧ spec_l20Rd_odd.f k xs p n = some (b, q) := by
  unfold spec_l20Rd_odd.f
  by_cases h : n > 0
  · obtain ⟨v, _, _, hv⟩ := spec_l20Rd_pick_ok xs p n k hx hl hp (by omega) hk
    rw [if_pos h, hv]
    exact ⟨_, p + 1, by omega, by omega, rfl⟩
  · rw [if_neg h]
    exact ⟨_, p, by omega, by omega, rfl⟩
theorem spec_l20Value_ok (xs : List Int) (p n : Int) (k : Nat) (hx : ∀ x ∈ xs, 0 ≤ x ∧ x ≤ 255) (hl : xs.length ≤ 4294967296) (hp : 0 ≤ p ∧ p ≤ 90000000) (hk : 1 ≤ k) : ∃ v q, p ≤ q ∧ q ≤ p + 5 ∧ spec_l20Value.f k xs p n = some (v, q) := by
  obtain ⟨b, q, q0, q1, hb⟩ := spec_l20Rd_odd_ok xs p n k hx hl (by omega) (by omega)
  unfold spec_l20Value.f
  rw [hb, Option.bind_some]
  cases b with
  | true =>
    obtain ⟨v, v0, v1, hv⟩ := spec_l20Rd_pick_ok xs q 2 k hx hl (by omega) (by omega) (by omega)
    dsimp only
    rw [if_pos rfl, Option.bind_some, hv, Option.bind_some]
    dsimp only
    rw [if_pos v0, if_pos (by simp only [List.length_cons, List.length_nil]; omega)]
    exact ⟨_, _, by omega, by omega, rfl⟩
  | false =>
    obtain ⟨v, v0, v1, hv⟩ := spec_l20Rd_pick_ok xs q 20 k hx hl (by omega) (by omega) (by omega)
    obtain ⟨u, u0, u1, hu⟩ := spec_l20Rd_pick_ok xs (q + 1) 9 k hx hl (by omega) (by omega) (by omega)
    have ht : wrap64 (Int.tdiv u 8) = u / 8 := by rw [Int.tdiv_eq_ediv_of_nonneg u0, Th.wrap_small (by omega) (by omega)]
    dsimp only
    rw [if_neg (by simp), hv, Option.bind_some]
    dsimp only
    rw [Option.bind_some, hu, Option.bind_some]
    dsimp only
    rw [ht, if_pos (by omega), if_pos (by simp only [List.length_cons, List.length_nil]; omega)]
    exact ⟨_, _, by omega, by omega, rfl⟩
theorem spec_l20Key_l0 (xs : List Int) (hx : ∀ x ∈ xs, 0 ≤ x ∧ x ≤ 255) (hl : xs.length ≤ 4294967296) : ∀ (d k : Nat) (s : ByteArray) (p : Int), d < k → 0 ≤ p → p + d ≤ 100000000 → s.size + d ≤ 100 → ∃ r, r.size ≤ 100 ∧ spec_l20Key.l0 (k + 1) s (d : Int) xs p = some (r, p + d)
  | 0, k, s, p, hk, h0, hp, hs => by
    rw [spec_l20Key.l0, if_neg (by omega)]
    exact ⟨s, by omega, by simp⟩
  | d + 1, 0, s, p, hk, h0, hp, hs => by omega
  | d + 1, k + 1, s, p, hk, h0, hp, hs => by
    obtain ⟨v, v0, v1, hv⟩ := spec_l20Rd_pick_ok xs p 4 (k + 1) hx hl ⟨h0, by omega⟩ (by omega) (by omega)
    have hz : ∀ y : List Int, (strOfNums y).size = y.length := strOfNums_size
    have hw : wrap64 (((d + 1 : Nat) : Int) - 1) = (d : Int) := by rw [Th.wrap_small (by omega) (by omega)]; omega
    obtain ⟨r, hr, he⟩ := spec_l20Key_l0 xs hx hl d k (s ++ strOfNums [(wrap64 (97 + v)) % 256]) (p + 1) (by omega) (by omega) (by omega) (by rw [ByteArray.size_append, hz]; simp only [List.length_cons, List.length_nil]; omega)
    rw [spec_l20Key.l0, if_pos (by omega), hv, Option.bind_some, Option.bind_some, if_pos (by rw [hz]; simp only [List.length_cons, List.length_nil]; omega), hw, he]
    exact ⟨r, hr, by rw [show p + 1 + (d : Int) = p + ((d + 1 : Nat) : Int) by omega]⟩
theorem spec_l20Key_ok (xs : List Int) (p n : Int) (k : Nat) (hx : ∀ x ∈ xs, 0 ≤ x ∧ x ≤ 255) (hl : xs.length ≤ 4294967296) (hp : 0 ≤ p ∧ p ≤ 90000000) (hk : 10 ≤ k) : ∃ s q, s.size ≤ 100 ∧ p ≤ q ∧ q ≤ p + 10 ∧ spec_l20Key.f k xs p n = some (s, q) := by
  obtain ⟨b, q, q0, q1, hb⟩ := spec_l20Rd_odd_ok xs p n k hx hl (by omega) (by omega)
  unfold spec_l20Key.f
  rw [hb, Option.bind_some]
  cases b with
  | true =>
    obtain ⟨v, v0, v1, hv⟩ := spec_l20Rd_pick_ok xs q 6 k hx hl (by omega) (by omega) (by omega)
    simp only [if_true, Option.bind_some]
    rw [hv, Option.bind_some, if_pos v0, if_pos (by simp only [List.length_cons, List.length_nil]; omega)]
    exact ⟨_, _, Th.rdOf_small _ 100 (by decide) _, by omega, by omega, rfl⟩
  | false =>
    obtain ⟨v, v0, v1, hv⟩ := spec_l20Rd_pick_ok xs q 12 k hx hl (by omega) (by omega) (by omega)
    simp only [Bool.false_eq_true, if_false]
    rw [hv, Option.bind_some]
    by_cases c : v = 11
    · obtain ⟨u, u0, u1, hu⟩ := spec_l20Rd_pick_ok xs (q + 1) 5 k hx hl (by omega) (by omega) (by omega)
      rw [if_pos c, Option.bind_some, hu, Option.bind_some, if_pos u0, if_pos (by simp only [List.length_cons, List.length_nil]; omega)]
      exact ⟨_, _, Th.rdOf_small _ 100 (by decide) _, by omega, by omega, rfl⟩
    · obtain ⟨u, u0, u1, hu⟩ := spec_l20Rd_pick_ok xs (q + 1) 2 k hx hl (by omega) (by omega) (by omega)
      obtain ⟨k, rfl⟩ : ∃ m, k = m + 1 := ⟨k - 1, by omega⟩
      obtain ⟨r, hr, he⟩ := spec_l20Key_l0 xs hx hl (1 + u).toNat k (⟨#[]⟩ : ByteArray) (q + 1 + 1) (by omega) (by omega) (by omega) (by rw [show ((⟨#[]⟩ : ByteArray)).size = 0 from rfl]; omega)
      rw [show (((1 + u).toNat : Nat) : Int) = 1 + u by omega] at he
      rw [if_neg c, hu, Option.bind_some, Th.wrap_small (x := 1 + u) (by omega) (by omega), he]
      exact ⟨r, _, hr, by omega, by omega, rfl⟩
theorem spec_l1Weight_eq (d : Nat) (h : d ≤ 4) : spec_l1Weight.f (d : Int) = some (Th.wt (d + 1)) := by
  have hc : d = 0 ∨ d = 1 ∨ d = 2 ∨ d = 3 ∨ d = 4 := by omega
  rcases hc with rfl | rfl | rfl | rfl | rfl <;> rfl
theorem spec_KeyAt_l0 : ∀ (f : Nat) (n : Int) (d k : Nat) (p : List UInt8), f + d = 3 → 0 ≤ n → n + 1 ≤ 26 * Th.wt (d + 1) → p.length ≤ d → f < k → spec_KeyAt.l0 k n (Th.mkS p) (d : Int) = some (Th.mkS (p ++ Th.keyL (f + 1) (n + 1) (d + 1)))
  | _, _, _, 0, _, _, _, _, _, h => by omega
  | f, n, d, k + 1, p, hf, h0, hn, hp, hk => by
    have hd4 : (d : Int) < 4 := by omega
    have hdn : d ≤ 4 := by omega
    obtain ⟨q0, q1, m0, m1, nb, wb, mz, ws⟩ := Th.div_facts (d := d + 1) (by omega) (by omega) h0 hn
    have hw := Th.wt_pos (d + 1)
    have hne : ¬ Th.wt (d + 1) = 0 := by omega
    have hb : wrap64 ((d : Int) + 1) = ((d + 1 : Nat) : Int) := by rw [Th.wrap_small (by omega) (by omega)]; omega
    have e2 : Int.tmod n (Th.wt (d + 1)) = n % Th.wt (d + 1) := Int.tmod_eq_emod_of_nonneg h0
    have e3 : Int.tdiv n (Th.wt (d + 1)) = n / Th.wt (d + 1) := Int.tdiv_eq_ediv_of_nonneg h0
    have hkl : Th.keyL (f + 1) (n + 1) (d + 1) = Th.chr (n / Th.wt (d + 1)) :: Th.keyL f (n % Th.wt (d + 1)) (d + 1 + 1) := by
      rw [Th.keyL, if_neg (show ¬ n + 1 = 0 from fun h => by clear e2 e3; omega), show n + 1 - 1 = n from Int.add_sub_cancel n 1]
    rw [spec_KeyAt.l0, if_pos hd4, spec_l1Weight_eq d hdn, hkl, hb]
    simp only [Option.bind_some]
    rw [if_neg hne, e2, e3]
    clear e2 e3 hkl hb hd4 hne hn
    generalize n / Th.wt (d + 1) = q at *
    generalize n % Th.wt (d + 1) = m at *
    generalize Th.wt (d + 1) = W at *
    have e4 : wrap64 (97 + wrap64 q) % 256 = ((97 + q).toNat : Int) := by
      rw [Th.wrap_small (x := q) (by omega) (by omega), Th.wrap_small (by omega) (by omega)]
      omega
    have he : strOfNums [((97 + q).toNat : Int)] = Th.mkS [Th.chr q] := Th.strOfNums_one _
    have hsz : (Th.mkS p).size + (Th.mkS [Th.chr q]).size ≤ 9223372036854775807 := by
      rw [Th.size_mkS, Th.size_mkS]
      simp only [List.length_cons, List.length_nil]
      omega
    rw [e4, he, if_pos hsz, if_neg (by omega), Th.append_mkS]
    clear e4 he hsz
    by_cases hz : m = 0
    · rw [if_pos hz, hz]
      cases f with
      | zero => rfl
      | succ f => rw [Th.keyL, if_pos rfl]
    · rw [if_neg hz]
      cases f with
      | zero => exact absurd (mz (by omega)) hz
      | succ f =>
        have hws := ws (by omega)
        have ih := spec_KeyAt_l0 f (m - 1) (d + 1) k (p ++ [Th.chr q]) (by omega) (by omega) (by omega) (by simp only [List.length_append, List.length_cons, List.length_nil]; omega) (by omega)
        rw [Th.wrap_small (by omega) (by omega), ih, show m - 1 + 1 = m by omega, List.append_assoc]
        rfl
theorem spec_KeyAt_eq (n : Int) (k : Nat) (hk : 1000 ≤ k) : spec_KeyAt.f k n = some (Th.kat n) := by
  unfold spec_KeyAt.f Th.kat
  rw [spec_l1In_eq, Option.bind_some]
  by_cases h : 0 ≤ n ∧ n ≤ 475253
  · have := spec_KeyAt_l0 3 n 0 k [] (by omega) h.1 (by simp only [Th.wt]; omega) (by simp) (by omega)
    rw [show ((0 : Nat) : Int) = 0 from rfl] at this
    rw [decide_eq_true h.1, decide_eq_true h.2, if_pos h]
    simp only [Bool.and_self, if_true]
    rw [Th.mkS_nil, this]
    rfl
  · rw [if_neg h, if_neg]
    · rfl
    · simp only [Bool.and_eq_true, decide_eq_true_eq]
      exact h
theorem spec_l20Pairs_j3 (xs : List Int) (n : Int) (hx : ∀ x ∈ xs, 0 ≤ x ∧ x ≤ 255) (hl : xs.length ≤ 4294967296) (A : List S28) (hA : A.length ≤ 50) (p : Int) (k : Nat) (hp : 0 ≤ p ∧ p ≤ 90000000) (hk : 10 ≤ k) : ∃ B q, p ≤ q ∧ q ≤ p + 2 ∧ B.length ≤ 51 ∧ spec_l20Pairs.j3 k n A xs p = some (B, q) := by
  obtain ⟨k, rfl⟩ : ∃ m, k = m + 1 := ⟨k - 1, by omega⟩
  obtain ⟨b, q, q0, q1, hb⟩ := spec_l20Rd_odd_ok xs p n k hx hl (by omega) (by omega)
  obtain ⟨v, v0, v1, hv⟩ := spec_l20Rd_pick_ok xs q 5 k hx hl (by omega) (by omega) (by omega)
  rw [spec_l20Pairs.j3, hb, Option.bind_some]
  cases b with
  | true =>
    dsimp only
    rw [if_pos rfl, Option.bind_some, hv, Option.bind_some]
    dsimp only
    rw [if_pos v0, if_pos (by simp only [List.length_cons, List.length_nil]; omega), if_pos (by omega)]
    exact ⟨_, _, by omega, by omega, by rw [List.length_append]; simp only [List.length_cons, List.length_nil]; omega, rfl⟩
  | false =>
    rw [if_neg (by simp)]
    exact ⟨_, _, by omega, by omega, by omega, rfl⟩
theorem spec_l20Pairs_l1 (xs : List Int) (n : Int) (hx : ∀ x ∈ xs, 0 ≤ x ∧ x ≤ 255) (hl : xs.length ≤ 4294967296) (p : Int) (hp : 0 ≤ p ∧ p ≤ 90000000) : ∀ (d i k : Nat) (A : List S28), i + d = 200 → A.length ≤ 50 → 2 * d + 4000 ≤ k → ∃ B q, p ≤ q ∧ q ≤ p + 2 ∧ B.length ≤ 51 ∧ spec_l20Pairs.l1 k n A (i : Int) xs p = some (B, q)
  | _, _, 0, _, _, _, h => by omega
  | _, _, 1, _, _, _, h => by omega
  | 0, i, k + 2, A, h, hA, hk => by
    have e : decide ((i : Int) < 200) = false := decide_eq_false (by omega)
    rw [spec_l20Pairs.l1, e]
    have := spec_l20Pairs_j3 xs n hx hl A hA p k hp (by omega)
    by_cases c : (A.length : Int) < 48
    · rw [if_pos c, spec_l20Pairs.j2, if_neg (by simp)]; exact this
    · rw [if_neg c, spec_l20Pairs.j2, if_neg (by simp)]; exact this
  | d + 1, i, k + 2, A, h, hA, hk => by
    have e : decide ((i : Int) < 200) = true := decide_eq_true (by omega)
    rw [spec_l20Pairs.l1, e]
    by_cases c : (A.length : Int) < 48
    · have hw : wrap64 ((i : Int) + 1) = ((i + 1 : Nat) : Int) := by rw [Th.wrap_small (by omega) (by omega)]; omega
      rw [if_pos c, spec_l20Pairs.j2, if_pos rfl, spec_KeyAt_eq _ k (by omega), Option.bind_some, spec_PairPut_eq _ _ _ k (by omega), Option.bind_some, hw]
      exact spec_l20Pairs_l1 xs n hx hl p hp d (i + 1) k _ (by omega) (Th.putP_len _ _ _ _ _ _) (by omega)
    · rw [if_neg c, spec_l20Pairs.j2, if_neg (by simp)]
      exact spec_l20Pairs_j3 xs n hx hl A hA p k hp (by omega)
theorem spec_l20Pairs_l0 (xs : List Int) (n : Int) (hx : ∀ x ∈ xs, 0 ≤ x ∧ x ≤ 255) (hl : xs.length ≤ 4294967296) : ∀ (d k : Nat) (A : List S28) (p : Int), A.length ≤ 50 → 0 ≤ p → p + 20 * d ≤ 80000000 → d + 5000 ≤ k → ∃ B q, p ≤ q ∧ q ≤ p + 20 * d + 5 ∧ B.length ≤ 51 ∧ spec_l20Pairs.l0 k n A (d : Int) xs p = some (B, q)
  | _, 0, _, _, _, _, _, h => by omega
  | 0, k + 1, A, p, hA, h0, hp, hk => by
    obtain ⟨v, v0, v1, hv⟩ := spec_l20Rd_pick_ok xs p 16 k hx hl (by omega) (by omega) (by omega)
    rw [spec_l20Pairs.l0, if_neg (by omega), hv, Option.bind_some]
    dsimp only
    by_cases c : v = 15
    · obtain ⟨B, q, q0, q1, h1, h2⟩ := spec_l20Pairs_l1 xs n hx hl (p + 1) (by omega) 200 0 k A (by omega) hA (by omega)
      rw [if_pos c]
      exact ⟨B, q, by omega, by omega, h1, h2⟩
    · obtain ⟨B, q, q0, q1, h1, h2⟩ := spec_l20Pairs_j3 xs n hx hl A hA (p + 1) k (by omega) (by omega)
      rw [if_neg c]
      exact ⟨B, q, by omega, by omega, h1, h2⟩
  | d + 1, k + 1, A, p, hA, h0, hp, hk => by
    obtain ⟨s, q, _, q0, q1, hs⟩ := spec_l20Key_ok xs p 0 k hx hl (by omega) (by omega)
    obtain ⟨v, r, r0, r1, hv⟩ := spec_l20Value_ok xs q 0 k hx hl (by omega) (by omega)
    have hw : wrap64 (((d + 1 : Nat) : Int) - 1) = (d : Int) := by rw [Th.wrap_small (by omega) (by omega)]; omega
    obtain ⟨B, q', g0, g1, h1, h2⟩ := spec_l20Pairs_l0 xs n hx hl d k (Th.putP S28.f0 S28.f1 S28.mk A s v).1 r (Th.putP_len _ _ _ _ _ _) (by omega) (by omega) (by omega)
    rw [spec_l20Pairs.l0, if_pos (by omega), hs, Option.bind_some]
    dsimp only
    rw [hv, Option.bind_some]
    dsimp only
    rw [spec_PairPut_eq _ _ _ k (by omega), Option.bind_some, hw, h2]
    exact ⟨B, q', by omega, by omega, h1, rfl⟩
theorem spec_l20Pairs_ok (xs : List Int) (p n : Int) (k : Nat) (hx : ∀ x ∈ xs, 0 ≤ x ∧ x ≤ 255) (hl : xs.length ≤ 4294967296) (hp : 0 ≤ p ∧ p ≤ 70000000) (hk : 6000 ≤ k) : ∃ A q, p ≤ q ∧ q ≤ p + 200 ∧ A.length ≤ 51 ∧ spec_l20Pairs.f k xs p n = some (A, q) := by
  obtain ⟨v, v0, v1, hv⟩ := spec_l20Rd_pick_ok xs p 9 k hx hl (by omega) (by omega) (by omega)
  obtain ⟨B, q, q0, q1, h1, h2⟩ := spec_l20Pairs_l0 xs n hx hl v.toNat k [] (p + 1) (by simp) (by omega) (by omega) (by omega)
  rw [show ((v.toNat : Nat) : Int) = v by omega] at h2
  unfold spec_l20Pairs.f
  rw [hv, Option.bind_some]
  dsimp only
  rw [h2]
  exact ⟨B, q, by omega, by omega, h1, rfl⟩
theorem spec_l20Open_ok (l : List Int) (hx : ∀ x ∈ l, (Lit.int .u8 x).wf = true) (hl : l.length ≤ 4294967296) : ∃ xs : List Int, (∀ x ∈ xs, 0 ≤ x ∧ x ≤ 255) ∧ xs.length ≤ 4294967296 ∧ spec_l20Open.f l = some (xs, 0) := by
  unfold spec_l20Open.f
  by_cases h : (l.length : Int) > 2000
  · rw [if_pos h, if_pos (by omega)]
    exact ⟨l.take 2000, fun x hm => Th.u8_range (hx x (List.mem_of_mem_take hm)), by rw [List.length_take]; omega, rfl⟩
  · rw [if_neg h]
    exact ⟨l, fun x hm => Th.u8_range (hx x hm), hl, rfl⟩
theorem spec_l20Span_j0_ok (a b : ByteArray) (xs : List Int) (p : Int) (k : Nat) : ∃ s t, spec_l20Span.j0 (k + 1) a b xs p = some (s, t, p) := by
  rw [spec_l20Span.j0]
  by_cases h1 : Op.bytesLess a.toList b.toList = true
  · rw [if_pos h1]; exact ⟨_, _, rfl⟩
  · rw [if_neg h1]
    by_cases h2 : Op.bytesLess b.toList a.toList = true
    · rw [if_pos h2]; exact ⟨_, _, rfl⟩
    · rw [if_neg h2]; exact ⟨_, _, rfl⟩
theorem spec_l20Span_ok (xs : List Int) (p n : Int) (k : Nat) (hx : ∀ x ∈ xs, 0 ≤ x ∧ x ≤ 255) (hl : xs.length ≤ 4294967296) (hp : 0 ≤ p ∧ p ≤ 80000000) (hk : 20 ≤ k) : ∃ s t q, p ≤ q ∧ q ≤ p + 40 ∧ spec_l20Span.f k xs p n = some (s, t, q) := by
  obtain ⟨b, q, q0, q1, hb⟩ := spec_l20Rd_odd_ok xs p n k hx hl (by omega) (by omega)
  unfold spec_l20Span.f
  rw [hb, Option.bind_some]
  cases b with
  | true =>
    obtain ⟨v, v0, v1, hv⟩ := spec_l20Rd_pick_ok xs q 5 k hx hl (by omega) (by omega) (by omega)
    simp only [if_true, Option.bind_some]
    rw [hv, Option.bind_some, if_pos v0, if_pos (by simp only [List.length_cons, List.length_nil]; omega)]
    exact ⟨_, _, _, by omega, by omega, rfl⟩
  | false =>
    obtain ⟨s, q2, _, q20, q21, hs⟩ := spec_l20Key_ok xs q 0 k hx hl (by omega) (by omega)
    obtain ⟨t, q3, _, q30, q31, ht⟩ := spec_l20Key_ok xs q2 0 k hx hl (by omega) (by omega)
    obtain ⟨v, v0, v1, hv⟩ := spec_l20Rd_pick_ok xs q3 6 k hx hl (by omega) (by omega) (by omega)
    obtain ⟨k, rfl⟩ : ∃ m, k = m + 1 := ⟨k - 1, by omega⟩
    obtain ⟨j, j', hj⟩ := spec_l20Span_j0_ok s t xs (q3 + 1) k
    simp only [Bool.false_eq_true, if_false]
    rw [hs, Option.bind_some, ht, Option.bind_some, hv, Option.bind_some]
    dsimp only
    rw [hj]
    by_cases c0 : v = 0
    · rw [if_pos c0]; exact ⟨_, _, _, by omega, by omega, rfl⟩
    rw [if_neg c0]
    by_cases c1 : v = 1
    · rw [if_pos c1]; exact ⟨_, _, _, by omega, by omega, rfl⟩
    rw [if_neg c1]
    by_cases c2 : v = 2
    · rw [if_pos c2]
      by_cases c3 : t.toList = ([97] : List UInt8)
      · rw [if_pos c3]; exact ⟨_, _, _, by omega, by omega, rfl⟩
      · rw [if_neg c3]; exact ⟨_, _, _, by omega, by omega, rfl⟩
    · rw [if_neg c2]; exact ⟨_, _, _, by omega, by omega, rfl⟩
theorem spec_DrawPairScan_ok (l : List Int) (k : Nat) (hx : ∀ x ∈ l, (Lit.int .u8 x).wf = true) (hl : l.length ≤ 4294967296) (hk : 6000 ≤ k) : ∃ A s t m, A.length ≤ 51 ∧ -1 ≤ m ∧ m ≤ 49 ∧ spec_DrawPairScan.f k l = some (A, s, t, m) := by
  obtain ⟨xs, h1, h2, h3⟩ := spec_l20Open_ok l hx hl
  obtain ⟨A, q, _, _, hA, h4⟩ := spec_l20Pairs_ok xs 0 12 k h1 h2 (by omega) hk
  obtain ⟨s, t, q', _, _, h5⟩ := spec_l20Span_ok xs q 12 k h1 h2 (by omega) (by omega)
  obtain ⟨u, u0, u1, hu⟩ := spec_l20Rd_pick_ok xs q' 6 k h1 h2 (by omega) (by omega) (by omega)
  obtain ⟨v, v0, v1, hv⟩ := spec_l20Rd_pick_ok xs (q' + 1) 8 k h1 h2 (by omega) (by omega) (by omega)
  have hi : ∃ i : Nat, i < 4 ∧ rd ([0, 0, 0, 0, 1, 1, 2, 3] : List Int) v = (i : Int) := by
    obtain ⟨v, rfl⟩ := Int.eq_ofNat_of_zero_le v0
    have : v = 0 ∨ v = 1 ∨ v = 2 ∨ v = 3 ∨ v = 4 ∨ v = 5 ∨ v = 6 ∨ v = 7 := by omega
    rcases this with h | h | h | h | h | h | h | h <;> subst h
    · exact ⟨0, by omega, rfl⟩
    · exact ⟨0, by omega, rfl⟩
    · exact ⟨0, by omega, rfl⟩
    · exact ⟨0, by omega, rfl⟩
    · exact ⟨1, by omega, rfl⟩
    · exact ⟨1, by omega, rfl⟩
    · exact ⟨2, by omega, rfl⟩
    · exact ⟨3, by omega, rfl⟩
  obtain ⟨i, i4, hi⟩ := hi
  have hm : -1 ≤ rd ([u, 48, 49, (-1)] : List Int) (i : Int) ∧ rd ([u, 48, 49, (-1)] : List Int) (i : Int) ≤ 49 := by
    have : i = 0 ∨ i = 1 ∨ i = 2 ∨ i = 3 := by omega
    rcases this with h | h | h | h <;> subst h
    · show -1 ≤ u ∧ u ≤ 49
      omega
    · show -1 ≤ (48 : Int) ∧ (48 : Int) ≤ 49
      omega
    · show -1 ≤ (49 : Int) ∧ (49 : Int) ≤ 49
      omega
    · show -1 ≤ (-1 : Int) ∧ (-1 : Int) ≤ 49
      omega
  unfold spec_DrawPairScan.f
  rw [h3, Option.bind_some]
  dsimp only
  rw [h4, Option.bind_some]
  dsimp only
  rw [h5, Option.bind_some]
  dsimp only
  rw [hu, Option.bind_some]
  dsimp only
  rw [Option.bind_some, Option.bind_some, hv, Option.bind_some]
  dsimp only
  rw [if_pos v0, if_pos (by simp only [List.length_cons, List.length_nil]; omega), hi, if_pos (by omega), if_pos (by simp only [List.length_cons, List.length_nil]; omega)]
  exact ⟨A, s, t, _, hA, hm.1, hm.2, rfl⟩
theorem impl_copyOf_Pair_eq (l : List S28) (hl : l.length ≤ 4294967296) : impl_copyOf_Pair.f l = some l := by
  unfold impl_copyOf_Pair.f
  rw [if_pos (by omega)]
theorem impl_PairsIn_eq (l : List S28) (lo hi : ByteArray) (k : Nat) (hk : 3000 ≤ k) : impl_PairsIn.f k l lo hi = some (Th.inP S28.f0 S28.f1 l lo hi) := by
  obtain ⟨k, rfl⟩ : ∃ m, k = m + 1 := ⟨k - 1, by omega⟩
  unfold impl_PairsIn.f Th.inP
  rw [impl_PairsValid_eq l (k + 1) (by omega), Option.bind_some]
  by_cases h : Th.pv S28.f0 S28.f1 l = true
  · rw [if_pos h, impl_IntervalValid_eq lo hi (k + 1) (by omega), Option.bind_some, impl_PairsIn.j0]
    by_cases hv : Th.iv lo hi = true
    · have hP := (Th.pv_iff _ _ l).1 h
      have hl := hP.1
      obtain ⟨c1, c2⟩ := Th.inP_cut _ _ z28 l lo hi hP hv
      have p1 := Th.place_le S28.f0 l lo
      have p2 := Th.place_le S28.f0 l hi
      rw [hv, if_neg (by simp), if_pos ⟨h, rfl⟩, c2, impl_pairPlace_eq l lo hP, Option.bind_some]
      by_cases e : hi.toList = []
      · simp only [if_pos e] at c1 ⊢
        rw [if_pos (by omega), if_pos (by omega), if_pos (by omega), Int.toNat_natCast, Int.toNat_natCast, impl_copyOf_Pair_eq _ (by rw [List.length_drop, List.length_take]; omega)]
        rfl
      · simp only [if_neg e] at c1 ⊢
        rw [impl_pairPlace_eq l hi hP, Option.bind_some, if_pos (by omega), if_pos (by omega), if_pos (by omega), Int.toNat_natCast, Int.toNat_natCast, impl_copyOf_Pair_eq _ (by rw [List.length_drop, List.length_take]; omega)]
        rfl
    · rw [show (!Th.iv lo hi) = true by simpa using hv, if_pos rfl, if_neg (fun h' => hv h'.2)]
  · rw [if_neg h, impl_PairsIn.j0, if_pos rfl, if_neg (fun h' => h h'.1)]
theorem impl_PairScan_eq (l : List S28) (lo hi : ByteArray) (m : Int) (k : Nat) (hk : 3000 ≤ k) : impl_PairScan.f k l lo hi m = some (Th.scanP S28.f0 S28.f1 l lo hi m) := by
  unfold impl_PairScan.f Th.scanP
  by_cases h1 : m < 0
  · rw [if_pos h1, if_neg (by omega)]
  · rw [if_neg h1]
    by_cases h2 : m > 48
    · rw [if_pos h2, if_neg (by omega)]
    · rw [if_neg h2, if_pos (by omega), impl_PairsIn_eq l lo hi k hk, Option.bind_some]
      generalize Th.inP S28.f0 S28.f1 l lo hi = x
      have hm : mn m (x.length : Int) = if (x.length : Int) < m then (x.length : Int) else m := rfl
      rw [hm]
      by_cases h3 : (x.length : Int) < m
      · rw [if_pos h3, if_pos (by omega), if_pos (by omega), Int.toNat_natCast, List.take_of_length_le (Nat.le_refl _), List.take_of_length_le (by omega)]
      · rw [if_neg h3, if_pos (by omega), if_pos (by omega)]
theorem spec_IntervalValid_eq (lo hi : ByteArray) (k : Nat) (hk : 1000 ≤ k) : spec_IntervalValid.f k lo hi = some (Th.iv lo hi) := by
  unfold spec_IntervalValid.f
  simp only [spec_KeyValid_eq _ k hk, Option.bind_some]
  by_cases h2 : hi.toList = []
  · have e2 := Th.er_nil h2
    have k2 := Th.kv0_nil h2
    simp only [if_pos h2]
    by_cases h1 : lo.toList = []
    · rw [if_pos h1]
      congr 1
      exact ((Th.iv_iff lo hi).2 ⟨Th.kv0_nil h1, k2, .inl e2⟩).symm
    · rw [if_neg h1]
      cases hv : Th.kv lo with
      | true =>
        rw [if_pos rfl]
        congr 1
        exact ((Th.iv_iff lo hi).2 ⟨Th.kv0_of_kv hv, k2, .inl e2⟩).symm
      | false =>
        rw [if_neg (by simp)]
        congr 1
        symm
        rw [Bool.eq_false_iff]
        intro h
        have := ((Th.kv0_iff lo).1 ((Th.iv_iff lo hi).1 h).1)
        rcases this with h' | h'
        · exact h1 h'
        · rw [hv] at h'; cases h'
  · simp only [if_neg h2]
    cases hv2 : Th.kv hi with
    | false =>
      have hf : Th.iv lo hi = false := by
        rw [Bool.eq_false_iff]
        intro h
        rcases (Th.kv0_iff hi).1 ((Th.iv_iff lo hi).1 h).2.1 with h' | h'
        · exact h2 h'
        · rw [hv2] at h'; cases h'
      rw [hf]
      by_cases h1 : lo.toList = []
      · rw [if_pos h1]; simp
      · rw [if_neg h1]; cases Th.kv lo <;> simp
    | true =>
      have k2 := Th.kv0_of_kv hv2
      have p2 := Th.er_pos hv2
      by_cases h1 : lo.toList = []
      · have hl : Op.bytesLess lo.toList hi.toList = true := (Th.lt_iff (Th.kv0_nil h1) k2).2 (by rw [Th.er_nil h1]; omega)
        rw [if_pos h1, if_pos rfl, if_pos hl]
        congr 1
        apply Th.bool_eq
        rw [bne_iff_ne, Ne, Th.er_a hi k2, Th.iv_iff, Th.er_nil h1]
        constructor
        · intro h; exact ⟨Th.kv0_nil h1, k2, .inr ⟨by omega, by omega⟩⟩
        · rintro ⟨_, _, h | h⟩ <;> omega
      · rw [if_neg h1]
        cases hv1 : Th.kv lo with
        | false =>
          rw [if_neg (by simp)]
          congr 1
          symm
          rw [Bool.eq_false_iff]
          intro h
          rcases (Th.kv0_iff lo).1 ((Th.iv_iff lo hi).1 h).1 with h' | h'
          · exact h1 h'
          · rw [hv1] at h'; cases h'
        | true =>
          have k1 := Th.kv0_of_kv hv1
          have p1 := Th.er_pos hv1
          rw [if_pos rfl, if_pos rfl]
          by_cases hl : Th.lt lo hi
          · have hl' := (Th.lt_iff k1 k2).1 hl
            rw [if_pos hl]
            congr 1
            exact ((Th.iv_iff lo hi).2 ⟨k1, k2, .inr ⟨hl', by omega⟩⟩).symm
          · have hl' : ¬ Th.er lo < Th.er hi := fun h => hl ((Th.lt_iff k1 k2).2 h)
            rw [if_neg hl]
            congr 1
            symm
            rw [Bool.eq_false_iff]
            intro h
            rcases ((Th.iv_iff lo hi).1 h).2.2 with h | h <;> omega
theorem spec_IntervalHas_eq (lo hi key : ByteArray) (k : Nat) (hk : 1000 ≤ k) : spec_IntervalHas.f k lo hi key = some (Th.hasI lo hi key) := by
  unfold spec_IntervalHas.f Th.hasI
  simp only [spec_KeyValid_eq _ k hk, spec_IntervalValid_eq _ _ k hk, Option.bind_some]
  cases hv : Th.iv lo hi with
  | false => simp
  | true =>
    rw [if_pos rfl]
    cases hk2 : Th.kv key with
    | false => simp
    | true =>
      have hi2 := (Th.iv_iff lo hi).1 hv
      have h3 := Th.kv0_of_kv hk2
      rw [if_pos rfl]
      by_cases hl : Th.lt key lo
      · have := (Th.lt_iff h3 hi2.1).1 hl
        rw [if_pos hl]
        congr 1
        symm
        rw [decide_eq_false_iff_not]
        omega
      · have hn : ¬ Th.er key < Th.er lo := fun h => hl ((Th.lt_iff h3 hi2.1).2 h)
        rw [if_neg hl]
        by_cases e : hi.toList = []
        · rw [if_pos e]
          congr 1
          symm
          rw [decide_eq_true_eq]
          exact ⟨rfl, rfl, by omega, .inl (Th.er_nil e)⟩
        · rw [if_neg e]
          congr 1
          apply Th.bool_eq
          have : Th.er hi ≠ 0 := fun h => e ((Th.er_eq_zero hi2.2.1).1 h)
          rw [show (Op.bytesLess key.toList hi.toList = true) = Th.lt key hi from rfl, Th.lt_iff h3 hi2.2.1, decide_eq_true_eq]
          constructor
          · intro h; exact ⟨rfl, rfl, by omega, .inr h⟩
          · rintro ⟨_, _, _, h | h⟩
            · exact absurd h this
            · exact h
theorem spec_PairScan_l0 (l : List S28) (hl : l.length ≤ 48) (lo hi : ByteArray) (m : Nat) (hm : m ≤ 48) : ∀ (d i k : Nat) (o : List S28), i + d = l.length → 2 * d + 1010 ≤ k → o.length ≤ m → spec_PairScan.l0 k l (m : Int) o (i : Int) lo hi = some (o ++ ((l.drop i).filter fun p => Th.hasI lo hi p.f0).take (m - o.length))
  | _, _, 0, _, _, h, _ => by omega
  | _, _, 1, _, _, h, _ => by omega
  | 0, i, k + 2, o, h, _, _ => by
    rw [spec_PairScan.l0, if_neg (by omega), spec_PairScan.j2, if_neg (by simp), List.drop_of_length_le (by omega)]
    simp
  | d + 1, i, k + 2, o, h, hk, ho => by
    have hi' : i < l.length := by omega
    have hw : wrap64 ((i : Int) + 1) = ((i + 1 : Nat) : Int) := by rw [Th.wrap_small (by omega) (by omega)]; omega
    rw [spec_PairScan.l0, if_pos (by omega), spec_PairScan.j2]
    by_cases hlt : (o.length : Int) < (m : Int)
    · rw [decide_eq_true hlt, if_pos rfl, if_pos (by omega), if_pos (by omega), show rd_T28 l (i : Int) = l.getD i z28 from rfl, spec_IntervalHas_eq _ _ _ k (by omega), Option.bind_some, hw, List.drop_eq_getElem_cons hi', Th.getD_at _ l i hi']
      by_cases c : Th.hasI lo hi (l[i]'hi').f0 = true
      · rw [if_pos c, if_pos (by omega), List.filter_cons_of_pos (by simpa using c), spec_PairScan_l0 l hl lo hi m hm d (i + 1) k _ (by omega) (by omega) (by simp only [List.length_append, List.length_cons, List.length_nil]; omega)]
        obtain ⟨n, hn⟩ : ∃ n, m - o.length = n + 1 := ⟨m - o.length - 1, by omega⟩
        rw [hn, List.take_succ_cons, List.append_assoc, show m - (o ++ [(⟨(l[i]'hi').f0, (l[i]'hi').f1⟩ : S28)]).length = n by simp only [List.length_append, List.length_cons, List.length_nil]; omega]
        rfl
      · rw [if_neg c, List.filter_cons_of_neg (by simpa using c), spec_PairScan_l0 l hl lo hi m hm d (i + 1) k o (by omega) (by omega) ho]
    · rw [decide_eq_false hlt, if_neg (by simp), show m - o.length = 0 by omega]
      simp
theorem spec_PairScan_eq (l : List S28) (lo hi : ByteArray) (m : Int) (k : Nat) (hk : 3000 ≤ k) : spec_PairScan.f k l lo hi m = some (Th.scanP S28.f0 S28.f1 l lo hi m) := by
  obtain ⟨k, rfl⟩ : ∃ j, k = j + 1 := ⟨k - 1, by omega⟩
  have no : ¬ (Th.pv S28.f0 S28.f1 l = true ∧ Th.iv lo hi = true ∧ (0 ≤ m ∧ m ≤ 48)) → Th.scanP S28.f0 S28.f1 l lo hi m = [] := by
    intro h
    unfold Th.scanP Th.inP
    by_cases h1 : 0 ≤ m ∧ m ≤ 48
    · rw [if_pos h1, if_neg (fun h' => h ⟨h'.1, h'.2, h1⟩)]; simp
    · rw [if_neg h1]
  unfold spec_PairScan.f
  rw [Option.bind_some, spec_PairsValid_eq l (k + 1) (by omega), Option.bind_some]
  by_cases h : Th.pv S28.f0 S28.f1 l = true
  · rw [if_pos h, spec_IntervalValid_eq lo hi (k + 1) (by omega), Option.bind_some]
    by_cases hv : Th.iv lo hi = true
    · rw [if_pos hv, spec_l1In_eq, Option.bind_some, spec_PairScan.j0]
      by_cases hm : 0 ≤ m ∧ m ≤ 48
      · have hl := ((Th.pv_iff _ _ l).1 h).1
        have := spec_PairScan_l0 l hl lo hi m.toNat (by omega) l.length 0 k [] (by omega) (by omega) (by simp)
        rw [show ((m.toNat : Nat) : Int) = m by omega, show ((0 : Nat) : Int) = 0 from rfl] at this
        rw [decide_eq_true hm.1, decide_eq_true hm.2, if_neg (by simp), this]
        unfold Th.scanP Th.inP
        rw [if_pos hm, if_pos ⟨h, hv⟩, List.drop_zero, List.nil_append]
        rfl
      · rw [if_pos, no (fun h => hm h.2.2)]
        rw [Bool.not_eq_true', Bool.and_eq_false_iff, decide_eq_false_iff_not, decide_eq_false_iff_not]
        omega
    · rw [if_neg hv, spec_PairScan.j0, if_pos rfl, no (fun h => hv h.2.1)]
  · rw [if_neg h, spec_PairScan.j0, if_pos rfl, no (fun h' => h h'.1)]
theorem scan_l0 (A x : List S28) (hA : A.length ≤ 100) (hl : x.length ≤ 48) (m : Int) (h0 : -1 ≤ m ∧ m ≤ 49) (lo hi : ByteArray) (hP : Th.PV S28.f0 S28.f1 x) (hm : ∀ p ∈ x, Th.hasI lo hi p.f0 = true ∧ Th.getP S28.f0 S28.f1 A p.f0 = p.f1) (hn : 0 < m → (x.length : Int) = m → Th.scanP S28.f0 S28.f1 A lo hi (m - 1) = x.take (x.length - 1)) : ∀ (d i k : Nat), i + d = x.length → d + 5001 ≤ k → laws_FnPairScan.l0 k A m x (i : Int) lo hi = some true
  | _, _, 0, _, h => by omega
  | 0, i, k + 1, h, hk => by
    obtain ⟨k, rfl⟩ : ∃ q, k = q + 1 := ⟨k - 1, by omega⟩
    have hv := (Th.pv_iff _ _ _).2 hP
    have no : laws_FnPairScan.j1 (k + 1) A m x false lo hi = some true := by
      rw [laws_FnPairScan.j1, if_neg (by simp), impl_PairsValid_eq x _ (by omega), Option.bind_some, if_pos hv, laws_alive_eq _ (by omega)]
      rfl
    rw [laws_FnPairScan.l0, if_neg (by omega)]
    by_cases c : (x.length : Int) = m
    · rw [if_pos c]
      by_cases e : m > 0
      · have hw : wrap64 ((x.length : Int) - 1) = ((x.length - 1 : Nat) : Int) := by rw [Th.wrap_small (by omega) (by omega)]; omega
        have hw2 : wrap64 (m - 1) = m - 1 := Th.wrap_small (by omega) (by omega)
        rw [decide_eq_true e, laws_FnPairScan.j1, if_pos rfl, impl_PairsValid_eq x _ (by omega), Option.bind_some, if_pos hv, hw, hw2, impl_PairScan_eq A lo hi _ _ (by omega), Option.bind_some, if_pos (by omega), if_pos (by omega), hn e c, Int.toNat_natCast, laws_samePairs_eq _ (by rw [List.length_take]; omega) _ (by omega)]
        rfl
      · rw [decide_eq_false e, no]
    · rw [if_neg c, no]
  | d + 1, i, k + 1, h, hk => by
    have hw : wrap64 ((i : Int) + 1) = ((i + 1 : Nat) : Int) := by rw [Th.wrap_small (by omega) (by omega)]; omega
    have ih := scan_l0 A x hA hl m h0 lo hi hP hm hn d (i + 1) k (by omega) (by omega)
    have hmi := hm _ (Th.getD_mem z28 x i (by omega))
    rw [laws_FnPairScan.l0, if_pos (by omega), if_pos (by omega), hw, show rd_T28 x (i : Int) = x.getD i z28 from rfl, impl_IntervalHas_eq _ _ _ k (by omega), Option.bind_some, if_pos hmi.1, impl_PairGet_eq A _ _ (by omega), Option.bind_some, if_pos hmi.2, ih]
theorem FnPairScan : laws_FnPairScan.Pure := by
  intro l _ hl hx
  refine ⟨9000, ?_⟩
  unfold laws_FnPairScan.f
  by_cases h : (l.length : Int) > 1048576
  · rw [if_pos h]
  obtain ⟨A, lo, hi, m, hA, m0, m1, hd⟩ := spec_DrawPairScan_ok l 9000 hx (by omega) (by omega)
  have hj := Th.scanP_len S28.f0 S28.f1 A lo hi m
  rw [if_neg h, hd, Option.bind_some]
  dsimp only
  rw [impl_PairScan_eq A lo hi m _ (by omega), Option.bind_some, spec_PairScan_eq A lo hi m _ (by omega), Option.bind_some, laws_samePairs_eq _ (by omega) _ (by omega), Option.bind_some, if_pos rfl]
  have hp := Th.in_pv S28.f0 S28.f1 A _ lo hi (Th.scan_sub S28.f0 S28.f1 A lo hi m)
  exact scan_l0 A _ (by omega) hj m ⟨m0, m1⟩ lo hi hp.1 hp.2 (fun h1 h2 => Th.scan_less _ _ A lo hi m h1 h2) _ 0 9000 (Nat.zero_add _) (by omega)

end Go.Proofs.Ytmbkffpcbknndaa.Pure
