/- The plain law of FnExactKeyRank: what the printed functions compute, and that it answers true: for every input that the statement lets in. -/
import Derived.Test.YtdceajeldlnkkaaPFnExactKeyRankx
import Derived.Test.YtdceajeldlnkkaaThA
namespace Go.Proofs.Ytdceajeldlnkkaa.Pure
open Go Go.RowKit Go.Proofs.Ytdceajeldlnkkaa.PFnExactKeyRank Go.Proofs.YtdceajeldlnkkaaW.PrintWords Go.Proofs.YtdceajeldlnkkaaW.PrintLast Go.Proofs.Ytdceajeldlnkkaa
set_option linter.unusedVariables false
set_option linter.unusedSimpArgs false
set_option maxRecDepth 10000
theorem spec_l1In_eq (a b c : Int) : spec_l1In.f a b c = some (decide (b ≤ a) && decide (a ≤ c)) := by
  unfold spec_l1In.f
  by_cases h : a ≥ b
  · rw [if_pos h, decide_eq_true (show b ≤ a from h), Bool.true_and]
  · rw [if_neg h, decide_eq_false (show ¬ b ≤ a from h), Bool.false_and]
theorem spec_KeyValid_l0 (l : List UInt8) (hl : l.length ≤ 4) : ∀ (d i k : Nat), i + d = l.length → d < k → spec_KeyValid.l0 k (Th.mkS l) (i : Int) = some ((l.drop i).all Th.letter)
  | _, _, 0, _, h => by omega
  | 0, i, k + 1, h, _ => by
    rw [spec_KeyValid.l0, if_neg (by rw [Th.size_mkS]; omega), List.drop_of_length_le (by omega)]; rfl
  | d + 1, i, k + 1, h, hk => by
    have ih := spec_KeyValid_l0 l hl d (i + 1) k (by omega) (by omega)
    have hi : i < l.length := by omega
    rw [spec_KeyValid.l0, if_pos (by rw [Th.size_mkS]; omega), if_pos (by omega), Th.bt_mkS l i hi, Th.wrap_small (by omega) (by omega), show ((i : Int) + 1) = ((i + 1 : Nat) : Int) by omega, ih, List.drop_eq_getElem_cons hi, List.all_cons]
    simp only [Th.letter]
    by_cases h1 : ((l[i]'hi).toNat : Int) < 97
    · rw [if_pos h1, decide_eq_false (show ¬ 97 ≤ ((l[i]'hi).toNat : Int) by omega)]; rfl
    · rw [if_neg h1, decide_eq_true (show 97 ≤ ((l[i]'hi).toNat : Int) by omega)]
      by_cases h2 : ((l[i]'hi).toNat : Int) > 122
      · rw [if_pos h2, decide_eq_false (show ¬ ((l[i]'hi).toNat : Int) ≤ 122 by omega)]; rfl
      · rw [if_neg h2, decide_eq_true (show ((l[i]'hi).toNat : Int) ≤ 122 by omega)]; rfl
theorem spec_KeyValid_eq (s : ByteArray) (k : Nat) (hk : 1000 ≤ k) : spec_KeyValid.f k s = some (Th.kv s) := by
  obtain ⟨l, rfl⟩ := Th.mkS_surj s
  unfold spec_KeyValid.f Th.kv Th.kvL
  rw [spec_l1In_eq, Th.toList_mkS, Th.size_mkS, Option.bind_some]
  by_cases h : 1 ≤ l.length ∧ l.length ≤ 4
  · have h0 := spec_KeyValid_l0 l h.2 l.length 0 k (by omega) (by omega)
    rw [show ((0 : Nat) : Int) = 0 from rfl] at h0
    rw [decide_eq_true (show (1 : Int) ≤ (l.length : Int) by omega), decide_eq_true (show (l.length : Int) ≤ 4 by omega), decide_eq_true h.1, decide_eq_true h.2, h0]
    rfl
  · by_cases h1 : 1 ≤ l.length
    · rw [decide_eq_false (show ¬ (l.length : Int) ≤ 4 by omega), decide_eq_false (show ¬ l.length ≤ 4 by omega)]; simp
    · rw [decide_eq_false (show ¬ (1 : Int) ≤ (l.length : Int) by omega), decide_eq_false h1]; simp
theorem spec_l1Weight_eq (d : Nat) (h : d ≤ 4) : spec_l1Weight.f (d : Int) = some (Th.wt (d + 1)) := by
  have hc : d = 0 ∨ d = 1 ∨ d = 2 ∨ d = 3 ∨ d = 4 := by omega
  rcases hc with rfl | rfl | rfl | rfl | rfl <;> rfl
theorem spec_KeyRank_l0 (l : List UInt8) (hl : Th.okL l 1) : ∀ (d i k : Nat) (n : Int), i + d = l.length → d < k → -1 ≤ n → n ≤ 475254 → n + Th.erL (l.drop i) (i + 1) ≤ 475254 → spec_KeyRank.l0 k (Th.mkS l) n (i : Int) = some (n + Th.erL (l.drop i) (i + 1))
  | _, _, 0, _, _, h, _, _, _ => by omega
  | 0, i, k + 1, n, h, _, _, _, _ => by
    rw [spec_KeyRank.l0, if_neg (by rw [Th.size_mkS]; omega), List.drop_of_length_le (by omega)]
    simp [Th.erL]
  | d + 1, i, k + 1, n, h, hk, hn0, hn1, hn2 => by
    have hi : i < l.length := by omega
    have hl4 := hl.1
    have hok : Th.okL (l.drop i) (i + 1) := ⟨by rw [List.length_drop]; omega, by omega, List.all_eq_true.2 (fun x hx => List.all_eq_true.1 hl.2.2 x (List.mem_of_mem_drop hx))⟩
    rw [List.drop_eq_getElem_cons hi] at hok hn2 ⊢
    obtain ⟨o1, o2, o3, o4⟩ := Th.okL_tail hok
    have hr := Th.erL_range _ _ o1
    have hd : i = 0 ∨ i = 1 ∨ i = 2 ∨ i = 3 := by omega
    simp only [Th.erL] at hn2 ⊢
    generalize hc : ((l[i]'hi).toNat : Int) = c at hn2 o2 o3 ⊢
    have hp : 0 ≤ (c - 97) * Th.wt (i + 1) ∧ (c - 97) * Th.wt (i + 1) ≤ 456975 := by
      rcases hd with rfl | rfl | rfl | rfl <;> simp only [Th.wt] <;> omega
    have ih := spec_KeyRank_l0 l hl d (i + 1) k (n + 1 + (c - 97) * Th.wt (i + 1)) (by omega) (by omega) (by omega) (by omega) (by omega)
    rw [spec_KeyRank.l0, if_pos (by rw [Th.size_mkS]; omega), if_pos (by omega), spec_l1Weight_eq i (by omega), Option.bind_some, Th.bt_mkS l i hi, hc, show (c - 97) % 256 = c - 97 by omega, Th.wrap_small (x := (c - 97) * Th.wt (i + 1)) (by omega) (by omega),
      Th.wrap_small (x := n + 1) (by omega) (by omega), Th.wrap_small (x := n + 1 + (c - 97) * Th.wt (i + 1)) (by omega) (by omega), Th.wrap_small (x := (i : Int) + 1) (by omega) (by omega), show ((i : Int) + 1) = ((i + 1 : Nat) : Int) by omega, ih]
    congr 1
    omega
theorem spec_KeyRank_eq (s : ByteArray) (k : Nat) (hk : 1000 ≤ k) : spec_KeyRank.f k s = some (Th.krank s) := by
  unfold spec_KeyRank.f Th.krank
  rw [spec_KeyValid_eq s k hk, Option.bind_some]
  by_cases h : Th.kv s = true
  · rw [if_pos h, if_pos h]
    have h0 := Th.kv0_of_kv h
    have hr := Th.er_range h0
    have := spec_KeyRank_l0 s.toList h0 s.toList.length 0 k (-1) (by omega) (by have := h0.1; omega) (by omega) (by omega) (by show -1 + Th.er s ≤ _; omega)
    rw [Th.mkS_toList, show ((0 : Nat) : Int) = 0 from rfl] at this
    rw [this]
    show some (-1 + Th.er s) = some (Th.er s - 1)
    congr 1
    omega
  · rw [if_neg h, if_neg h]
theorem impl_lettersOnly_eq : ∀ (l : List UInt8) (k : Nat), l.length < k → impl_lettersOnly.f k (Th.mkS l) = some (l.all Th.letter)
  | _, 0, h => by omega
  | [], k + 1, _ => by
    rw [impl_lettersOnly.f, if_pos (Th.toList_mkS [])]
    rfl
  | c :: l, k + 1, h => by
    have ih := impl_lettersOnly_eq l k (by simpa using h)
    have hs : (0 : Int) < ((Th.mkS (c :: l)).size : Int) := by rw [Th.size_mkS, List.length_cons]; omega
    have hx : (Th.mkS (c :: l)).extract 1 (Th.mkS (c :: l)).size = Th.mkS l := by rw [Th.extract_mkS, Th.size_mkS, List.take_length]; rfl
    have hs1 : (1 : Int) ≤ ((Th.mkS (c :: l)).size : Int) := by omega
    rw [impl_lettersOnly.f, if_neg (by rw [Th.toList_mkS]; simp), if_pos hs, if_pos hs1, hx, ih, Th.bt_zero]
    simp only [Option.bind_some, List.all_cons, Th.letter]
    by_cases h1 : (c.toNat : Int) ≥ 97
    · rw [if_pos h1, decide_eq_true (show 97 ≤ (c.toNat : Int) from h1)]
      by_cases h2 : (c.toNat : Int) ≤ 122
      · rw [if_pos h2, decide_eq_true h2]; rfl
      · rw [if_neg h2, decide_eq_false h2]; rfl
    · rw [if_neg h1, decide_eq_false (show ¬ 97 ≤ (c.toNat : Int) from h1)]; rfl
theorem impl_KeyValid_eq (s : ByteArray) (k : Nat) (hk : 1000 ≤ k) : impl_KeyValid.f k s = some (Th.kv s) := by
  obtain ⟨l, rfl⟩ := Th.mkS_surj s
  unfold impl_KeyValid.f Th.kv Th.kvL
  rw [Th.toList_mkS, Th.size_mkS]
  by_cases h1 : (l.length : Int) < 1
  · rw [if_pos h1, decide_eq_false (show ¬ 1 ≤ l.length by omega)]; rfl
  · rw [if_neg h1, decide_eq_true (show 1 ≤ l.length by omega)]
    by_cases h2 : (l.length : Int) > 4
    · rw [if_pos h2, decide_eq_false (show ¬ l.length ≤ 4 by omega)]; rfl
    · rw [if_neg h2, decide_eq_true (show l.length ≤ 4 by omega), impl_lettersOnly_eq l k (by omega)]; rfl
theorem impl_keysFrom_eq (d k : Nat) (h1 : 1 ≤ d) (hd : d ≤ 5) (hk : 6 ≤ k) : impl_keysFrom.f k (d : Int) = some (Th.wt d) := by
  obtain ⟨k, rfl⟩ : ∃ m, k = m + 4 := ⟨k - 4, by omega⟩
  have w : wrap64 2 = 2 ∧ wrap64 3 = 3 ∧ wrap64 4 = 4 ∧ wrap64 26 = 26 ∧ wrap64 27 = 27 ∧ wrap64 702 = 702 ∧ wrap64 703 = 703 ∧ wrap64 18278 = 18278 ∧ wrap64 18279 = 18279 := ⟨Th.wrap_small (by omega) (by omega), Th.wrap_small (by omega) (by omega), Th.wrap_small (by omega) (by omega), Th.wrap_small (by omega) (by omega), Th.wrap_small (by omega) (by omega), Th.wrap_small (by omega) (by omega), Th.wrap_small (by omega) (by omega), Th.wrap_small (by omega) (by omega), Th.wrap_small (by omega) (by omega)⟩
  have hc : d = 1 ∨ d = 2 ∨ d = 3 ∨ d = 4 ∨ d = 5 := by omega
  rcases hc with rfl | rfl | rfl | rfl | rfl <;> simp [impl_keysFrom.f, w, Th.wt]
theorem impl_rankBelow_eq : ∀ (l : List UInt8) (d k : Nat), Th.okL l d → l.length + 10 ≤ k → impl_rankBelow.f k (Th.mkS l) (d : Int) = some (Th.erL l d)
  | _, _, 0, _, h => by omega
  | [], d, k + 1, _, _ => by
    rw [impl_rankBelow.f, if_pos (Th.toList_mkS [])]
    rfl
  | c :: l, d, k + 1, hok, hk => by
    obtain ⟨o1, o2, o3, o4⟩ := Th.okL_tail hok
    have hk' : l.length + 10 ≤ k := by simp only [List.length_cons] at hk; omega
    have ih := impl_rankBelow_eq l (d + 1) k o1 hk'
    have hs : (0 : Int) < ((Th.mkS (c :: l)).size : Int) := by rw [Th.size_mkS, List.length_cons]; omega
    have hx : (Th.mkS (c :: l)).extract 1 (Th.mkS (c :: l)).size = Th.mkS l := by rw [Th.extract_mkS, Th.size_mkS, List.take_length]; rfl
    have hr := Th.erL_range l (d + 1) o1
    have hw := Th.wt_pos d
    have hd : d = 1 ∨ d = 2 ∨ d = 3 ∨ d = 4 := by have := hok.2.1; omega
    have hb : wrap64 ((d : Int) + 1) = ((d + 1 : Nat) : Int) := by rw [Th.wrap_small (by omega) (by omega)]; omega
    have hc : ((c.toNat : Int) - 97) % 256 = (c.toNat : Int) - 97 := by omega
    have hs1 : (1 : Int) ≤ ((Th.mkS (c :: l)).size : Int) := by omega
    rw [impl_rankBelow.f, if_neg (by rw [Th.toList_mkS]; simp), if_pos hs, impl_keysFrom_eq d k hok.2.1 (by omega) (by omega), Option.bind_some, if_pos hs1, hx, hb, ih, Th.bt_zero, hc]
    simp only [Option.bind_some, Th.erL]
    have key : ∀ x : Int, 0 ≤ x → x ≤ 25 → ∀ y : Int, 0 ≤ y → y ≤ 475254 → wrap64 (wrap64 (1 + wrap64 (x * Th.wt d)) + y) = 1 + x * Th.wt d + y := by
      intro x hx0 hx1 y hy0 hy1
      have : 0 ≤ x * Th.wt d ∧ x * Th.wt d ≤ 456975 := by
        rcases hd with rfl | rfl | rfl | rfl <;> simp only [Th.wt] <;> omega
      rw [Th.wrap_small (x := x * Th.wt d) (by omega) (by omega), Th.wrap_small (x := 1 + x * Th.wt d) (by omega) (by omega), Th.wrap_small (by omega) (by omega)]
    rw [key _ (by omega) (by omega) _ hr.1 (by rcases hd with rfl | rfl | rfl | rfl <;> simp only [Th.wt] at hr <;> omega)]
theorem impl_KeyRank_eq (s : ByteArray) (k : Nat) (hk : 1000 ≤ k) : impl_KeyRank.f k s = some (Th.krank s) := by
  unfold impl_KeyRank.f Th.krank
  rw [impl_KeyValid_eq s k hk, Option.bind_some]
  by_cases h : Th.kv s = true
  · rw [if_pos h, if_pos h]
    have h0 := Th.kv0_of_kv h
    have hr := Th.er_range h0
    have := impl_rankBelow_eq s.toList 1 k h0 (by have := h0.1; omega)
    rw [Th.mkS_toList, show ((1 : Nat) : Int) = 1 from rfl] at this
    rw [this, Option.bind_some]
    show some (wrap64 (Th.er s - 1)) = _
    rw [Th.wrap_small (by omega) (by omega)]
  · rw [if_neg h, if_neg h]
theorem FnExactKeyRank : laws_FnExactKeyRank.Pure := by
  intro s _
  refine ⟨1000, ?_⟩
  unfold laws_FnExactKeyRank.f
  rw [spec_KeyRank_eq s _ (Nat.le_refl _), impl_KeyRank_eq s _ (Nat.le_refl _)]
  simp

end Go.Proofs.Ytdceajeldlnkkaa.Pure
