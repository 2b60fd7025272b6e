/- The plain law of FnExactKeyAt: what the printed functions compute, and that it answers true: for every input that the statement lets in. -/
import Derived.Test.YtdceajeldlnkkaaPFnExactKeyAtx1
import Derived.Test.YtdceajeldlnkkaaThA
namespace Go.Proofs.Ytdceajeldlnkkaa.Pure
open Go Go.RowKit Go.Proofs.Ytdceajeldlnkkaa.PFnExactKeyAt Go.Proofs.YtdceajeldlnkkaaW.PrintWords Go.Proofs.YtdceajeldlnkkaaW.PrintLast Go.Proofs.Ytdceajeldlnkkaa
set_option linter.unusedVariables false
set_option linter.unusedSimpArgs false
set_option maxRecDepth 10000
theorem spec_l1In_eq (a b c : Int) : spec_l1In.f a b c = some (decide (b ≤ a) && decide (a ≤ c)) := by
  unfold spec_l1In.f
  by_cases h : a ≥ b
  · rw [if_pos h, decide_eq_true (show b ≤ a from h), Bool.true_and]
  · rw [if_neg h, decide_eq_false (show ¬ b ≤ a from h), Bool.false_and]
theorem spec_l1Weight_eq (d : Nat) (h : d ≤ 4) : spec_l1Weight.f (d : Int) = some (Th.wt (d + 1)) := by
  have hc : d = 0 ∨ d = 1 ∨ d = 2 ∨ d = 3 ∨ d = 4 := by omega
  rcases hc with rfl | rfl | rfl | rfl | rfl <;> rfl
theorem spec_KeyAt_l0 : ∀ (f : Nat) (n : Int) (d k : Nat) (p : List UInt8), f + d = 3 → 0 ≤ n → n + 1 ≤ 26 * Th.wt (d + 1) → p.length ≤ d → f < k → spec_KeyAt.l0 k n (Th.mkS p) (d : Int) = some (Th.mkS (p ++ Th.keyL (f + 1) (n + 1) (d + 1)))
  | _, _, _, 0, _, _, _, _, _, h => by omega
  | f, n, d, k + 1, p, hf, h0, hn, hp, hk => by
    have hd4 : (d : Int) < 4 := by omega
    have hdn : d ≤ 4 := by omega
    obtain ⟨q0, q1, m0, m1, nb, wb, mz, ws⟩ := Th.div_facts (d := d + 1) (by omega) (by omega) h0 hn
    have hw := Th.wt_pos (d + 1)
    have hne : ¬ Th.wt (d + 1) = 0 := by omega
    have hb : wrap64 ((d : Int) + 1) = ((d + 1 : Nat) : Int) := by rw [Th.wrap_small (by omega) (by omega)]; omega
    have e2 : Int.tmod n (Th.wt (d + 1)) = n % Th.wt (d + 1) := Int.tmod_eq_emod_of_nonneg h0
    have e3 : Int.tdiv n (Th.wt (d + 1)) = n / Th.wt (d + 1) := Int.tdiv_eq_ediv_of_nonneg h0
    have hkl : Th.keyL (f + 1) (n + 1) (d + 1) = Th.chr (n / Th.wt (d + 1)) :: Th.keyL f (n % Th.wt (d + 1)) (d + 1 + 1) := by
      rw [Th.keyL, if_neg (show ¬ n + 1 = 0 from fun h => by clear e2 e3; omega), show n + 1 - 1 = n from Int.add_sub_cancel n 1]
    rw [spec_KeyAt.l0, if_pos hd4, spec_l1Weight_eq d hdn, hkl, hb]
    simp only [Option.bind_some]
    rw [if_neg hne, e2, e3]
    clear e2 e3 hkl hb hd4 hne hn
    generalize n / Th.wt (d + 1) = q at *
    generalize n % Th.wt (d + 1) = m at *
    generalize Th.wt (d + 1) = W at *
    have e4 : wrap64 (97 + wrap64 q) % 256 = ((97 + q).toNat : Int) := by
      rw [Th.wrap_small (x := q) (by omega) (by omega), Th.wrap_small (by omega) (by omega)]
      omega
    have he : strOfNums [((97 + q).toNat : Int)] = Th.mkS [Th.chr q] := Th.strOfNums_one _
    have hsz : (Th.mkS p).size + (Th.mkS [Th.chr q]).size ≤ 9223372036854775807 := by
      rw [Th.size_mkS, Th.size_mkS]
      simp only [List.length_cons, List.length_nil]
      omega
    rw [e4, he, if_pos hsz, if_neg (by omega), Th.append_mkS]
    clear e4 he hsz
    by_cases hz : m = 0
    · rw [if_pos hz, hz]
      cases f with
      | zero => rfl
      | succ f => rw [Th.keyL, if_pos rfl]
    · rw [if_neg hz]
      cases f with
      | zero => exact absurd (mz (by omega)) hz
      | succ f =>
        have hws := ws (by omega)
        have ih := spec_KeyAt_l0 f (m - 1) (d + 1) k (p ++ [Th.chr q]) (by omega) (by omega) (by omega) (by simp only [List.length_append, List.length_cons, List.length_nil]; omega) (by omega)
        rw [Th.wrap_small (by omega) (by omega), ih, show m - 1 + 1 = m by omega, List.append_assoc]
        rfl
theorem spec_KeyAt_eq (n : Int) (k : Nat) (hk : 1000 ≤ k) : spec_KeyAt.f k n = some (Th.kat n) := by
  unfold spec_KeyAt.f Th.kat
  rw [spec_l1In_eq, Option.bind_some]
  by_cases h : 0 ≤ n ∧ n ≤ 475253
  · have := spec_KeyAt_l0 3 n 0 k [] (by omega) h.1 (by simp only [Th.wt]; omega) (by simp) (by omega)
    rw [show ((0 : Nat) : Int) = 0 from rfl] at this
    rw [decide_eq_true h.1, decide_eq_true h.2, if_pos h]
    simp only [Bool.and_self, if_true]
    rw [Th.mkS_nil, this]
    rfl
  · rw [if_neg h, if_neg]
    · rfl
    · simp only [Bool.and_eq_true, decide_eq_true_eq]
      exact h
theorem impl_keysFrom_eq (d k : Nat) (h1 : 1 ≤ d) (hd : d ≤ 5) (hk : 6 ≤ k) : impl_keysFrom.f k (d : Int) = some (Th.wt d) := by
  obtain ⟨k, rfl⟩ : ∃ m, k = m + 4 := ⟨k - 4, by omega⟩
  have w : wrap64 2 = 2 ∧ wrap64 3 = 3 ∧ wrap64 4 = 4 ∧ wrap64 26 = 26 ∧ wrap64 27 = 27 ∧ wrap64 702 = 702 ∧ wrap64 703 = 703 ∧ wrap64 18278 = 18278 ∧ wrap64 18279 = 18279 := ⟨Th.wrap_small (by omega) (by omega), Th.wrap_small (by omega) (by omega), Th.wrap_small (by omega) (by omega), Th.wrap_small (by omega) (by omega), Th.wrap_small (by omega) (by omega), Th.wrap_small (by omega) (by omega), Th.wrap_small (by omega) (by omega), Th.wrap_small (by omega) (by omega), Th.wrap_small (by omega) (by omega)⟩
  have hc : d = 1 ∨ d = 2 ∨ d = 3 ∨ d = 4 ∨ d = 5 := by omega
  rcases hc with rfl | rfl | rfl | rfl | rfl <;> simp [impl_keysFrom.f, w, Th.wt]
theorem impl_keyBelow_eq : ∀ (f : Nat) (n : Int) (d k : Nat), 1 ≤ d → f + d = 5 → 0 ≤ n → n ≤ 26 * Th.wt d → (f = 0 → n = 0) → 20 + f ≤ k → impl_keyBelow.f k n (d : Int) = some (Th.mkS (Th.keyL f n d))
  | _, _, _, 0, _, _, _, _, _, h => by omega
  | 0, n, d, k + 1, _, _, _, _, hz, _ => by
    rw [impl_keyBelow.f, if_pos (hz rfl)]
    rfl
  | f + 1, n, d, k + 1, h1, hf, h0, hn, _, hk => by
    rw [impl_keyBelow.f]
    unfold Th.keyL
    by_cases hz : n = 0
    · rw [if_pos hz, if_pos hz]; rfl
    · rw [if_neg hz, if_neg hz]
      have hw := Th.wt_pos d
      have hd : d = 1 ∨ d = 2 ∨ d = 3 ∨ d = 4 := by omega
      have hq : 0 ≤ (n - 1) / Th.wt d ∧ (n - 1) / Th.wt d < 26 := by
        rcases hd with rfl | rfl | rfl | rfl <;> simp only [Th.wt] at hn ⊢ <;> omega
      have hr : 0 ≤ (n - 1) % Th.wt d ∧ (n - 1) % Th.wt d ≤ 26 * Th.wt (d + 1) ∧ (f = 0 → (n - 1) % Th.wt d = 0) := by
        rcases hd with rfl | rfl | rfl | rfl <;> simp only [Th.wt] at hn ⊢ <;> omega
      have hnb : n ≤ 475254 := by rcases hd with rfl | rfl | rfl | rfl <;> simp only [Th.wt] at hn <;> omega
      have ih := impl_keyBelow_eq f ((n - 1) % Th.wt d) (d + 1) k (by omega) (by omega) hr.1 hr.2.1 hr.2.2 (by omega)
      have hb : wrap64 ((d : Int) + 1) = ((d + 1 : Nat) : Int) := by rw [Th.wrap_small (by omega) (by omega)]; omega
      have e1 : wrap64 (n - 1) = n - 1 := Th.wrap_small (by omega) (by omega)
      have e2 : Int.tmod (n - 1) (Th.wt d) = (n - 1) % Th.wt d := Int.tmod_eq_emod_of_nonneg (by omega)
      have e3 : Int.tdiv (n - 1) (Th.wt d) = (n - 1) / Th.wt d := Int.tdiv_eq_ediv_of_nonneg (by omega)
      have e4 : wrap32 (wrap64 (97 + wrap64 ((n - 1) / Th.wt d))) = 97 + (n - 1) / Th.wt d := by
        rw [Th.wrap_small (x := (n - 1) / Th.wt d) (by omega) (by omega), Th.wrap_small (by omega) (by omega)]
        unfold wrap32
        omega
      have he : Utf8.encode (97 + (n - 1) / Th.wt d) = Th.mkS [Th.chr ((n - 1) / Th.wt d)] := by
        unfold Th.chr
        rw [show 97 + (n - 1) / Th.wt d = ((97 + (n - 1) / Th.wt d).toNat : Int) by omega]
        exact Th.encode_small _ (by omega)
      have hlen : (Th.keyL f ((n - 1) % Th.wt d) (d + 1)).length ≤ 4 := by
        have := (Th.keyL_ok f ((n - 1) % Th.wt d) (d + 1) (by omega) (by omega) hr.1 hr.2.1 hr.2.2).1.1
        omega
      rw [impl_keysFrom_eq d k h1 (by omega) (by omega), Option.bind_some, if_neg (by omega), e1, e2, e3, hb, ih, Option.bind_some, e4, he, if_pos (by rw [Th.size_mkS, Th.size_mkS]; simp; omega), Th.append_mkS]
      rfl
theorem impl_KeyAt_eq (n : Int) (k : Nat) (hk : 1000 ≤ k) : impl_KeyAt.f k n = some (Th.kat n) := by
  unfold impl_KeyAt.f Th.kat
  by_cases h0 : n < 0
  · rw [if_pos h0, if_neg (by omega)]; rfl
  · rw [if_neg h0]
    by_cases h1 : n > 475253
    · rw [if_pos h1, if_neg (by omega)]; rfl
    · have := impl_keyBelow_eq 4 (n + 1) 1 k (by omega) (by omega) (by omega) (by simp only [Th.wt]; omega) (by omega) (by omega)
      rw [show ((1 : Nat) : Int) = 1 from rfl] at this
      rw [if_neg h1, if_pos (by omega), Th.wrap_small (by omega) (by omega), this]
      rfl
theorem FnExactKeyAt : laws_FnExactKeyAt.Pure := by
  intro n _
  refine ⟨1000, ?_⟩
  unfold laws_FnExactKeyAt.f
  rw [spec_KeyAt_eq n _ (Nat.le_refl _), impl_KeyAt_eq n _ (Nat.le_refl _)]
  simp

end Go.Proofs.Ytdceajeldlnkkaa.Pure
