/- The plain law of FnKeyAt: what the printed functions compute, and that it answers true: for every input that the statement lets in. -/
import Derived.Test.YtgpffbijmohfjaaPFnKeyAtx
import Derived.Test.YtgpffbijmohfjaaThA
import Derived.Test.YtgpffbijmohfjaaThB
import Derived.Test.YtgpffbijmohfjaaThL
import Derived.Test.YtgpffbijmohfjaaThR
namespace Go.Proofs.Ytgpffbijmohfjaa.Pure
open Go Go.RowKit Go.Proofs.Ytgpffbijmohfjaa.PFnKeyAt Go.Proofs.YtgpffbijmohfjaaW.PrintWords Go.Proofs.YtgpffbijmohfjaaW.PrintLast Go.Proofs.Ytgpffbijmohfjaa
set_option linter.unusedVariables false
set_option linter.unusedSimpArgs false
set_option maxRecDepth 10000
theorem impl_lettersOnly_eq : ∀ (l : List UInt8) (k : Nat), l.length < k → impl_lettersOnly.f k (Th.mkS l) = some (l.all Th.letter)
  | _, 0, h => by omega
  | [], k + 1, _ => by
    rw [impl_lettersOnly.f, if_pos (Th.toList_mkS [])]
    rfl
  | c :: l, k + 1, h => by
    have ih := impl_lettersOnly_eq l k (by simpa using h)
    have hs : (0 : Int) < ((Th.mkS (c :: l)).size : Int) := by rw [Th.size_mkS, List.length_cons]; omega
    have hx : (Th.mkS (c :: l)).extract 1 (Th.mkS (c :: l)).size = Th.mkS l := by rw [Th.extract_mkS, Th.size_mkS, List.take_length]; rfl
    have hs1 : (1 : Int) ≤ ((Th.mkS (c :: l)).size : Int) := by omega
    rw [impl_lettersOnly.f, if_neg (by rw [Th.toList_mkS]; simp), if_pos hs, if_pos hs1, hx, ih, Th.bt_zero]
    simp only [Option.bind_some, List.all_cons, Th.letter]
    by_cases h1 : (c.toNat : Int) ≥ 97
    · rw [if_pos h1, decide_eq_true (show 97 ≤ (c.toNat : Int) from h1)]
      by_cases h2 : (c.toNat : Int) ≤ 122
      · rw [if_pos h2, decide_eq_true h2]; rfl
      · rw [if_neg h2, decide_eq_false h2]; rfl
    · rw [if_neg h1, decide_eq_false (show ¬ 97 ≤ (c.toNat : Int) from h1)]; rfl
theorem impl_KeyValid_eq (s : ByteArray) (k : Nat) (hk : 1000 ≤ k) : impl_KeyValid.f k s = some (Th.kv s) := by
  obtain ⟨l, rfl⟩ := Th.mkS_surj s
  unfold impl_KeyValid.f Th.kv Th.kvL
  rw [Th.toList_mkS, Th.size_mkS]
  by_cases h1 : (l.length : Int) < 1
  · rw [if_pos h1, decide_eq_false (show ¬ 1 ≤ l.length by omega)]; rfl
  · rw [if_neg h1, decide_eq_true (show 1 ≤ l.length by omega)]
    by_cases h2 : (l.length : Int) > 4
    · rw [if_pos h2, decide_eq_false (show ¬ l.length ≤ 4 by omega)]; rfl
    · rw [if_neg h2, decide_eq_true (show l.length ≤ 4 by omega), impl_lettersOnly_eq l k (by omega)]; rfl
theorem impl_keysFrom_eq (d k : Nat) (h1 : 1 ≤ d) (hd : d ≤ 5) (hk : 6 ≤ k) : impl_keysFrom.f k (d : Int) = some (Th.wt d) := by
  obtain ⟨k, rfl⟩ : ∃ m, k = m + 4 := ⟨k - 4, by omega⟩
  have w : wrap64 2 = 2 ∧ wrap64 3 = 3 ∧ wrap64 4 = 4 ∧ wrap64 26 = 26 ∧ wrap64 27 = 27 ∧ wrap64 702 = 702 ∧ wrap64 703 = 703 ∧ wrap64 18278 = 18278 ∧ wrap64 18279 = 18279 := ⟨Th.wrap_small (by omega) (by omega), Th.wrap_small (by omega) (by omega), Th.wrap_small (by omega) (by omega), Th.wrap_small (by omega) (by omega), Th.wrap_small (by omega) (by omega), Th.wrap_small (by omega) (by omega), Th.wrap_small (by omega) (by omega), Th.wrap_small (by omega) (by omega), Th.wrap_small (by omega) (by omega)⟩
  have hc : d = 1 ∨ d = 2 ∨ d = 3 ∨ d = 4 ∨ d = 5 := by omega
  rcases hc with rfl | rfl | rfl | rfl | rfl <;> simp [impl_keysFrom.f, w, Th.wt]
theorem impl_rankBelow_eq : ∀ (l : List UInt8) (d k : Nat), Th.okL l d → l.length + 10 ≤ k → impl_rankBelow.f k (Th.mkS l) (d : Int) = some (Th.erL l d)
  | _, _, 0, _, h => by omega
  | [], d, k + 1, _, _ => by
    rw [impl_rankBelow.f, if_pos (Th.toList_mkS [])]
    rfl
  | c :: l, d, k + 1, hok, hk => by
    obtain ⟨o1, o2, o3, o4⟩ := Th.okL_tail hok
    have hk' : l.length + 10 ≤ k := by simp only [List.length_cons] at hk; omega
    have ih := impl_rankBelow_eq l (d + 1) k o1 hk'
    have hs : (0 : Int) < ((Th.mkS (c :: l)).size : Int) := by rw [Th.size_mkS, List.length_cons]; omega
    have hx : (Th.mkS (c :: l)).extract 1 (Th.mkS (c :: l)).size = Th.mkS l := by rw [Th.extract_mkS, Th.size_mkS, List.take_length]; rfl
    have hr := Th.erL_range l (d + 1) o1
    have hw := Th.wt_pos d
    have hd : d = 1 ∨ d = 2 ∨ d = 3 ∨ d = 4 := by have := hok.2.1; omega
    have hb : wrap64 ((d : Int) + 1) = ((d + 1 : Nat) : Int) := by rw [Th.wrap_small (by omega) (by omega)]; omega
    have hc : ((c.toNat : Int) - 97) % 256 = (c.toNat : Int) - 97 := by omega
    have hs1 : (1 : Int) ≤ ((Th.mkS (c :: l)).size : Int) := by omega
    rw [impl_rankBelow.f, if_neg (by rw [Th.toList_mkS]; simp), if_pos hs, impl_keysFrom_eq d k hok.2.1 (by omega) (by omega), Option.bind_some, if_pos hs1, hx, hb, ih, Th.bt_zero, hc]
    simp only [Option.bind_some, Th.erL]
    have key : ∀ x : Int, 0 ≤ x → x ≤ 25 → ∀ y : Int, 0 ≤ y → y ≤ 475254 → wrap64 (wrap64 (1 + wrap64 (x * Th.wt d)) + y) = 1 + x * Th.wt d + y := by
      intro x hx0 hx1 y hy0 hy1
      have : 0 ≤ x * Th.wt d ∧ x * Th.wt d ≤ 456975 := by
        rcases hd with rfl | rfl | rfl | rfl <;> simp only [Th.wt] <;> omega
      rw [Th.wrap_small (x := x * Th.wt d) (by omega) (by omega), Th.wrap_small (x := 1 + x * Th.wt d) (by omega) (by omega), Th.wrap_small (by omega) (by omega)]
    rw [key _ (by omega) (by omega) _ hr.1 (by rcases hd with rfl | rfl | rfl | rfl <;> simp only [Th.wt] at hr <;> omega)]
theorem impl_KeyRank_eq (s : ByteArray) (k : Nat) (hk : 1000 ≤ k) : impl_KeyRank.f k s = some (Th.krank s) := by
  unfold impl_KeyRank.f Th.krank
  rw [impl_KeyValid_eq s k hk, Option.bind_some]
  by_cases h : Th.kv s = true
  · rw [if_pos h, if_pos h]
    have h0 := Th.kv0_of_kv h
    have hr := Th.er_range h0
    have := impl_rankBelow_eq s.toList 1 k h0 (by have := h0.1; omega)
    rw [Th.mkS_toList, show ((1 : Nat) : Int) = 1 from rfl] at this
    rw [this, Option.bind_some]
    show some (wrap64 (Th.er s - 1)) = _
    rw [Th.wrap_small (by omega) (by omega)]
  · rw [if_neg h, if_neg h]
theorem laws_alive_eq (k : Nat) (hk : 2000 ≤ k) : laws_alive.f k = some true := by
  unfold laws_alive.f
  rw [impl_KeyRank_eq _ k (by omega), Option.bind_some, impl_KeyRank_eq _ k (by omega), Option.bind_some]
  have e1 : Th.krank (⟨#[97, 97]⟩ : ByteArray) = 1 := by
    show Th.krank (Th.mkS [97, 97]) = 1
    unfold Th.krank Th.kv Th.er
    rw [Th.toList_mkS]
    decide
  have e2 : Th.krank (⟨#[]⟩ : ByteArray) = -1 := by
    show Th.krank (Th.mkS []) = -1
    unfold Th.krank Th.kv Th.er
    rw [Th.toList_mkS]
    decide
  rw [e1, if_pos rfl, e2]
  rfl
theorem spec_l20Open_ok (l : List Int) (hx : ∀ x ∈ l, (Lit.int .u8 x).wf = true) (hl : l.length ≤ 4294967296) : ∃ xs : List Int, (∀ x ∈ xs, 0 ≤ x ∧ x ≤ 255) ∧ xs.length ≤ 4294967296 ∧ spec_l20Open.f l = some (xs, 0) := by
  unfold spec_l20Open.f
  by_cases h : (l.length : Int) > 2000
  · rw [if_pos h, if_pos (by omega)]
    exact ⟨l.take 2000, fun x hm => Th.u8_range (hx x (List.mem_of_mem_take hm)), by rw [List.length_take]; omega, rfl⟩
  · rw [if_neg h]
    exact ⟨l, fun x hm => Th.u8_range (hx x hm), hl, rfl⟩
theorem spec_l20Rd_pick_ok (xs : List Int) (p n : Int) (k : Nat) (hx : ∀ x ∈ xs, 0 ≤ x ∧ x ≤ 255) (hl : xs.length ≤ 4294967296) (hp : 0 ≤ p ∧ p ≤ 100000000) (hn : 1 ≤ n) (hk : 1 ≤ k) : ∃ v, 0 ≤ v ∧ v < n ∧ spec_l20Rd_pick.f k xs p n = some (v, p + 1) := by
  obtain ⟨k, rfl⟩ : ∃ m, k = m + 1 := ⟨k - 1, by omega⟩
  have w1 : wrap64 (p + 1) = p + 1 := Th.wrap_small (by omega) (by omega)
  have w2 : wrap64 (p + 1 - 1) = p := by rw [Th.wrap_small (by omega) (by omega)]; omega
  unfold spec_l20Rd_pick.f
  rw [if_neg (by omega), w1, spec_l20Rd_pick.j0]
  by_cases e : (xs.length : Int) = 0
  · rw [show ((xs.length : Int) == 0) = true by simpa using e, if_pos rfl]
    exact ⟨0, by omega, by omega, rfl⟩
  · rw [show ((xs.length : Int) == 0) = false by simpa using e, if_neg (by simp), w2]
    by_cases c : p < (xs.length : Int)
    · rw [if_pos c, if_pos (by omega), if_neg (by omega)]
      have h := Th.rd_u8 xs hx p
      rw [Th.wrap_small (x := rd xs p) (by omega) (by omega)]
      exact ⟨_, Int.tmod_nonneg _ h.1, Int.tmod_lt_of_pos _ (by omega), rfl⟩
    · have hL : (0 : Int) < xs.length := by omega
      have t1 : 0 ≤ Int.tmod p (xs.length : Int) := Int.tmod_nonneg _ hp.1
      have t2 : Int.tmod p (xs.length : Int) < (xs.length : Int) := Int.tmod_lt_of_pos _ hL
      have w3 : wrap64 (wrap64 (p * 7) + 3) = p * 7 + 3 := by rw [Th.wrap_small (x := p * 7) (by omega) (by omega), Th.wrap_small (by omega) (by omega)]
      have t3 : 0 ≤ Int.tmod (p * 7 + 3) (xs.length : Int) := Int.tmod_nonneg _ (by omega)
      have t4 : Int.tmod (p * 7 + 3) (xs.length : Int) < (xs.length : Int) := Int.tmod_lt_of_pos _ hL
      have hd : 0 ≤ Int.tdiv p (xs.length : Int) ∧ Int.tdiv p (xs.length : Int) ≤ 1000000000 := by
        rw [Int.tdiv_eq_ediv_of_nonneg hp.1]
        refine ⟨Int.ediv_nonneg hp.1 (by omega), ?_⟩
        have : p / (xs.length : Int) ≤ p := Int.ediv_le_self _ hp.1
        omega
      have hv := Th.pick_val (rd xs (Int.tmod p (xs.length : Int))) (rd xs (Int.tmod (p * 7 + 3) (xs.length : Int))) p (Int.tdiv p (xs.length : Int)) (Th.rd_u8 xs hx _) (Th.rd_u8 xs hx _) ⟨hp.1, by omega⟩ hd
      rw [if_neg c, if_neg e, if_pos t1, if_pos t2, w3, if_pos t3, if_pos t4, if_neg (by omega)]
      exact ⟨_, Int.tmod_nonneg _ hv, Int.tmod_lt_of_pos _ (by omega), rfl⟩
theorem spec_DrawKeyAt_ok (l : List Int) (k : Nat) (hx : ∀ x ∈ l, (Lit.int .u8 x).wf = true) (hl : l.length ≤ 4294967296) (hk : 10 ≤ k) : ∃ n : Int, -1 ≤ n ∧ n ≤ 1000000 ∧ spec_DrawKeyAt.f k l = some n := by
  obtain ⟨xs, h1, h2, h3⟩ := spec_l20Open_ok l hx hl
  obtain ⟨a, a0, a1, ha⟩ := spec_l20Rd_pick_ok xs 0 256 k h1 h2 (by omega) (by omega) (by omega)
  obtain ⟨b, b0, b1, hb⟩ := spec_l20Rd_pick_ok xs (0 + 1) 256 k h1 h2 (by omega) (by omega) (by omega)
  obtain ⟨c, c0, c1, hc⟩ := spec_l20Rd_pick_ok xs (0 + 1 + 1) 7 k h1 h2 (by omega) (by omega) (by omega)
  obtain ⟨d, d0, d1, hd⟩ := spec_l20Rd_pick_ok xs (0 + 1 + 1 + 1) 60 k h1 h2 (by omega) (by omega) (by omega)
  obtain ⟨e, e0, e1, he⟩ := spec_l20Rd_pick_ok xs (0 + 1 + 1 + 1 + 1) 9 k h1 h2 (by omega) (by omega) (by omega)
  have m0 : 0 ≤ a * b := Int.mul_nonneg a0 b0
  have m1 : a * b ≤ 255 * 255 := Int.mul_le_mul (by omega) (by omega) b0 (by omega)
  have m2 : 0 ≤ a * b * (1 + c) := Int.mul_nonneg m0 (by omega)
  have m3 : a * b * (1 + c) ≤ 255 * 255 * 7 := Int.mul_le_mul m1 (by omega) (by omega) (by omega)
  have w : wrap64 ((wrap64 (a * b)) * (wrap64 (1 + c))) = a * b * (1 + c) := by
    rw [Th.wrap_small (x := a * b) (by omega) (by omega), Th.wrap_small (x := 1 + c) (by omega) (by omega), Th.wrap_small (by omega) (by omega)]
  unfold spec_DrawKeyAt.f
  rw [h3, Option.bind_some, ha, Option.bind_some, hb, Option.bind_some, hc, Option.bind_some, hd, Option.bind_some, Option.bind_some, Option.bind_some, he, Option.bind_some, w]
  have hL : ∀ x ∈ [a * b * (1 + c), d, 475253, 475254, (-1)], -1 ≤ x ∧ x ≤ 1000000 := by
    intro x hx
    simp only [List.mem_cons, List.not_mem_nil, or_false] at hx
    rcases hx with rfl | rfl | rfl | rfl | rfl <;> omega
  generalize hLd : [a * b * (1 + c), d, 475253, 475254, (-1)] = L at hL ⊢
  have hLl : L.length = 5 := by rw [← hLd]; rfl
  have hI : ∀ x ∈ ([0, 0, 0, 0, 1, 1, 2, 3, 4] : List Int), 0 ≤ x ∧ x ≤ 4 := by decide
  have hg := hI _ (Th.getD_mem (0 : Int) [0, 0, 0, 0, 1, 1, 2, 3, 4] e.toNat (by simp only [List.length_cons, List.length_nil]; omega))
  have hg' : 0 ≤ rd [0, 0, 0, 0, 1, 1, 2, 3, 4] e ∧ rd [0, 0, 0, 0, 1, 1, 2, 3, 4] e ≤ 4 := hg
  have hm := hL _ (Th.getD_mem (0 : Int) L (rd [0, 0, 0, 0, 1, 1, 2, 3, 4] e).toNat (by omega))
  dsimp only
  rw [if_pos e0, if_pos (by simp only [List.length_cons, List.length_nil]; omega), if_pos hg'.1, if_pos (by omega)]
  exact ⟨_, hm.1, hm.2, rfl⟩
theorem impl_keyBelow_eq : ∀ (f : Nat) (n : Int) (d k : Nat), 1 ≤ d → f + d = 5 → 0 ≤ n → n ≤ 26 * Th.wt d → (f = 0 → n = 0) → 20 + f ≤ k → impl_keyBelow.f k n (d : Int) = some (Th.mkS (Th.keyL f n d))
  | _, _, _, 0, _, _, _, _, _, h => by omega
  | 0, n, d, k + 1, _, _, _, _, hz, _ => by
    rw [impl_keyBelow.f, if_pos (hz rfl)]
    rfl
  | f + 1, n, d, k + 1, h1, hf, h0, hn, _, hk => by
    rw [impl_keyBelow.f]
    unfold Th.keyL
    by_cases hz : n = 0
    · rw [if_pos hz, if_pos hz]; rfl
    · rw [if_neg hz, if_neg hz]
      have hw := Th.wt_pos d
      have hd : d = 1 ∨ d = 2 ∨ d = 3 ∨ d = 4 := by omega
      have hq : 0 ≤ (n - 1) / Th.wt d ∧ (n - 1) / Th.wt d < 26 := by
        rcases hd with rfl | rfl | rfl | rfl <;> simp only [Th.wt] at hn ⊢ <;> omega
      have hr : 0 ≤ (n - 1) % Th.wt d ∧ (n - 1) % Th.wt d ≤ 26 * Th.wt (d + 1) ∧ (f = 0 → (n - 1) % Th.wt d = 0) := by
        rcases hd with rfl | rfl | rfl | rfl <;> simp only [Th.wt] at hn ⊢ <;> omega
      have hnb : n ≤ 475254 := by rcases hd with rfl | rfl | rfl | rfl <;> simp only [Th.wt] at hn <;> omega
      have ih := impl_keyBelow_eq f ((n - 1) % Th.wt d) (d + 1) k (by omega) (by omega) hr.1 hr.2.1 hr.2.2 (by omega)
      have hb : wrap64 ((d : Int) + 1) = ((d + 1 : Nat) : Int) := by rw [Th.wrap_small (by omega) (by omega)]; omega
      have e1 : wrap64 (n - 1) = n - 1 := Th.wrap_small (by omega) (by omega)
      have e2 : Int.tmod (n - 1) (Th.wt d) = (n - 1) % Th.wt d := Int.tmod_eq_emod_of_nonneg (by omega)
      have e3 : Int.tdiv (n - 1) (Th.wt d) = (n - 1) / Th.wt d := Int.tdiv_eq_ediv_of_nonneg (by omega)
      have e4 : wrap32 (wrap64 (97 + wrap64 ((n - 1) / Th.wt d))) = 97 + (n - 1) / Th.wt d := by
        rw [Th.wrap_small (x := (n - 1) / Th.wt d) (by omega) (by omega), Th.wrap_small (by omega) (by omega)]
        unfold wrap32
        omega
      have he : Utf8.encode (97 + (n - 1) / Th.wt d) = Th.mkS [Th.chr ((n - 1) / Th.wt d)] := by
        unfold Th.chr
        rw [show 97 + (n - 1) / Th.wt d = ((97 + (n - 1) / Th.wt d).toNat : Int) by omega]
        exact Th.encode_small _ (by omega)
      have hlen : (Th.keyL f ((n - 1) % Th.wt d) (d + 1)).length ≤ 4 := by
        have := (Th.keyL_ok f ((n - 1) % Th.wt d) (d + 1) (by omega) (by omega) hr.1 hr.2.1 hr.2.2).1.1
        omega
      rw [impl_keysFrom_eq d k h1 (by omega) (by omega), Option.bind_some, if_neg (by omega), e1, e2, e3, hb, ih, Option.bind_some, e4, he, if_pos (by rw [Th.size_mkS, Th.size_mkS]; simp; omega), Th.append_mkS]
      rfl
theorem impl_KeyAt_eq (n : Int) (k : Nat) (hk : 1000 ≤ k) : impl_KeyAt.f k n = some (Th.kat n) := by
  unfold impl_KeyAt.f Th.kat
  by_cases h0 : n < 0
  · rw [if_pos h0, if_neg (by omega)]; rfl
  · rw [if_neg h0]
    by_cases h1 : n > 475253
    · rw [if_pos h1, if_neg (by omega)]; rfl
    · have := impl_keyBelow_eq 4 (n + 1) 1 k (by omega) (by omega) (by omega) (by simp only [Th.wt]; omega) (by omega) (by omega)
      rw [show ((1 : Nat) : Int) = 1 from rfl] at this
      rw [if_neg h1, if_pos (by omega), Th.wrap_small (by omega) (by omega), this]
      rfl
theorem spec_l1In_eq (a b c : Int) : spec_l1In.f a b c = some (decide (b ≤ a) && decide (a ≤ c)) := by
  unfold spec_l1In.f
  by_cases h : a ≥ b
  · rw [if_pos h, decide_eq_true (show b ≤ a from h), Bool.true_and]
  · rw [if_neg h, decide_eq_false (show ¬ b ≤ a from h), Bool.false_and]
theorem spec_l1Weight_eq (d : Nat) (h : d ≤ 4) : spec_l1Weight.f (d : Int) = some (Th.wt (d + 1)) := by
  have hc : d = 0 ∨ d = 1 ∨ d = 2 ∨ d = 3 ∨ d = 4 := by omega
  rcases hc with rfl | rfl | rfl | rfl | rfl <;> rfl
theorem spec_KeyAt_l0 : ∀ (f : Nat) (n : Int) (d k : Nat) (p : List UInt8), f + d = 3 → 0 ≤ n → n + 1 ≤ 26 * Th.wt (d + 1) → p.length ≤ d → f < k → spec_KeyAt.l0 k n (Th.mkS p) (d : Int) = some (Th.mkS (p ++ Th.keyL (f + 1) (n + 1) (d + 1)))
  | _, _, _, 0, _, _, _, _, _, h => by omega
  | f, n, d, k + 1, p, hf, h0, hn, hp, hk => by
    have hd4 : (d : Int) < 4 := by omega
    have hdn : d ≤ 4 := by omega
    obtain ⟨q0, q1, m0, m1, nb, wb, mz, ws⟩ := Th.div_facts (d := d + 1) (by omega) (by omega) h0 hn
    have hw := Th.wt_pos (d + 1)
    have hne : ¬ Th.wt (d + 1) = 0 := by omega
    have hb : wrap64 ((d : Int) + 1) = ((d + 1 : Nat) : Int) := by rw [Th.wrap_small (by omega) (by omega)]; omega
    have e2 : Int.tmod n (Th.wt (d + 1)) = n % Th.wt (d + 1) := Int.tmod_eq_emod_of_nonneg h0
    have e3 : Int.tdiv n (Th.wt (d + 1)) = n / Th.wt (d + 1) := Int.tdiv_eq_ediv_of_nonneg h0
    have hkl : Th.keyL (f + 1) (n + 1) (d + 1) = Th.chr (n / Th.wt (d + 1)) :: Th.keyL f (n % Th.wt (d + 1)) (d + 1 + 1) := by
      rw [Th.keyL, if_neg (show ¬ n + 1 = 0 from fun h => by clear e2 e3; omega), show n + 1 - 1 = n from Int.add_sub_cancel n 1]
    rw [spec_KeyAt.l0, if_pos hd4, spec_l1Weight_eq d hdn, hkl, hb]
    simp only [Option.bind_some]
    rw [if_neg hne, e2, e3]
    clear e2 e3 hkl hb hd4 hne hn
    generalize n / Th.wt (d + 1) = q at *
    generalize n % Th.wt (d + 1) = m at *
    generalize Th.wt (d + 1) = W at *
    have e4 : wrap64 (97 + wrap64 q) % 256 = ((97 + q).toNat : Int) := by
      rw [Th.wrap_small (x := q) (by omega) (by omega), Th.wrap_small (by omega) (by omega)]
      omega
    have he : strOfNums [((97 + q).toNat : Int)] = Th.mkS [Th.chr q] := Th.strOfNums_one _
    have hsz : (Th.mkS p).size + (Th.mkS [Th.chr q]).size ≤ 9223372036854775807 := by
      rw [Th.size_mkS, Th.size_mkS]
      simp only [List.length_cons, List.length_nil]
      omega
    rw [e4, he, if_pos hsz, if_neg (by omega), Th.append_mkS]
    clear e4 he hsz
    by_cases hz : m = 0
    · rw [if_pos hz, hz]
      cases f with
      | zero => rfl
      | succ f => rw [Th.keyL, if_pos rfl]
    · rw [if_neg hz]
      cases f with
      | zero => exact absurd (mz (by omega)) hz
      | succ f =>
        have hws := ws (by omega)
        have ih := spec_KeyAt_l0 f (m - 1) (d + 1) k (p ++ [Th.chr q]) (by omega) (by omega) (by omega) (by simp only [List.length_append, List.length_cons, List.length_nil]; omega) (by omega)
        rw [Th.wrap_small (by omega) (by omega), ih, show m - 1 + 1 = m by omega, List.append_assoc]
        rfl
theorem spec_KeyAt_eq (n : Int) (k : Nat) (hk : 1000 ≤ k) : spec_KeyAt.f k n = some (Th.kat n) := by
  unfold spec_KeyAt.f Th.kat
  rw [spec_l1In_eq, Option.bind_some]
  by_cases h : 0 ≤ n ∧ n ≤ 475253
  · have := spec_KeyAt_l0 3 n 0 k [] (by omega) h.1 (by simp only [Th.wt]; omega) (by simp) (by omega)
    rw [show ((0 : Nat) : Int) = 0 from rfl] at this
    rw [decide_eq_true h.1, decide_eq_true h.2, if_pos h]
    simp only [Bool.and_self, if_true]
    rw [Th.mkS_nil, this]
    rfl
  · rw [if_neg h, if_neg]
    · rfl
    · simp only [Bool.and_eq_true, decide_eq_true_eq]
      exact h
theorem impl_nextSibling_eq : ∀ (r : List UInt8) (k : Nat), r.all Th.letter = true → r.length ≤ 100 → r.length < k → impl_nextSibling.f k (Th.mkS r.reverse) = some (Th.mkS (Th.sibR r).reverse)
  | _, 0, _, _, h => by omega
  | [], k + 1, _, _, _ => by
    rw [impl_nextSibling.f, if_pos (show (Th.mkS ([] : List UInt8).reverse).toList = [] from Th.toList_mkS [])]
    rfl
  | c :: r, k + 1, ha, hl, hk => by
    simp only [List.all_cons, Bool.and_eq_true, List.length_cons] at ha hl hk
    have ih := impl_nextSibling_eq r k ha.2 (by omega) (by omega)
    have hc := (Th.letter_iff c).1 ha.1
    have hs : (Th.mkS (c :: r).reverse).size = r.length + 1 := by rw [Th.size_mkS]; simp
    have hw : wrap64 (((r.length + 1 : Nat) : Int) - 1) = (r.length : Int) := by rw [Th.wrap_small (by omega) (by omega)]; omega
    have hb : bt (Th.mkS (c :: r).reverse) (r.length : Int) = (c.toNat : Int) := by
      rw [Th.bt_mkS _ _ (by simp)]
      simp
    have hx : (Th.mkS (c :: r).reverse).extract 0 ((r.length : Int)).toNat = Th.mkS r.reverse := by
      rw [Th.extract_mkS, Int.toNat_natCast, List.drop_zero, List.reverse_cons, List.take_append_of_le_length (by simp), List.take_of_length_le (by simp)]
    rw [impl_nextSibling.f, if_neg (by rw [Th.toList_mkS]; simp), hs, hw, if_pos (by omega), if_pos (by omega), hb, hx, ih]
    rw [show Th.sibR (c :: r) = if (c.toNat : Int) = 122 then Th.sibR r else (c.toNat + 1).toUInt8 :: r from rfl]
    by_cases hz : (c.toNat : Int) = 122
    · rw [if_pos hz, if_pos (by omega), if_pos hz]; rfl
    · have he : Utf8.encode (((c.toNat : Int) + 1) % 256) = Th.mkS [(c.toNat + 1).toUInt8] := by
        rw [show ((c.toNat : Int) + 1) % 256 = ((c.toNat + 1 : Nat) : Int) by omega]
        exact Th.encode_small _ (by omega)
      rw [if_neg hz, if_pos (by omega), if_neg hz, he, if_pos (by rw [Th.size_mkS, Th.size_mkS]; simp; omega), Th.append_mkS, List.reverse_cons]
theorem impl_KeyNext_eq (s : ByteArray) (k : Nat) (hk : 1000 ≤ k) : impl_KeyNext.f k s = some (Th.knext s) := by
  unfold impl_KeyNext.f
  rw [impl_KeyValid_eq s k hk, Option.bind_some]
  by_cases h : Th.kv s = true
  · have h0 := Th.kv0_of_kv h
    have hl := h0.1
    rw [if_pos h, Th.size_toList]
    by_cases h4 : s.toList.length < 4
    · rw [if_pos (by omega), if_pos (by omega), ← Th.knext_short h h4, ← Th.append_mkS, Th.mkS_toList]
      rfl
    · have := impl_nextSibling_eq s.toList.reverse k (by rw [List.all_reverse]; exact h0.2.2) (by rw [List.length_reverse]; omega) (by rw [List.length_reverse]; omega)
      rw [List.reverse_reverse, Th.mkS_toList] at this
      rw [if_neg (by omega), this, Th.knext_long h (by omega)]
      rfl
  · rw [if_neg h]
    unfold Th.knext
    rw [if_neg h]
    rfl
theorem FnKeyAt : laws_FnKeyAt.Pure := by
  intro l _ hl hx
  refine ⟨5000, ?_⟩
  unfold laws_FnKeyAt.f
  by_cases h : (l.length : Int) > 1048576
  · rw [if_pos h]
  obtain ⟨n, n0, n1, hd⟩ := spec_DrawKeyAt_ok l 5000 hx (by omega) (by omega)
  rw [if_neg h, hd, Option.bind_some, impl_KeyAt_eq n _ (by omega), Option.bind_some, spec_KeyAt_eq n _ (by omega), Option.bind_some, if_pos rfl]
  by_cases c : 0 ≤ n ∧ n ≤ 475253
  · obtain ⟨g0, g1⟩ := Th.keyOf_ok (n := n + 1) (by omega) (by omega)
    have gk := Th.keyOf_kv (n := n + 1) (by omega) (by omega)
    have e : Th.kat n = Th.keyOf (n + 1) := by unfold Th.kat; rw [if_pos c]
    rw [e]
    have rk : Th.krank (Th.keyOf (n + 1)) = n := by unfold Th.krank; rw [if_pos gk, g1]; omega
    rw [if_neg (Th.kv_ne gk), impl_KeyRank_eq _ _ (by omega), Option.bind_some, if_pos rk]
    by_cases c2 : n = 475253
    · rw [if_pos c2]
    · have nx : Th.knext (Th.keyOf (n + 1)) = Th.keyOf (n + 1 + 1) := by unfold Th.knext; rw [if_pos gk, if_neg (by omega), g1]
      have ka : Th.kat (n + 1) = Th.keyOf (n + 1 + 1) := by unfold Th.kat; rw [if_pos (by omega)]
      rw [if_neg c2, Th.wrap_small (by omega) (by omega), impl_KeyAt_eq _ _ (by omega), Option.bind_some, impl_KeyNext_eq _ _ (by omega), Option.bind_some, nx, ka]
      simp
  · have e : Th.kat n = Th.mkS [] := by unfold Th.kat; rw [if_neg c]
    rw [e, if_pos (Th.toList_mkS []), laws_alive_eq _ (by omega)]
    by_cases c1 : n < 0
    · rw [if_pos c1]; rfl
    · rw [if_neg c1, if_pos (by omega)]; rfl

end Go.Proofs.Ytgpffbijmohfjaa.Pure
