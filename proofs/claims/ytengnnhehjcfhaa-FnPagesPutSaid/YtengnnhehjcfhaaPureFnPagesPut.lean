/- The plain law of FnPagesPut: what the printed functions compute, and that it answers true: for every input that the statement lets in. -/
import Derived.Test.YtengnnhehjcfhaaPFnPagesPutx
import Derived.Test.YtengnnhehjcfhaaThA
import Derived.Test.YtengnnhehjcfhaaThB
import Derived.Test.YtengnnhehjcfhaaThL
import Derived.Test.YtengnnhehjcfhaaThR
import Derived.Test.YtengnnhehjcfhaaThC
import Derived.Test.YtengnnhehjcfhaaThU
import Derived.Test.YtengnnhehjcfhaaThU
import Derived.Test.YtengnnhehjcfhaaThV
import Derived.Test.YtengnnhehjcfhaaThW
import Derived.Test.YtengnnhehjcfhaaThQ
namespace Go.Proofs.Ytengnnhehjcfhaa.Pure
open Go Go.RowKit Go.Proofs.Ytengnnhehjcfhaa.PFnPagesPut Go.Proofs.YtengnnhehjcfhaaW.PrintWords Go.Proofs.YtengnnhehjcfhaaW.PrintLast Go.Proofs.Ytengnnhehjcfhaa
set_option linter.unusedVariables false
set_option linter.unusedSimpArgs false
set_option maxRecDepth 10000
theorem spec_l20Open_ok (l : List Int) (hx : ∀ x ∈ l, (Lit.int .u8 x).wf = true) (hl : l.length ≤ 4294967296) : ∃ xs : List Int, (∀ x ∈ xs, 0 ≤ x ∧ x ≤ 255) ∧ xs.length ≤ 4294967296 ∧ spec_l20Open.f l = some (xs, 0) := by
  unfold spec_l20Open.f
  by_cases h : (l.length : Int) > 2000
  · rw [if_pos h, if_pos (by omega)]
    exact ⟨l.take 2000, fun x hm => Th.u8_range (hx x (List.mem_of_mem_take hm)), by rw [List.length_take]; omega, rfl⟩
  · rw [if_neg h]
    exact ⟨l, fun x hm => Th.u8_range (hx x hm), hl, rfl⟩
theorem spec_l1In_eq (a b c : Int) : spec_l1In.f a b c = some (decide (b ≤ a) && decide (a ≤ c)) := by
  unfold spec_l1In.f
  by_cases h : a ≥ b
  · rw [if_pos h, decide_eq_true (show b ≤ a from h), Bool.true_and]
  · rw [if_neg h, decide_eq_false (show ¬ b ≤ a from h), Bool.false_and]
theorem spec_KeyValid_l0 (l : List UInt8) (hl : l.length ≤ 4) : ∀ (d i k : Nat), i + d = l.length → d < k → spec_KeyValid.l0 k (Th.mkS l) (i : Int) = some ((l.drop i).all Th.letter)
  | _, _, 0, _, h => by omega
  | 0, i, k + 1, h, _ => by
    rw [spec_KeyValid.l0, if_neg (by rw [Th.size_mkS]; omega), List.drop_of_length_le (by omega)]; rfl
  | d + 1, i, k + 1, h, hk => by
    have ih := spec_KeyValid_l0 l hl d (i + 1) k (by omega) (by omega)
    have hi : i < l.length := by omega
    rw [spec_KeyValid.l0, if_pos (by rw [Th.size_mkS]; omega), if_pos (by omega), Th.bt_mkS l i hi, Th.wrap_small (by omega) (by omega), show ((i : Int) + 1) = ((i + 1 : Nat) : Int) by omega, ih, List.drop_eq_getElem_cons hi, List.all_cons]
    simp only [Th.letter]
    by_cases h1 : ((l[i]'hi).toNat : Int) < 97
    · rw [if_pos h1, decide_eq_false (show ¬ 97 ≤ ((l[i]'hi).toNat : Int) by omega)]; rfl
    · rw [if_neg h1, decide_eq_true (show 97 ≤ ((l[i]'hi).toNat : Int) by omega)]
      by_cases h2 : ((l[i]'hi).toNat : Int) > 122
      · rw [if_pos h2, decide_eq_false (show ¬ ((l[i]'hi).toNat : Int) ≤ 122 by omega)]; rfl
      · rw [if_neg h2, decide_eq_true (show ((l[i]'hi).toNat : Int) ≤ 122 by omega)]; rfl
theorem spec_KeyValid_eq (s : ByteArray) (k : Nat) (hk : 1000 ≤ k) : spec_KeyValid.f k s = some (Th.kv s) := by
  obtain ⟨l, rfl⟩ := Th.mkS_surj s
  unfold spec_KeyValid.f Th.kv Th.kvL
  rw [spec_l1In_eq, Th.toList_mkS, Th.size_mkS, Option.bind_some]
  by_cases h : 1 ≤ l.length ∧ l.length ≤ 4
  · have h0 := spec_KeyValid_l0 l h.2 l.length 0 k (by omega) (by omega)
    rw [show ((0 : Nat) : Int) = 0 from rfl] at h0
    rw [decide_eq_true (show (1 : Int) ≤ (l.length : Int) by omega), decide_eq_true (show (l.length : Int) ≤ 4 by omega), decide_eq_true h.1, decide_eq_true h.2, h0]
    rfl
  · by_cases h1 : 1 ≤ l.length
    · rw [decide_eq_false (show ¬ (l.length : Int) ≤ 4 by omega), decide_eq_false (show ¬ l.length ≤ 4 by omega)]; simp
    · rw [decide_eq_false (show ¬ (1 : Int) ≤ (l.length : Int) by omega), decide_eq_false h1]; simp
theorem spec_PairsValid_l0 (l : List S65) (hl : l.length ≤ 48) : ∀ (d i k : Nat), i + d = l.length → d + 1001 ≤ k → ∃ b, spec_PairsValid.l0 k l (i : Int) = some b ∧ (b = true ↔ ∀ j, i ≤ j → j < l.length → Th.stepOk S65.f0 S65.f1 z65 l j)
  | _, _, 0, _, h => by omega
  | 0, i, k + 1, h, _ => by
    rw [spec_PairsValid.l0, if_neg (by omega)]
    exact ⟨true, rfl, fun _ j h1 h2 => by omega, fun _ => rfl⟩
  | d + 1, i, k + 1, h, hk => by
    have hi : i < l.length := by omega
    obtain ⟨b, hb, hb2⟩ := spec_PairsValid_l0 l hl d (i + 1) k (by omega) (by omega)
    have hw : wrap64 ((i : Int) + 1) = ((i + 1 : Nat) : Int) := by rw [Th.wrap_small (by omega) (by omega)]; omega
    have no : ¬ Th.stepOk S65.f0 S65.f1 z65 l i → ∃ b, some false = some b ∧ (b = true ↔ ∀ j, i ≤ j → j < l.length → Th.stepOk S65.f0 S65.f1 z65 l j) :=
      fun hn => ⟨false, rfl, fun h => (by cases h), fun h => absurd (h i (Nat.le_refl _) hi) hn⟩
    have go : Th.stepOk S65.f0 S65.f1 z65 l i → ∃ b', some b = some b' ∧ (b' = true ↔ ∀ j, i ≤ j → j < l.length → Th.stepOk S65.f0 S65.f1 z65 l j) :=
      fun hn => ⟨b, rfl, hb2.trans (Th.all_from hi hn)⟩
    rw [spec_PairsValid.l0, if_pos (by omega), if_pos (by omega), show rd_T65 l (i : Int) = l.getD i z65 from rfl, spec_KeyValid_eq _ k (by omega), Option.bind_some]
    by_cases h1 : Th.kv (l.getD i z65).f0 = true
    · rw [if_pos h1, spec_l1In_eq, Option.bind_some]
      by_cases h2 : 0 ≤ (l.getD i z65).f1 ∧ (l.getD i z65).f1 ≤ 999
      · rw [decide_eq_true h2.1, decide_eq_true h2.2, if_pos (by rfl)]
        by_cases h0 : 0 < i
        · have hp : wrap64 ((i : Int) - 1) = ((i - 1 : Nat) : Int) := by rw [Th.wrap_small (by omega) (by omega)]; omega
          rw [if_pos (by omega), hp, if_pos (by omega), if_pos (by omega), show rd_T65 l ((i - 1 : Nat) : Int) = l.getD (i - 1) z65 from rfl, hw, hb]
          by_cases c1 : Th.lt (l.getD i z65).f0 (l.getD (i - 1) z65).f0
          · rw [if_pos c1]; exact no (fun hs => Th.lt_asymm c1 (hs.2 h0))
          · rw [if_neg c1]
            by_cases c2 : (l.getD i z65).f0.toList = (l.getD (i - 1) z65).f0.toList
            · rw [if_pos c2]; exact no (fun hs => Th.lt_irrefl _ (by have := hs.2 h0; rwa [Th.str_ext c2] at this))
            · rw [if_neg c2]
              refine go ⟨⟨h1, h2⟩, fun _ => ?_⟩
              rcases Classical.em (Th.lt (l.getD (i - 1) z65).f0 (l.getD i z65).f0) with c | c
              · exact c
              · exact absurd (congrArg ByteArray.toList (Th.lt_total c1 c)) c2
        · rw [if_neg (by omega), hw, hb]
          exact go ⟨⟨h1, h2⟩, fun h => absurd h h0⟩
      · rw [if_neg (by simp only [Bool.and_eq_true, decide_eq_true_eq]; exact h2)]
        exact no (fun hs => h2 hs.1.2)
    · rw [if_neg h1]
      exact no (fun hs => h1 hs.1.1)
theorem spec_PairsValid_eq (l : List S65) (k : Nat) (hk : 2000 ≤ k) : spec_PairsValid.f k l = some (Th.pv S65.f0 S65.f1 l) := by
  unfold spec_PairsValid.f
  by_cases h : (l.length : Int) > 48
  · rw [if_pos h]
    congr 1
    symm
    rw [Bool.eq_false_iff]
    intro hp
    have := ((Th.pv_iff _ _ l).1 hp).1
    omega
  · rw [if_neg h]
    obtain ⟨b, hb, hb2⟩ := spec_PairsValid_l0 l (by omega) l.length 0 k (by omega) (by omega)
    rw [show ((0 : Nat) : Int) = 0 from rfl] at hb
    rw [hb]
    congr 1
    apply Th.bool_eq
    rw [hb2, Th.pv_iff, Th.pv_steps _ _ z65]
    constructor
    · exact fun h' => ⟨by omega, fun j hj => h' j (by omega) hj⟩
    · exact fun h' j _ hj => h'.2 j hj
theorem spec_PagesValid_l0 (l : List S53) (hl : l.length ≤ 1048576) : ∀ (d i k : Nat), i + d = l.length → d + 3000 ≤ k → (∀ p ∈ l.take i, Th.okPg S53.f0 l.length p) → spec_PagesValid.l0 k l (Th.cat S53.f0 (l.take i)) (i : Int) = some (Th.pgv S65.f0 S65.f1 S53.f0 l)
  | _, _, 0, _, h, _ => by omega
  | 0, i, k + 1, h, hk, ho => by
    rw [List.take_of_length_le (by omega)] at ho ⊢
    rw [spec_PagesValid.l0, if_neg (by omega), spec_PairsValid_eq _ k (by omega), Option.bind_some]
    congr 1
    apply Th.bool_eq
    rw [Th.pv_iff, Th.pgv_iff]
    exact ⟨fun h => ⟨ho, h⟩, fun h => h.2⟩
  | d + 1, i, k + 1, h, hk, ho => by
    have hi : i < l.length := by omega
    have hm := Th.getD_mem z53 l i hi
    have hw : wrap64 ((i : Int) + 1) = ((i + 1 : Nat) : Int) := by rw [Th.wrap_small (by omega) (by omega)]; omega
    have no : ∀ P : Prop, (Th.PgV S65.f0 S65.f1 S53.f0 l → P) → ¬ P → some false = some (Th.pgv S65.f0 S65.f1 S53.f0 l) := fun P h1 h2 => by
      rw [Th.pgv_no _ _ _ l (fun h => h2 (h1 h))]
    have hs : (Th.cat S53.f0 (l.take i)).length ≤ 48 → Th.okPg S53.f0 l.length (l.getD i z53) → (Th.cat S53.f0 (l.take i)).length + (l.getD i z53).f0.length < 5864062014805 ∧ spec_PagesValid.l0 k l (Th.cat S53.f0 (l.take i) ++ (l.getD i z53).f0) ((i + 1 : Nat) : Int) = some (Th.pgv S65.f0 S65.f1 S53.f0 l) := by
      intro h1 h2
      have h3 := h2.1
      refine ⟨by omega, ?_⟩
      have e := Th.cat_take S53.f0 z53 l i hi
      rw [← e]
      refine spec_PagesValid_l0 l hl d (i + 1) k (by omega) (by omega) (fun p hp => ?_)
      rw [List.take_succ_eq_append_getElem hi, ← Th.getD_at z53 l i hi] at hp
      rcases List.mem_append.1 hp with hp | hp
      · exact ho p hp
      · rw [List.mem_singleton.1 hp]; exact h2
    have big : ¬ (Th.cat S53.f0 (l.take i)).length ≤ 48 → ¬ Th.PgV S65.f0 S65.f1 S53.f0 l := fun h1 h2 => by
      have h3 := h2.2.1
      have := Th.cat_len_take S53.f0 l i
      omega
    rw [spec_PagesValid.l0, if_pos (by omega), if_pos (by omega), hw, show rd_T53 l (i : Int) = l.getD i z53 from rfl]
    by_cases c1 : ((l.getD i z53).f0.length : Int) > 4
    · rw [if_pos c1]
      exact no _ (fun h => (h.1 _ hm).1) (by omega)
    rw [if_neg c1]
    by_cases c2 : ((l.getD i z53).f0.length : Int) < 2
    · rw [if_pos c2]
      by_cases c3 : (l.length : Int) > 1
      · rw [if_pos c3]
        exact no _ (fun h => (h.1 _ hm).2.1) (fun h => by have := h (by omega); omega)
      rw [if_neg c3]
      by_cases c4 : ((l.getD i z53).f0.length : Int) < 1
      · rw [if_pos c4]
        exact no _ (fun h => (h.1 _ hm).2.2) (by omega)
      rw [if_neg c4]
      by_cases c5 : ((Th.cat S53.f0 (l.take i)).length : Int) > 48
      · rw [if_pos c5]
        exact no False (fun h => big (by omega) h) id
      · obtain ⟨h1, h2⟩ := hs (by omega) ⟨by omega, fun _ => by omega, by omega⟩
        rw [if_neg c5, if_pos h1, h2]
    rw [if_neg c2]
    by_cases c5 : ((Th.cat S53.f0 (l.take i)).length : Int) > 48
    · rw [if_pos c5]
      exact no False (fun h => big (by omega) h) id
    · obtain ⟨h1, h2⟩ := hs (by omega) ⟨by omega, fun _ => by omega, by omega⟩
      rw [if_neg c5, if_pos h1, h2]
theorem spec_PagesValid_eq (l : List S53) (k : Nat) (hl : l.length ≤ 1048576) (hk : l.length + 3000 ≤ k) : spec_PagesValid.f k l = some (Th.pgv S65.f0 S65.f1 S53.f0 l) := by
  unfold spec_PagesValid.f
  exact spec_PagesValid_l0 l hl l.length 0 k (by omega) (by omega) (by simp)
theorem spec_l6Copy_l0 (l : List S53) (hl : l.length ≤ 1048576) (hc : (Th.cat S53.f0 l).length ≤ 1048576) : ∀ (d i k : Nat), i + d = l.length → d < k → spec_l6Copy.l0 k l (l.take i) (i : Int) = some l
  | _, _, 0, _, h => by omega
  | 0, i, k + 1, h, _ => by rw [spec_l6Copy.l0, if_neg (by omega), List.take_of_length_le (by omega)]
  | d + 1, i, k + 1, h, hk => by
    have hi : i < l.length := by omega
    have hw : wrap64 ((i : Int) + 1) = ((i + 1 : Nat) : Int) := by rw [Th.wrap_small (by omega) (by omega)]; omega
    have hm := Th.cat_mem S53.f0 l _ (Th.getD_mem z53 l i hi)
    have ih := spec_l6Copy_l0 l hl hc d (i + 1) k (by omega) (by omega)
    rw [List.take_succ_eq_append_getElem hi, ← Th.getD_at z53 l i hi] at ih
    rw [spec_l6Copy.l0, if_pos (by omega), Option.bind_some, if_pos (by omega), show rd_T53 l (i : Int) = l.getD i z53 from rfl, if_pos (by simp only [List.length_nil]; omega), if_pos (by rw [List.length_take]; omega), hw, List.nil_append]
    exact ih
theorem spec_l6Copy_eq (l : List S53) (hl : l.length ≤ 1048576) (hc : (Th.cat S53.f0 l).length ≤ 1048576) (k : Nat) (hk : l.length + 2 ≤ k) : spec_l6Copy.f k l = some l := by
  unfold spec_l6Copy.f
  exact spec_l6Copy_l0 l hl hc l.length 0 k (by omega) (by omega)
theorem page_ne (l : List S53) (h : Th.PgV S65.f0 S65.f1 S53.f0 l) (i : Nat) (hi : i < l.length) : 0 < (l.getD i z53).f0.length := by
  have := (h.1 _ (Th.getD_mem z53 l i hi)).2.2
  omega
theorem not_less {a b : ByteArray} (h : Op.bytesLess b.toList a.toList = true ∨ ¬ Op.bytesLess b.toList a.toList = true) : (Op.bytesLess a.toList b.toList = true → ¬ Op.bytesLess b.toList a.toList = true) ∧ (a.toList = b.toList → ¬ Op.bytesLess b.toList a.toList = true) := by
  refine ⟨fun h1 h2 => Th.lt_asymm (show Th.lt a b from h1) h2, fun h1 h2 => ?_⟩
  rw [h1] at h2
  exact Th.lt_irrefl b h2
theorem le_cases (a b : ByteArray) (hb : Th.kv b = true) (ha : Th.kv a = true) : (Op.bytesLess b.toList a.toList = true ∧ ¬ Op.bytesLess a.toList b.toList = true ∧ ¬ a.toList = b.toList) ∨ (¬ Op.bytesLess b.toList a.toList = true ∧ (Op.bytesLess a.toList b.toList = true ∨ a.toList = b.toList)) := by
  by_cases h : Op.bytesLess b.toList a.toList = true
  · left
    refine ⟨h, fun h2 => Th.lt_asymm (show Th.lt b a from h) h2, fun h2 => ?_⟩
    rw [h2] at h
    exact Th.lt_irrefl b h
  · right
    refine ⟨h, ?_⟩
    have a0 := Th.kv0_of_kv ha
    have b0 := Th.kv0_of_kv hb
    by_cases h2 : Op.bytesLess a.toList b.toList = true
    · exact .inl h2
    · have h3 : ¬ Th.er b < Th.er a := fun h' => h ((Th.lt_iff b0 a0).2 h')
      have h4 : ¬ Th.er a < Th.er b := fun h' => h2 ((Th.lt_iff a0 b0).2 h')
      exact .inr (by rw [Th.er_inj a0 b0 (by omega)])
theorem page_key (l : List S53) (h : Th.PgV S65.f0 S65.f1 S53.f0 l) (i : Nat) (hi : i < l.length) : Th.kv ((l.getD i z53).f0.getD 0 z65).f0 = true := by
  have h1 := page_ne l h i hi
  have hm := Th.getD_mem z65 (l.getD i z53).f0 0 h1
  have e : Th.cat S53.f0 l = Th.cat S53.f0 (l.take i) ++ Th.cat S53.f0 (l.drop i) := by rw [← Th.cat_append, List.take_append_drop]
  refine (h.2.2.1 _ ?_).1
  rw [e, Th.cat_drop S53.f0 z53 l i hi]
  exact List.mem_append_right _ (List.mem_append_left _ hm)
theorem spec_PageFind_l0 (l : List S53) (s : ByteArray) (h : Th.PgV S65.f0 S65.f1 S53.f0 l) (hs : Th.kv s = true) : ∀ (d i k a : Nat), i + d = l.length → d < k → spec_PageFind.l0 k l s (a : Int) (i : Int) = some ((Th.lastPg S65.f0 S53.f0 z65 s (l.drop i) i a : Nat) : Int)
  | _, _, 0, _, _, h => by omega
  | 0, i, k + 1, a, hd, _ => by
    rw [spec_PageFind.l0, if_neg (by omega), List.drop_of_length_le (by omega)]
    rfl
  | d + 1, i, k + 1, a, hd, hk => by
    have hl := Th.pgv_len _ _ _ l h
    have hi : i < l.length := by omega
    have hw : wrap64 ((i : Int) + 1) = ((i + 1 : Nat) : Int) := by rw [Th.wrap_small (by omega) (by omega)]; omega
    have hn := page_ne l h i hi
    have ih := spec_PageFind_l0 l s h hs d (i + 1) k
    rw [spec_PageFind.l0, if_pos (by omega), if_pos (by omega), show rd_T53 l (i : Int) = l.getD i z53 from rfl, if_pos (by omega), show rd_T65 (l.getD i z53).f0 0 = (l.getD i z53).f0.getD 0 z65 from rfl, hw, List.drop_eq_getElem_cons hi, Th.lastPg, ← Th.getD_at z53 l i hi]
    rcases le_cases ((l.getD i z53).f0.getD 0 z65).f0 s hs (page_key l h i hi) with ⟨c1, c2, c3⟩ | ⟨c1, c2⟩
    · rw [if_neg c2, if_neg c3, if_pos c1, ih a (by omega) (by omega)]
    · rw [if_neg c1]
      rcases c2 with c2 | c2
      · rw [if_pos c2, ih i (by omega) (by omega)]
      · rw [if_pos c2, ih i (by omega) (by omega)]
        by_cases c3 : Op.bytesLess ((l.getD i z53).f0.getD 0 z65).f0.toList s.toList = true
        · rw [if_pos c3]
        · rw [if_neg c3]
theorem spec_PageFind_eq (l : List S53) (s : ByteArray) (k : Nat) (hl : l.length ≤ 1048576) (hk : l.length + 4000 ≤ k) : spec_PageFind.f k l s = some (Th.findPg S65.f0 S65.f1 S53.f0 z65 l s) := by
  obtain ⟨k, rfl⟩ : ∃ m, k = m + 1 := ⟨k - 1, by omega⟩
  unfold spec_PageFind.f Th.findPg
  rw [spec_PagesValid_eq l (k + 1) hl (by omega), Option.bind_some]
  have no : spec_PageFind.j0 (k + 1) l s true = some (-1) := by rw [spec_PageFind.j0, if_pos rfl]
  by_cases h : Th.pgv S65.f0 S65.f1 S53.f0 l = true
  · rw [if_pos h, spec_KeyValid_eq s _ (by omega), Option.bind_some]
    by_cases h2 : Th.kv s = true
    · rw [if_pos h2]
      cases l with
      | nil => rw [if_neg (by simp)]; exact no
      | cons p l =>
        have hP := (Th.pgv_iff _ _ _ _).1 h
        have h48 := Th.pgv_len _ _ _ _ hP
        have e : ((((p :: l).length : Nat) : Int) == 0) = false := by
          rw [beq_eq_false_iff_ne, List.length_cons]; omega
        have hk' : l.length + 3000 ≤ k := by rw [List.length_cons] at hk; omega
        have := spec_PageFind_l0 (p :: l) s hP h2 l.length 1 k 0 (by rw [List.length_cons]; omega) (by omega)
        rw [show ((1 : Nat) : Int) = 1 from rfl, show ((0 : Nat) : Int) = 0 from rfl] at this
        rw [e, spec_PageFind.j0, if_neg (by simp), this, if_pos ⟨h, h2, by simp⟩, Th.lastPg]
        congr 3
        by_cases c : Op.bytesLess s.toList (S65.f0 (p.f0.getD 0 z65)).toList = true
        · rw [if_pos c]
        · rw [if_neg c]
    · rw [if_neg h2, if_neg (fun h' => h2 h'.2.1), no]
  · rw [if_neg h, if_neg (fun h' => h h'.1), no]
theorem spec_l4Place_l0 (l : List S65) (s : ByteArray) (hl : l.length ≤ 4294967296) : ∀ (d i k : Nat), i + d = l.length → d < k → spec_l4Place.l0 k l s (i : Int) = some (((i + Th.place S65.f0 (l.drop i) s : Nat) : Int))
  | _, _, 0, _, h => by omega
  | 0, i, k + 1, h, _ => by
    rw [spec_l4Place.l0, if_neg (by omega), List.drop_of_length_le (by omega), Th.place_nil]
    rfl
  | d + 1, i, k + 1, h, hk => by
    have hi : i < l.length := by omega
    have ih := spec_l4Place_l0 l s hl d (i + 1) k (by omega) (by omega)
    have hw : wrap64 ((i : Int) + 1) = ((i + 1 : Nat) : Int) := by rw [Th.wrap_small (by omega) (by omega)]; omega
    rw [spec_l4Place.l0, if_pos (by omega), if_pos (by omega), show rd_T65 l (i : Int) = l.getD i z65 from rfl, hw, ih, List.drop_eq_getElem_cons hi, Th.getD_at _ l i hi]
    by_cases c : Th.lt (l[i]'hi).f0 s
    · rw [if_pos c, Th.place_pos _ c]
      congr 2
      omega
    · rw [if_neg c, Th.place_neg _ c]
      rfl
theorem spec_l4Place_eq (l : List S65) (s : ByteArray) (k : Nat) (hl : l.length ≤ 4294967296) (hk : l.length + 2 ≤ k) : spec_l4Place.f k l s = some ((Th.place S65.f0 l s : Nat) : Int) := by
  have := spec_l4Place_l0 l s hl l.length 0 k (by omega) (by omega)
  unfold spec_l4Place.f
  rw [show ((0 : Nat) : Int) = 0 from rfl] at this
  rw [this, List.drop_zero, Nat.zero_add]
theorem spec_PairDrop_eq (l : List S65) (s : ByteArray) (k : Nat) (hk : 3000 ≤ k) : spec_PairDrop.f k l s = some (Th.dropP S65.f0 S65.f1 l s) := by
  unfold spec_PairDrop.f Th.dropP
  rw [Option.bind_some, spec_PairsValid_eq l k (by omega), Option.bind_some]
  by_cases h : Th.pv S65.f0 S65.f1 l = true
  · have hl := ((Th.pv_iff _ _ l).1 h).1
    have hp := Th.place_le S65.f0 l s
    rw [if_pos h, if_pos h, spec_l4Place_eq l s k (by omega) (by omega), Option.bind_some, Th.foundAt_getD _ z65]
    generalize hq : Th.place S65.f0 l s = q at hp
    by_cases e : q < l.length
    · have hw : wrap64 ((q : Int) + 1) = ((q + 1 : Nat) : Int) := by rw [Th.wrap_small (by omega) (by omega)]; omega
      have hd : (l.drop (q + 1)).length = l.length - (q + 1) := List.length_drop ..
      have ht : (l.take q).length = q := by rw [List.length_take]; omega
      rw [if_neg (by omega), if_pos (by omega), if_pos (by omega), decide_eq_true e, Bool.true_and, show rd_T65 l (q : Int) = l.getD q z65 from rfl]
      by_cases c : (l.getD q z65).f0.toList = s.toList
      · rw [if_pos c, if_pos (by omega), if_pos (show decide ((l.getD q z65).f0 = s) = true by simpa using Th.str_ext c)]
        simp only [Option.bind_some, Int.toNat_natCast, List.nil_append, hw]
        rw [if_pos (by simp only [List.length_nil]; omega), if_pos (by omega), if_pos (by omega), if_pos (by omega)]
      · rw [if_neg c, if_pos (by simp only [List.length_nil]; omega), if_neg (show ¬ decide ((l.getD q z65).f0 = s) = true by rw [decide_eq_true_eq]; exact fun h => c (by rw [h])), List.nil_append]
    · rw [if_pos (by omega), if_pos (by simp only [List.length_nil]; omega), decide_eq_false e, List.nil_append]
      simp
  · rw [if_neg h, if_neg h]
/-- few pages, none of them large -/
def Sm (l : List S53) : Prop := Th.small S53.f0 l
theorem sm_of (l : List S53) (h : Th.PgV S65.f0 S65.f1 S53.f0 l) : l.length ≤ 48 ∧ (Th.cat S53.f0 l).length ≤ 48 ∧ ∀ p ∈ l, p.f0.length ≤ 4 := ⟨Th.pgv_len _ _ _ l h, h.2.1, fun p hp => (h.1 p hp).1⟩
theorem find_at' (l : List S53) (s : ByteArray) (h : Th.PgV S65.f0 S65.f1 S53.f0 l) (hs : Th.kv s = true) (hn : l ≠ []) : Th.findPg S65.f0 S65.f1 S53.f0 z65 l s = ((Th.lastPg S65.f0 S53.f0 z65 s l 0 0 : Nat) : Int) := by
  unfold Th.findPg
  rw [if_pos ⟨(Th.pgv_iff _ _ _ _).2 h, hs, hn⟩]
theorem find_at (l : List S53) (s : ByteArray) (h : Th.PgV S65.f0 S65.f1 S53.f0 l) (hs : Th.kv s = true) (hn : l ≠ []) : ∃ q : Nat, q < l.length ∧ Th.findPg S65.f0 S65.f1 S53.f0 z65 l s = (q : Int) := ⟨_, Th.lastPg_in _ _ _ s l hn, find_at' l s h hs hn⟩
theorem list_cat (l : List S53) (h : Th.pgv S65.f0 S65.f1 S53.f0 l = true) : Th.listPg S65.f0 S65.f1 S53.f0 l = Th.cat S53.f0 l := by
  unfold Th.listPg
  rw [if_pos h]
theorem spec_l6Mend_j2 (l : List S53) (a i : Nat) (k : Nat) (hl : l.length ≤ 48) (hp : ∀ p ∈ l, p.f0.length ≤ 48) (hi : i + 1 < l.length) (hk : 1 ≤ k) : spec_l6Mend.j2 k l (a : Int) (i : Int) = some (Th.joinPg S53.f0 S53.mk z53 l a i) := by
  obtain ⟨k, rfl⟩ : ∃ m, k = m + 1 := ⟨k - 1, by omega⟩
  have h1 := hp _ (Th.getD_mem z53 l i (by omega))
  have h2 := hp _ (Th.getD_mem z53 l (i + 1) (by omega))
  have w1 : wrap64 ((i : Int) + 1) = ((i + 1 : Nat) : Int) := by rw [Th.wrap_small (by omega) (by omega)]; omega
  have w2 : wrap64 ((i : Int) + 2) = ((i + 2 : Nat) : Int) := by rw [Th.wrap_small (by omega) (by omega)]; omega
  have ht : (l.take i).length = i := by rw [List.length_take]; omega
  have hdl : (l.drop (i + 2)).length = l.length - (i + 2) := List.length_drop ..
  unfold Th.joinPg Th.twoPg
  rw [spec_l6Mend.j2, Option.bind_some, if_pos (by omega), if_pos (by omega), show rd_T53 l (i : Int) = l.getD i z53 from rfl, if_pos (by simp only [List.length_nil]; omega), Option.bind_some, w1, if_pos (by omega), if_pos (by omega), show rd_T53 l ((i + 1 : Nat) : Int) = l.getD (i + 1) z53 from rfl, List.nil_append, if_pos (by omega), Option.bind_some]
  have hy : ((l.getD i z53).f0 ++ (l.getD (i + 1) z53).f0).length ≤ 96 := by rw [List.length_append]; omega
  generalize (l.getD i z53).f0 ++ (l.getD (i + 1) z53).f0 = y at hy ⊢
  by_cases c : (y.length : Int) ≤ 4
  · rw [if_pos c, if_pos (show y.length ≤ 4 by omega), Option.bind_some, if_pos (by omega), Option.bind_some, Int.toNat_natCast, if_pos (by simp only [List.length_nil]; omega), Option.bind_some, List.nil_append, if_pos (by omega), Option.bind_some, w2, if_pos (by omega), if_pos (by omega), Option.bind_some, Int.toNat_natCast, if_pos (by rw [List.length_append, ht, hdl]; simp only [List.length_cons, List.length_nil]; omega)]
  · rw [if_neg c, if_neg (show ¬ y.length ≤ 4 by omega)]
    by_cases d : (i : Int) = (a : Int)
    · rw [if_pos d, if_pos (show i = a by omega), Option.bind_some, if_pos (by omega), Option.bind_some, if_pos (by rw [List.length_take]; simp only [List.length_nil]; omega), Option.bind_some, Option.bind_some, if_pos (by rw [List.length_drop]; simp only [List.length_nil]; omega), Int.toNat_natCast, Int.toNat_natCast, Th.set_two _ _ _ _ hi]
      rfl
    · have w3 : wrap64 ((y.length : Int) - 2) = ((y.length - 2 : Nat) : Int) := by rw [Th.wrap_small (by omega) (by omega)]; omega
      rw [if_neg d, if_neg (show ¬ i = a by omega), Option.bind_some, w3, if_pos (by omega), if_pos (by omega), Option.bind_some, Int.toNat_natCast, if_pos (by rw [List.length_take]; simp only [List.length_nil]; omega), Option.bind_some, Option.bind_some, if_pos (by rw [List.length_drop]; simp only [List.length_nil]; omega), Int.toNat_natCast, Int.toNat_natCast, Th.set_two _ _ _ _ hi]
      rfl
theorem spec_l6Mend_j1 (l : List S53) (a : Nat) (b : Bool) (k : Nat) (hl : l.length ≤ 48) (hp : ∀ p ∈ l, p.f0.length ≤ 48) (ha : a < l.length) (hb : b = false → 2 ≤ l.length) (hk : 5 ≤ k) : spec_l6Mend.j1 k l (a : Int) b = some (if b = true then l else Th.joinPg S53.f0 S53.mk z53 l a (if a + 1 = l.length then a - 1 else a)) := by
  obtain ⟨k, rfl⟩ : ∃ m, k = m + 1 := ⟨k - 1, by omega⟩
  rw [spec_l6Mend.j1]
  cases b with
  | true => rw [if_pos rfl, if_pos rfl]
  | false =>
    have h2 := hb rfl
    have w1 : wrap64 ((l.length : Int) - 1) = ((l.length - 1 : Nat) : Int) := by rw [Th.wrap_small (by omega) (by omega)]; omega
    rw [if_neg (show ¬ (false = true) by simp), if_neg (show ¬ (false = true) by simp), w1]
    by_cases c : (a : Int) = ((l.length - 1 : Nat) : Int)
    · have w2 : wrap64 ((a : Int) - 1) = ((a - 1 : Nat) : Int) := by rw [Th.wrap_small (by omega) (by omega)]; omega
      rw [if_pos c, w2, if_pos (by omega)]
      exact spec_l6Mend_j2 l a (a - 1) k hl hp (by omega) (by omega)
    · rw [if_neg c, if_neg (by omega)]
      exact spec_l6Mend_j2 l a a k hl hp (by omega) (by omega)
theorem spec_l6Mend_eq (l : List S53) (a : Nat) (k : Nat) (hl : l.length ≤ 48) (hp : ∀ p ∈ l, p.f0.length ≤ 48) (ha : a < l.length) (hk : 10 ≤ k) : spec_l6Mend.f k l (a : Int) = some (Th.mendPg S53.f0 S53.mk z53 l a) := by
  obtain ⟨k, rfl⟩ : ∃ m, k = m + 1 := ⟨k - 1, by omega⟩
  unfold spec_l6Mend.f Th.mendPg
  by_cases c : (l.length : Int) = 1
  · rw [if_pos c, if_pos (by omega), if_pos (show l.length = 1 by omega), spec_l6Mend.j0, show rd_T53 l 0 = l.getD 0 z53 from rfl]
    by_cases d : ((l.getD 0 z53).f0.length : Int) = 0
    · rw [show (((l.getD 0 z53).f0.length : Int) == 0) = true from beq_iff_eq.mpr d, if_pos rfl, if_pos (show (l.getD 0 z53).f0.length = 0 by omega)]
    · rw [show (((l.getD 0 z53).f0.length : Int) == 0) = false from beq_eq_false_iff_ne.mpr d, if_neg (by simp), if_neg (show ¬ (l.getD 0 z53).f0.length = 0 by omega), if_pos c, spec_l6Mend_j1 l a true k hl hp ha (fun h => by cases h) (by omega), if_pos rfl]
  · rw [if_neg c, if_neg (show ¬ l.length = 1 by omega), spec_l6Mend.j0, if_neg (by simp), if_neg c, if_pos (by omega), if_pos (by omega), show rd_T53 l (a : Int) = l.getD a z53 from rfl]
    by_cases d : ((l.getD a z53).f0.length : Int) ≥ 2
    · rw [decide_eq_true d, if_pos (show 2 ≤ (l.getD a z53).f0.length by omega), spec_l6Mend_j1 l a true k hl hp ha (fun h => by cases h) (by omega), if_pos rfl]
    · rw [decide_eq_false d, if_neg (show ¬ 2 ≤ (l.getD a z53).f0.length by omega), spec_l6Mend_j1 l a false k hl hp ha (fun _ => by omega) (by omega), if_neg (by simp)]
theorem spec_PagesDrop_eq (l : List S53) (s : ByteArray) (k : Nat) (hl : l.length ≤ 1048576) (hk : l.length + 6000 ≤ k) : spec_PagesDrop.f k l s = some (Th.dropPg S65.f0 S65.f1 S53.f0 S53.mk z65 z53 l s) := by
  obtain ⟨k, rfl⟩ : ∃ m, k = m + 1 := ⟨k - 1, by omega⟩
  have no : ¬ (Th.pgv S65.f0 S65.f1 S53.f0 l = true ∧ Th.kv s = true) → spec_PagesDrop.j0 (k + 1) l s true = some (Th.dropPg S65.f0 S65.f1 S53.f0 S53.mk z65 z53 l s) := by
    intro h
    unfold Th.dropPg
    rw [spec_PagesDrop.j0, if_pos rfl, if_neg (fun h' => h ⟨h'.1, h'.2.1⟩)]
  unfold spec_PagesDrop.f
  rw [spec_PagesValid_eq l _ hl (by omega), Option.bind_some]
  by_cases h : Th.pgv S65.f0 S65.f1 S53.f0 l = true
  · have hP := (Th.pgv_iff _ _ _ _).1 h
    obtain ⟨g1, g2, g3⟩ := sm_of l hP
    rw [if_pos h, spec_KeyValid_eq s _ (by omega), Option.bind_some]
    by_cases hs : Th.kv s = true
    · rw [hs, spec_PagesDrop.j0, if_neg (by simp), spec_l6Copy_eq l (by omega) (by omega) k (by omega), Option.bind_some, spec_PageFind_eq l s k hl (by omega), Option.bind_some]
      by_cases hn : l = []
      · have e : Th.findPg S65.f0 S65.f1 S53.f0 z65 l s = -1 := by unfold Th.findPg; rw [if_neg (fun h' => h'.2.2 hn)]
        unfold Th.dropPg
        rw [e, if_pos (by omega), if_neg (fun h' => h'.2.2 hn), hn]
      · have q1 := Th.lastPg_in S65.f0 S53.f0 z65 s l hn
        have q2 := find_at' l s hP hs hn
        unfold Th.dropPg
        rw [if_pos (show Th.pgv S65.f0 S65.f1 S53.f0 l = true ∧ Th.kv s = true ∧ l ≠ [] from ⟨h, hs, hn⟩)]
        generalize Th.lastPg S65.f0 S53.f0 z65 s l 0 0 = q at q1 q2 ⊢
        rw [q2, if_neg (by omega), if_pos (by omega), if_pos (by omega), show rd_T53 l (q : Int) = l.getD q z53 from rfl, spec_PairDrop_eq _ _ k (by omega), Option.bind_some]
        have hd := Th.dropP_len S65.f0 S65.f1 (l.getD q z53).f0 s
        by_cases c : (Th.dropP S65.f0 S65.f1 (l.getD q z53).f0 s).2 = true
        · rw [if_pos c, if_pos c, if_pos (by omega), Int.toNat_natCast, spec_l6Mend_eq (l.set q ⟨(Th.dropP S65.f0 S65.f1 (l.getD q z53).f0 s).1⟩) q k (by rw [List.length_set]; omega) (fun p hp => by
            rcases List.mem_or_eq_of_mem_set hp with h | h
            · have := g3 p h; omega
            · rw [h]; exact hd) (by rw [List.length_set]; omega) (by omega)]
          rfl
        · rw [if_neg c, if_neg c]
    · rw [show (!Th.kv s) = true by simpa using hs]; exact no (fun h' => hs h'.2)
  · rw [if_neg h]; exact no (fun h' => h h'.1)
theorem spec_PagesDrop_ok (l : List S53) (s : ByteArray) (k : Nat) (hl : l.length ≤ 1048576) (hk : l.length + 6000 ≤ k) : ∃ r, spec_PagesDrop.f k l s = some r ∧ Sm r.1 := ⟨_, spec_PagesDrop_eq l s k hl hk, Th.dropPg_small _ _ _ _ (fun _ => rfl) _ _ (by show ([] : List S65).length ≤ 48; simp) l s⟩
theorem spec_PagesList_l0 (l : List S53) (h : Th.PgV S65.f0 S65.f1 S53.f0 l) : ∀ (d i k : Nat), i + d = l.length → d + 4000 ≤ k → spec_PagesList.l0 k l (Th.cat S53.f0 (l.take i)) (i : Int) = some (Th.cat S53.f0 l)
  | _, _, 0, _, h => by omega
  | 0, i, k + 1, hd, _ => by rw [spec_PagesList.l0, if_neg (by omega), List.take_of_length_le (by omega)]
  | d + 1, i, k + 1, hd, hk => by
    have hl := Th.pgv_len _ _ _ l h
    have hc := h.2.1
    have hi : i < l.length := by omega
    have hw : wrap64 ((i : Int) + 1) = ((i + 1 : Nat) : Int) := by rw [Th.wrap_small (by omega) (by omega)]; omega
    have hm := Th.cat_mem S53.f0 l _ (Th.getD_mem z53 l i hi)
    have ht := Th.cat_len_take S53.f0 l i
    have ih := spec_PagesList_l0 l h d (i + 1) k (by omega) (by omega)
    rw [Th.cat_take S53.f0 z53 l i hi] at ih
    rw [spec_PagesList.l0, if_pos (by omega), spec_PagesValid_eq l k (by omega) (by omega), Option.bind_some, if_pos ((Th.pgv_iff _ _ _ _).2 h), if_pos (by omega), show rd_T53 l (i : Int) = l.getD i z53 from rfl, if_pos (by omega), hw]
    exact ih
theorem spec_PagesList_eq (l : List S53) (k : Nat) (hl : l.length ≤ 1048576) (hk : l.length + 5000 ≤ k) : spec_PagesList.f k l = some (Th.listPg S65.f0 S65.f1 S53.f0 l) := by
  unfold spec_PagesList.f Th.listPg
  by_cases h : Th.pgv S65.f0 S65.f1 S53.f0 l = true
  · rw [if_pos h]
    exact spec_PagesList_l0 l ((Th.pgv_iff _ _ _ _).1 h) l.length 0 k (by omega) (by omega)
  · obtain ⟨k, rfl⟩ : ∃ m, k = m + 1 := ⟨k - 1, by omega⟩
    rw [if_neg h, spec_PagesList.l0]
    by_cases c : (0 : Int) < (l.length : Int)
    · rw [if_pos c, spec_PagesValid_eq l k hl (by omega), Option.bind_some, if_neg h]
    · rw [if_neg c]
theorem spec_PairPut_eq (l : List S65) (s : ByteArray) (v : Int) (k : Nat) (hk : 3000 ≤ k) : spec_PairPut.f k l s v = some (Th.putP S65.f0 S65.f1 S65.mk l s v) := by
  obtain ⟨k, rfl⟩ : ∃ m, k = m + 2 := ⟨k - 2, by omega⟩
  have no : ¬ (Th.pv S65.f0 S65.f1 l = true ∧ Th.kv s = true ∧ (0 ≤ v ∧ v ≤ 999)) → Th.putP S65.f0 S65.f1 S65.mk l s v = ([], false) := by
    intro h
    unfold Th.putP
    rw [if_neg h]
  unfold spec_PairPut.f
  rw [Option.bind_some, spec_PairsValid_eq l (k + 2) (by omega), Option.bind_some]
  by_cases h : Th.pv S65.f0 S65.f1 l = true
  · rw [if_pos h, spec_KeyValid_eq s (k + 2) (by omega), Option.bind_some]
    by_cases hk2 : Th.kv s = true
    · rw [if_pos hk2, spec_l1In_eq, Option.bind_some, spec_PairPut.j0]
      by_cases hv : 0 ≤ v ∧ v ≤ 999
      · have hl := ((Th.pv_iff _ _ l).1 h).1
        have hp := Th.place_le S65.f0 l s
        rw [decide_eq_true hv.1, decide_eq_true hv.2, if_neg (by simp), spec_l4Place_eq l s (k + 1) (by omega) (by omega), Option.bind_some]
        unfold Th.putP
        rw [if_pos (show Th.pv S65.f0 S65.f1 l = true ∧ Th.kv s = true ∧ (0 ≤ v ∧ v ≤ 999) from ⟨h, hk2, hv⟩), Th.foundAt_getD _ z65]
        generalize hq : Th.place S65.f0 l s = q at hp
        have ht : (l.take q).length = q := by rw [List.length_take]; omega
        have hd : (l.drop q).length = l.length - q := List.length_drop ..
        have fin : ∀ c : Bool, c = false → spec_PairPut.j1 (k + 1) l s v [] (q : Int) c = some (if 48 ≤ l.length then (l, false) else (l.take q ++ (⟨s, v⟩ : S65) :: l.drop q, true)) := by
          intro c hc
          subst hc
          rw [spec_PairPut.j1, if_neg (by simp)]
          by_cases h48 : (l.length : Int) ≥ 48
          · rw [if_pos h48, if_pos (by simp only [List.length_nil]; omega), if_pos (by omega), List.nil_append]
          · rw [if_neg h48, if_neg (show ¬ 48 ≤ l.length by omega), if_pos (by omega), if_pos (by omega)]
            simp only [Option.bind_some, Int.toNat_natCast, List.nil_append]
            rw [if_pos (by simp only [List.length_nil]; omega), if_pos (by omega), if_pos (by rw [List.length_append]; simp only [List.length_cons, List.length_nil]; omega), List.append_assoc]
            rfl
        by_cases e : q < l.length
        · rw [if_pos (by omega), if_pos (by omega), decide_eq_true e, Bool.true_and, show rd_T65 l (q : Int) = l.getD q z65 from rfl]
          by_cases c : (l.getD q z65).f0.toList = s.toList
          · have hset : l.set q (⟨s, v⟩ : S65) = l.take q ++ (⟨s, v⟩ : S65) :: l.drop (q + 1) := List.set_eq_take_append_cons_drop.trans (if_pos e)
            rw [show ((l.getD q z65).f0.toList == s.toList) = true by simpa using c, spec_PairPut.j1, if_pos rfl, if_pos (by simp only [List.length_nil]; omega), if_pos (show decide ((l.getD q z65).f0 = s) = true by simpa using Th.str_ext c)]
            simp only [Option.bind_some, List.nil_append]
            rw [if_pos (by omega), if_pos (by omega), Int.toNat_natCast, show rd_T65 l (q : Int) = l.getD q z65 from rfl, Th.str_ext c, hset]
          · rw [if_neg (show ¬ decide ((l.getD q z65).f0 = s) = true by rw [decide_eq_true_eq]; exact fun h => c (by rw [h]))]
            exact fin _ (by simpa using c)
        · rw [if_neg (by omega), decide_eq_false e, if_neg (by simp)]
          exact fin _ rfl
      · rw [if_pos, no (fun h => hv h.2.2)]
        rw [Bool.not_eq_true', Bool.and_eq_false_iff, decide_eq_false_iff_not, decide_eq_false_iff_not]
        omega
    · rw [if_neg hk2, spec_PairPut.j0, if_pos rfl, no (fun h => hk2 h.2.1)]
  · rw [if_neg h, spec_PairPut.j0, if_pos rfl, no (fun h' => h h'.1)]
theorem spec_PagesPut_eq (l : List S53) (s : ByteArray) (v : Int) (k : Nat) (hl : l.length ≤ 1048576) (hk : l.length + 6000 ≤ k) : spec_PagesPut.f k l s v = some (Th.putPg S65.f0 S65.f1 S53.f0 S65.mk S53.mk z65 z53 l s v) := by
  obtain ⟨k, rfl⟩ : ∃ m, k = m + 1 := ⟨k - 1, by omega⟩
  have no : ¬ (Th.pgv S65.f0 S65.f1 S53.f0 l = true ∧ Th.kv s = true ∧ (0 ≤ v ∧ v ≤ 999)) → spec_PagesPut.j0 (k + 1) l s v true = some (Th.putPg S65.f0 S65.f1 S53.f0 S65.mk S53.mk z65 z53 l s v) := by
    intro h
    unfold Th.putPg
    rw [spec_PagesPut.j0, if_pos rfl, if_neg h]
  unfold spec_PagesPut.f
  rw [spec_PagesValid_eq l _ hl (by omega), Option.bind_some]
  by_cases h : Th.pgv S65.f0 S65.f1 S53.f0 l = true
  · have hP := (Th.pgv_iff _ _ _ _).1 h
    obtain ⟨g1, g2, g3⟩ := sm_of l hP
    rw [if_pos h, spec_KeyValid_eq s _ (by omega), Option.bind_some]
    by_cases hs : Th.kv s = true
    · rw [if_pos hs, spec_l1In_eq, Option.bind_some]
      by_cases hv : 0 ≤ v ∧ v ≤ 999
      · rw [decide_eq_true hv.1, decide_eq_true hv.2, spec_PagesPut.j0, if_neg (by simp), spec_l6Copy_eq l (by omega) (by omega) k (by omega), Option.bind_some]
        unfold Th.putPg
        rw [if_pos (show Th.pgv S65.f0 S65.f1 S53.f0 l = true ∧ Th.kv s = true ∧ (0 ≤ v ∧ v ≤ 999) from ⟨h, hs, hv⟩)]
        by_cases hne : l = []
        · subst hne
          rw [if_pos (by simp), if_pos (by simp), if_pos rfl]
          rfl
        · have hn : ¬ (l.length : Int) = 0 := fun e => hne (List.eq_nil_of_length_eq_zero (by omega))
          have q1 := Th.lastPg_in S65.f0 S53.f0 z65 s l hne
          have q2 := find_at' l s hP hs hne
          rw [if_neg hn, if_neg hne, spec_PagesList_eq l k hl (by omega), Option.bind_some, list_cat l h, spec_PairPut_eq _ _ _ k (by omega), Option.bind_some]
          generalize Th.lastPg S65.f0 S53.f0 z65 s l 0 0 = q at q1 q2 ⊢
          by_cases room : (Th.putP S65.f0 S65.f1 S65.mk (Th.cat S53.f0 l) s v).2 = true
          · have hq := Th.putP_len S65.f0 S65.f1 S65.mk (l.getD q z53).f0 s v
            have hw : wrap64 ((q : Int) + 1) = ((q + 1 : Nat) : Int) := by rw [Th.wrap_small (by omega) (by omega)]; omega
            rw [if_pos room, if_pos room, spec_PageFind_eq l s k hl (by omega), Option.bind_some, q2, if_pos (by omega), if_pos (by omega), show rd_T53 l (q : Int) = l.getD q z53 from rfl, spec_PairPut_eq _ _ _ k (by omega), Option.bind_some]
            generalize (Th.putP S65.f0 S65.f1 S65.mk (l.getD q z53).f0 s v).1 = x at hq ⊢
            have ht : (l.take q).length = q := by rw [List.length_take]; omega
            have hdl : (l.drop (q + 1)).length = l.length - (q + 1) := List.length_drop ..
            unfold Th.splitPg
            by_cases c : (x.length : Int) ≤ 4
            · rw [if_pos c, if_pos (by omega), Int.toNat_natCast, if_pos (show x.length ≤ 4 by omega)]
            · rw [if_neg c, if_neg (show ¬ x.length ≤ 4 by omega), Option.bind_some, if_pos (by omega), Option.bind_some, Int.toNat_natCast, if_pos (by simp only [List.length_nil]; omega), Option.bind_some, Option.bind_some, if_pos (by omega), Option.bind_some, if_pos (by rw [List.length_take]; simp only [List.length_nil]; omega), Option.bind_some, Option.bind_some, if_pos (by rw [List.length_drop]; simp only [List.length_nil]; omega), Option.bind_some, if_pos (by rw [List.nil_append, ht]; simp only [List.length_cons, List.length_nil]; omega), Option.bind_some, hw, if_pos (by omega), if_pos (by omega), Option.bind_some, Int.toNat_natCast, if_pos (by rw [List.nil_append, List.length_append, ht, hdl]; simp only [List.length_cons, List.length_nil]; omega)]
              rfl
          · rw [if_neg room, if_neg room]
      · rw [show (!(decide (0 ≤ v) && decide (v ≤ 999))) = true by rw [Bool.not_eq_true', Bool.and_eq_false_iff, decide_eq_false_iff_not, decide_eq_false_iff_not]; omega]
        exact no (fun h' => hv h'.2.2)
    · rw [if_neg hs]; exact no (fun h' => hs h'.2.1)
  · rw [if_neg h]; exact no (fun h' => h h'.1)
theorem spec_PagesPut_ok (l : List S53) (s : ByteArray) (v : Int) (k : Nat) (hl : l.length ≤ 1048576) (hk : l.length + 6000 ≤ k) : ∃ r, spec_PagesPut.f k l s v = some r ∧ Sm r.1 := ⟨_, spec_PagesPut_eq l s v k hl hk, Th.putPg_small _ _ _ _ _ (fun _ => rfl) _ _ l s v⟩
theorem spec_l20Rd_pick_ok (xs : List Int) (p n : Int) (k : Nat) (hx : ∀ x ∈ xs, 0 ≤ x ∧ x ≤ 255) (hl : xs.length ≤ 4294967296) (hp : 0 ≤ p ∧ p ≤ 100000000) (hn : 1 ≤ n) (hk : 1 ≤ k) : ∃ v, 0 ≤ v ∧ v < n ∧ spec_l20Rd_pick.f k xs p n = some (v, p + 1) := by
  obtain ⟨k, rfl⟩ : ∃ m, k = m + 1 := ⟨k - 1, by omega⟩
  have w1 : wrap64 (p + 1) = p + 1 := Th.wrap_small (by omega) (by omega)
  have w2 : wrap64 (p + 1 - 1) = p := by rw [Th.wrap_small (by omega) (by omega)]; omega
  unfold spec_l20Rd_pick.f
  rw [if_neg (by omega), w1, spec_l20Rd_pick.j0]
  by_cases e : (xs.length : Int) = 0
  · rw [show ((xs.length : Int) == 0) = true by simpa using e, if_pos rfl]
    exact ⟨0, by omega, by omega, rfl⟩
  · rw [show ((xs.length : Int) == 0) = false by simpa using e, if_neg (by simp), w2]
    by_cases c : p < (xs.length : Int)
    · rw [if_pos c, if_pos (by omega), if_neg (by omega)]
      have h := Th.rd_u8 xs hx p
      rw [Th.wrap_small (x := rd xs p) (by omega) (by omega)]
      exact ⟨_, Int.tmod_nonneg _ h.1, Int.tmod_lt_of_pos _ (by omega), rfl⟩
    · have hL : (0 : Int) < xs.length := by omega
      have t1 : 0 ≤ Int.tmod p (xs.length : Int) := Int.tmod_nonneg _ hp.1
      have t2 : Int.tmod p (xs.length : Int) < (xs.length : Int) := Int.tmod_lt_of_pos _ hL
      have w3 : wrap64 (wrap64 (p * 7) + 3) = p * 7 + 3 := by rw [Th.wrap_small (x := p * 7) (by omega) (by omega), Th.wrap_small (by omega) (by omega)]
      have t3 : 0 ≤ Int.tmod (p * 7 + 3) (xs.length : Int) := Int.tmod_nonneg _ (by omega)
      have t4 : Int.tmod (p * 7 + 3) (xs.length : Int) < (xs.length : Int) := Int.tmod_lt_of_pos _ hL
      have hd : 0 ≤ Int.tdiv p (xs.length : Int) ∧ Int.tdiv p (xs.length : Int) ≤ 1000000000 := by
        rw [Int.tdiv_eq_ediv_of_nonneg hp.1]
        refine ⟨Int.ediv_nonneg hp.1 (by omega), ?_⟩
        have : p / (xs.length : Int) ≤ p := Int.ediv_le_self _ hp.1
        omega
      have hv := Th.pick_val (rd xs (Int.tmod p (xs.length : Int))) (rd xs (Int.tmod (p * 7 + 3) (xs.length : Int))) p (Int.tdiv p (xs.length : Int)) (Th.rd_u8 xs hx _) (Th.rd_u8 xs hx _) ⟨hp.1, by omega⟩ hd
      rw [if_neg c, if_neg e, if_pos t1, if_pos t2, w3, if_pos t3, if_pos t4, if_neg (by omega)]
      exact ⟨_, Int.tmod_nonneg _ hv, Int.tmod_lt_of_pos _ (by omega), rfl⟩
theorem spec_l20Rd_odd_ok (xs : List Int) (p n : Int) (k : Nat) (hx : ∀ x ∈ xs, 0 ≤ x ∧ x ≤ 255) (hl : xs.length ≤ 4294967296) (hp : 0 ≤ p ∧ p ≤ 100000000) (hk : 1 ≤ k) : ∃ b q, p ≤ q ∧ q ≤ p + 1 ∧ spec_l20Rd_odd.f k xs p n = some (b, q) := by
  unfold spec_l20Rd_odd.f
  by_cases h : n > 0
  · obtain ⟨v, _, _, hv⟩ := spec_l20Rd_pick_ok xs p n k hx hl hp (by omega) hk
    rw [if_pos h, hv]
    exact ⟨_, p + 1, by omega, by omega, rfl⟩
  · rw [if_neg h]
    exact ⟨_, p, by omega, by omega, rfl⟩
theorem spec_l20Key_l0 (xs : List Int) (hx : ∀ x ∈ xs, 0 ≤ x ∧ x ≤ 255) (hl : xs.length ≤ 4294967296) : ∀ (d k : Nat) (s : ByteArray) (p : Int), d < k → 0 ≤ p → p + d ≤ 100000000 → s.size + d ≤ 100 → ∃ r, r.size ≤ 100 ∧ spec_l20Key.l0 (k + 1) s (d : Int) xs p = some (r, p + d)
  | 0, k, s, p, hk, h0, hp, hs => by
    rw [spec_l20Key.l0, if_neg (by omega)]
    exact ⟨s, by omega, by simp⟩
  | d + 1, 0, s, p, hk, h0, hp, hs => by omega
  | d + 1, k + 1, s, p, hk, h0, hp, hs => by
    obtain ⟨v, v0, v1, hv⟩ := spec_l20Rd_pick_ok xs p 4 (k + 1) hx hl ⟨h0, by omega⟩ (by omega) (by omega)
    have hz : ∀ y : List Int, (strOfNums y).size = y.length := strOfNums_size
    have hw : wrap64 (((d + 1 : Nat) : Int) - 1) = (d : Int) := by rw [Th.wrap_small (by omega) (by omega)]; omega
    obtain ⟨r, hr, he⟩ := spec_l20Key_l0 xs hx hl d k (s ++ strOfNums [(wrap64 (97 + v)) % 256]) (p + 1) (by omega) (by omega) (by omega) (by rw [ByteArray.size_append, hz]; simp only [List.length_cons, List.length_nil]; omega)
    rw [spec_l20Key.l0, if_pos (by omega), hv, Option.bind_some, Option.bind_some, if_pos (by rw [hz]; simp only [List.length_cons, List.length_nil]; omega), hw, he]
    exact ⟨r, hr, by rw [show p + 1 + (d : Int) = p + ((d + 1 : Nat) : Int) by omega]⟩
theorem spec_l20Key_ok (xs : List Int) (p n : Int) (k : Nat) (hx : ∀ x ∈ xs, 0 ≤ x ∧ x ≤ 255) (hl : xs.length ≤ 4294967296) (hp : 0 ≤ p ∧ p ≤ 90000000) (hk : 10 ≤ k) : ∃ s q, s.size ≤ 100 ∧ p ≤ q ∧ q ≤ p + 10 ∧ spec_l20Key.f k xs p n = some (s, q) := by
  obtain ⟨b, q, q0, q1, hb⟩ := spec_l20Rd_odd_ok xs p n k hx hl (by omega) (by omega)
  unfold spec_l20Key.f
  rw [hb, Option.bind_some]
  cases b with
  | true =>
    obtain ⟨v, v0, v1, hv⟩ := spec_l20Rd_pick_ok xs q 6 k hx hl (by omega) (by omega) (by omega)
    simp only [if_true, Option.bind_some]
    rw [hv, Option.bind_some, if_pos v0, if_pos (by simp only [List.length_cons, List.length_nil]; omega)]
    exact ⟨_, _, Th.rdOf_small _ 100 (by decide) _, by omega, by omega, rfl⟩
  | false =>
    obtain ⟨v, v0, v1, hv⟩ := spec_l20Rd_pick_ok xs q 12 k hx hl (by omega) (by omega) (by omega)
    simp only [Bool.false_eq_true, if_false]
    rw [hv, Option.bind_some]
    by_cases c : v = 11
    · obtain ⟨u, u0, u1, hu⟩ := spec_l20Rd_pick_ok xs (q + 1) 5 k hx hl (by omega) (by omega) (by omega)
      rw [if_pos c, Option.bind_some, hu, Option.bind_some, if_pos u0, if_pos (by simp only [List.length_cons, List.length_nil]; omega)]
      exact ⟨_, _, Th.rdOf_small _ 100 (by decide) _, by omega, by omega, rfl⟩
    · obtain ⟨u, u0, u1, hu⟩ := spec_l20Rd_pick_ok xs (q + 1) 2 k hx hl (by omega) (by omega) (by omega)
      obtain ⟨k, rfl⟩ : ∃ m, k = m + 1 := ⟨k - 1, by omega⟩
      obtain ⟨r, hr, he⟩ := spec_l20Key_l0 xs hx hl (1 + u).toNat k (⟨#[]⟩ : ByteArray) (q + 1 + 1) (by omega) (by omega) (by omega) (by rw [show ((⟨#[]⟩ : ByteArray)).size = 0 from rfl]; omega)
      rw [show (((1 + u).toNat : Nat) : Int) = 1 + u by omega] at he
      rw [if_neg c, hu, Option.bind_some, Th.wrap_small (x := 1 + u) (by omega) (by omega), he]
      exact ⟨r, _, hr, by omega, by omega, rfl⟩
theorem spec_l20Near_j0 (xs : List Int) (A : List S65) (n p : Int) (b : Bool) (k : Nat) (hx : ∀ x ∈ xs, 0 ≤ x ∧ x ≤ 255) (hl : xs.length ≤ 4294967296) (hA : A.length ≤ 100) (hb : b = true → 0 < A.length) (hp : 0 ≤ p ∧ p ≤ 80000000) (hk : 20 ≤ k) : ∃ s q, p ≤ q ∧ q ≤ p + 11 ∧ spec_l20Near.j0 k A n b xs p = some (s, q) := by
  obtain ⟨k, rfl⟩ : ∃ m, k = m + 1 := ⟨k - 1, by omega⟩
  rw [spec_l20Near.j0]
  cases b with
  | true =>
    have h0 := hb rfl
    obtain ⟨v, v0, v1, hv⟩ := spec_l20Rd_pick_ok xs p (A.length : Int) k hx hl (by omega) (by omega) (by omega)
    rw [if_pos rfl, hv, Option.bind_some]
    dsimp only
    rw [if_pos v0, if_pos v1]
    exact ⟨_, _, by omega, by omega, rfl⟩
  | false =>
    obtain ⟨s, q, _, q0, q1, hs⟩ := spec_l20Key_ok xs p n k hx hl (by omega) (by omega)
    rw [if_neg (by simp), hs]
    exact ⟨_, _, by omega, by omega, rfl⟩
theorem spec_l20Near_ok (xs : List Int) (A : List S65) (p n : Int) (k : Nat) (hx : ∀ x ∈ xs, 0 ≤ x ∧ x ≤ 255) (hl : xs.length ≤ 4294967296) (hA : A.length ≤ 100) (hp : 0 ≤ p ∧ p ≤ 70000000) (hk : 20 ≤ k) : ∃ s q, p ≤ q ∧ q ≤ p + 12 ∧ spec_l20Near.f k xs p A n = some (s, q) := by
  unfold spec_l20Near.f
  by_cases c : (A.length : Int) > 0
  · obtain ⟨v, v0, v1, hv⟩ := spec_l20Rd_pick_ok xs p 2 k hx hl (by omega) (by omega) (by omega)
    obtain ⟨s, q, q0, q1, hs⟩ := spec_l20Near_j0 xs A n (p + 1) (v == 0) k hx hl hA (fun _ => by omega) (by omega) hk
    rw [if_pos c, hv, Option.bind_some]
    dsimp only
    rw [hs]
    exact ⟨s, q, by omega, by omega, rfl⟩
  · obtain ⟨s, q, q0, q1, hs⟩ := spec_l20Near_j0 xs A n p false k hx hl hA (fun h => by cases h) (by omega) hk
    rw [if_neg c, hs]
    exact ⟨s, q, by omega, by omega, rfl⟩
theorem spec_l20Value_ok (xs : List Int) (p n : Int) (k : Nat) (hx : ∀ x ∈ xs, 0 ≤ x ∧ x ≤ 255) (hl : xs.length ≤ 4294967296) (hp : 0 ≤ p ∧ p ≤ 90000000) (hk : 1 ≤ k) : ∃ v q, p ≤ q ∧ q ≤ p + 5 ∧ spec_l20Value.f k xs p n = some (v, q) := by
  obtain ⟨b, q, q0, q1, hb⟩ := spec_l20Rd_odd_ok xs p n k hx hl (by omega) (by omega)
  unfold spec_l20Value.f
  rw [hb, Option.bind_some]
  cases b with
  | true =>
    obtain ⟨v, v0, v1, hv⟩ := spec_l20Rd_pick_ok xs q 2 k hx hl (by omega) (by omega) (by omega)
    dsimp only
    rw [if_pos rfl, Option.bind_some, hv, Option.bind_some]
    dsimp only
    rw [if_pos v0, if_pos (by simp only [List.length_cons, List.length_nil]; omega)]
    exact ⟨_, _, by omega, by omega, rfl⟩
  | false =>
    obtain ⟨v, v0, v1, hv⟩ := spec_l20Rd_pick_ok xs q 20 k hx hl (by omega) (by omega) (by omega)
    obtain ⟨u, u0, u1, hu⟩ := spec_l20Rd_pick_ok xs (q + 1) 9 k hx hl (by omega) (by omega) (by omega)
    have ht : wrap64 (Int.tdiv u 8) = u / 8 := by rw [Int.tdiv_eq_ediv_of_nonneg u0, Th.wrap_small (by omega) (by omega)]
    dsimp only
    rw [if_neg (by simp), hv, Option.bind_some]
    dsimp only
    rw [Option.bind_some, hu, Option.bind_some]
    dsimp only
    rw [ht, if_pos (by omega), if_pos (by simp only [List.length_cons, List.length_nil]; omega)]
    exact ⟨_, _, by omega, by omega, rfl⟩
theorem mn_le {a b : Int} (h : a ≤ b) : mn a b = a := by unfold mn; rw [if_neg (by omega)]
theorem mn_ge {a b : Int} (h : b ≤ a) : mn a b = b := by
  unfold mn
  by_cases c : b < a
  · rw [if_pos c]
  · rw [if_neg c]; omega
theorem chunk_nil (k : Nat) (l : List S65) (h : l.length = 0) : Th.chunk S53.mk k l = [] := by
  cases k with
  | zero => rfl
  | succ k => rw [Th.chunk, if_pos h]
theorem spec_PagesOf_l0 (l : List S65) (hl : l.length ≤ 48) : ∀ (c d i k : Nat) (o : List S53), d ≤ c → l.length = i + d → c + 1 < k → o.length ≤ i → spec_PagesOf.l0 k l o (i : Int) = some (o ++ Th.chunk S53.mk c (l.drop i))
  | _, _, _, 0, _, _, _, h, _ => by omega
  | 0, d, i, k + 1, o, hd, h, _, _ => by
    rw [spec_PagesOf.l0, if_neg (by omega)]
    simp [Th.chunk]
  | c + 1, d, i, k + 1, o, hd, h, hk, ho => by
    have hdl : (l.drop i).length = d := by rw [List.length_drop]; omega
    have w4 : wrap64 ((i : Int) + 4) = (i : Int) + 4 := Th.wrap_small (by omega) (by omega)
    by_cases c0 : d = 0
    · rw [spec_PagesOf.l0, if_neg (by omega), chunk_nil _ _ (by omega), List.append_nil]
    by_cases c1 : d ≤ 4
    · have e : mn (l.length : Int) (wrap64 ((i : Int) + 4)) = (l.length : Int) := by rw [w4, mn_le (by omega)]
      have w : wrap64 ((l.length : Int) - (l.length : Int)) = 0 := by rw [Th.wrap_small (by omega) (by omega)]; omega
      have fin : ∀ o' : List S53, spec_PagesOf.l0 k l o' ((i : Int) + 4) = some o' := by
        intro o'
        obtain ⟨k, rfl⟩ : ∃ m, k = m + 1 := ⟨k - 1, by omega⟩
        rw [spec_PagesOf.l0, if_neg (by omega)]
      rw [spec_PagesOf.l0, if_pos (by omega), e, w, if_neg (by omega), Option.bind_some, if_pos (by omega), if_pos (by omega), if_pos (by omega), Int.toNat_natCast, Int.toNat_natCast, List.take_length, Option.bind_some, if_pos (by simp only [List.length_nil]; omega), if_pos (by omega), Option.bind_some, w4, fin, List.nil_append]
      have hc : Th.chunk S53.mk (c + 1) (l.drop i) = [⟨l.drop i⟩] := by rw [Th.chunk, if_neg (by omega), if_pos (by omega)]
      rw [hc]
      by_cases g : (l.length : Int) < (i : Int) + 4
      · rw [if_pos g, if_neg (by omega)]
      · rw [if_neg g]
    by_cases c2 : d = 5
    · have e : mn (l.length : Int) (wrap64 ((i : Int) + 4)) = (i : Int) + 4 := by rw [w4, mn_ge (by omega)]
      have w : wrap64 ((l.length : Int) - ((i : Int) + 4)) = 1 := by rw [Th.wrap_small (by omega) (by omega)]; omega
      have w3 : wrap64 ((i : Int) + 4 - 1) = ((i + 3 : Nat) : Int) := by rw [Th.wrap_small (by omega) (by omega)]; omega
      have ht : (l.take (i + 3)).drop i = (l.drop i).take 3 := by rw [List.drop_take]; congr 1; omega
      have hdd : l.drop (i + 3) = (l.drop i).drop 3 := by rw [List.drop_drop]
      rw [spec_PagesOf.l0, if_pos (by omega), e, w, if_pos rfl, Option.bind_some, if_pos (by omega), w3, if_pos (by omega), if_pos (by omega), Int.toNat_natCast, Int.toNat_natCast, ht, Option.bind_some, if_pos (by rw [List.length_take]; simp only [List.length_nil]; omega), if_pos (by omega), Option.bind_some, w4, if_pos (by omega), if_pos (by omega), Option.bind_some, if_pos (by omega), Option.bind_some, if_pos (by rw [List.length_drop]; simp only [List.length_nil]; omega), if_pos (by rw [List.length_append]; simp only [List.length_cons, List.length_nil]; omega), hdd, List.append_assoc, List.nil_append, List.nil_append]
      rw [Th.chunk, if_neg (by omega), if_neg (by omega), if_pos (by omega)]
      rfl
    · have e : mn (l.length : Int) (wrap64 ((i : Int) + 4)) = ((i + 4 : Nat) : Int) := by rw [w4, mn_ge (by omega)]; omega
      have w : wrap64 ((l.length : Int) - ((i + 4 : Nat) : Int)) = (l.length : Int) - (i : Int) - 4 := by rw [Th.wrap_small (by omega) (by omega)]; omega
      have ih := spec_PagesOf_l0 l hl c (d - 4) (i + 4) k (o ++ [⟨(l.drop i).take 4⟩]) (by omega) (by omega) (by omega) (by rw [List.length_append]; simp only [List.length_cons, List.length_nil]; omega)
      have ht : (l.take (i + 4)).drop i = (l.drop i).take 4 := by rw [List.drop_take]; congr 1; omega
      have hdd : l.drop (i + 4) = (l.drop i).drop 4 := by rw [List.drop_drop]
      rw [show ((i + 4 : Nat) : Int) = (i : Int) + 4 by omega] at ih
      rw [spec_PagesOf.l0, if_pos (by omega), e, w, if_neg (by omega), Option.bind_some, if_pos (by omega), if_pos (by omega), if_pos (by omega), Int.toNat_natCast, Int.toNat_natCast, ht, Option.bind_some, if_pos (by rw [List.length_take]; simp only [List.length_nil]; omega), if_pos (by omega), Option.bind_some, w4, if_neg (by omega), List.nil_append, ih, hdd, List.append_assoc]
      rw [Th.chunk, if_neg (by omega), if_neg (by omega), if_neg (by omega)]
      rfl
theorem spec_PagesOf_eq (l : List S65) (k : Nat) (hk : 4000 ≤ k) : spec_PagesOf.f k l = some (Th.ofPg S65.f0 S65.f1 S53.mk l) := by
  unfold spec_PagesOf.f Th.ofPg
  rw [Option.bind_some, spec_PairsValid_eq l k (by omega), Option.bind_some]
  by_cases h : Th.pv S65.f0 S65.f1 l = true
  · have hP := ((Th.pv_iff _ _ _).1 h).1
    have := spec_PagesOf_l0 l hP l.length l.length 0 k [] (Nat.le_refl _) (by omega) (by omega) (by simp)
    rw [List.drop_zero, List.nil_append, show ((0 : Nat) : Int) = 0 from rfl] at this
    rw [if_pos h, if_pos h, this]
  · rw [if_neg h, if_neg h]
theorem spec_l1Weight_eq (d : Nat) (h : d ≤ 4) : spec_l1Weight.f (d : Int) = some (Th.wt (d + 1)) := by
  have hc : d = 0 ∨ d = 1 ∨ d = 2 ∨ d = 3 ∨ d = 4 := by omega
  rcases hc with rfl | rfl | rfl | rfl | rfl <;> rfl
theorem spec_KeyAt_l0 : ∀ (f : Nat) (n : Int) (d k : Nat) (p : List UInt8), f + d = 3 → 0 ≤ n → n + 1 ≤ 26 * Th.wt (d + 1) → p.length ≤ d → f < k → spec_KeyAt.l0 k n (Th.mkS p) (d : Int) = some (Th.mkS (p ++ Th.keyL (f + 1) (n + 1) (d + 1)))
  | _, _, _, 0, _, _, _, _, _, h => by omega
  | f, n, d, k + 1, p, hf, h0, hn, hp, hk => by
    have hd4 : (d : Int) < 4 := by omega
    have hdn : d ≤ 4 := by omega
    obtain ⟨q0, q1, m0, m1, nb, wb, mz, ws⟩ := Th.div_facts (d := d + 1) (by omega) (by omega) h0 hn
    have hw := Th.wt_pos (d + 1)
    have hne : ¬ Th.wt (d + 1) = 0 := by omega
    have hb : wrap64 ((d : Int) + 1) = ((d + 1 : Nat) : Int) := by rw [Th.wrap_small (by omega) (by omega)]; omega
    have e2 : Int.tmod n (Th.wt (d + 1)) = n % Th.wt (d + 1) := Int.tmod_eq_emod_of_nonneg h0
    have e3 : Int.tdiv n (Th.wt (d + 1)) = n / Th.wt (d + 1) := Int.tdiv_eq_ediv_of_nonneg h0
    have hkl : Th.keyL (f + 1) (n + 1) (d + 1) = Th.chr (n / Th.wt (d + 1)) :: Th.keyL f (n % Th.wt (d + 1)) (d + 1 + 1) := by
      rw [Th.keyL, if_neg (show ¬ n + 1 = 0 from fun h => by clear e2 e3; omega), show n + 1 - 1 = n from Int.add_sub_cancel n 1]
    rw [spec_KeyAt.l0, if_pos hd4, spec_l1Weight_eq d hdn, hkl, hb]
    simp only [Option.bind_some]
    rw [if_neg hne, e2, e3]
    clear e2 e3 hkl hb hd4 hne hn
    generalize n / Th.wt (d + 1) = q at *
    generalize n % Th.wt (d + 1) = m at *
    generalize Th.wt (d + 1) = W at *
    have e4 : wrap64 (97 + wrap64 q) % 256 = ((97 + q).toNat : Int) := by
      rw [Th.wrap_small (x := q) (by omega) (by omega), Th.wrap_small (by omega) (by omega)]
      omega
    have he : strOfNums [((97 + q).toNat : Int)] = Th.mkS [Th.chr q] := Th.strOfNums_one _
    have hsz : (Th.mkS p).size + (Th.mkS [Th.chr q]).size ≤ 9223372036854775807 := by
      rw [Th.size_mkS, Th.size_mkS]
      simp only [List.length_cons, List.length_nil]
      omega
    rw [e4, he, if_pos hsz, if_neg (by omega), Th.append_mkS]
    clear e4 he hsz
    by_cases hz : m = 0
    · rw [if_pos hz, hz]
      cases f with
      | zero => rfl
      | succ f => rw [Th.keyL, if_pos rfl]
    · rw [if_neg hz]
      cases f with
      | zero => exact absurd (mz (by omega)) hz
      | succ f =>
        have hws := ws (by omega)
        have ih := spec_KeyAt_l0 f (m - 1) (d + 1) k (p ++ [Th.chr q]) (by omega) (by omega) (by omega) (by simp only [List.length_append, List.length_cons, List.length_nil]; omega) (by omega)
        rw [Th.wrap_small (by omega) (by omega), ih, show m - 1 + 1 = m by omega, List.append_assoc]
        rfl
theorem spec_KeyAt_eq (n : Int) (k : Nat) (hk : 1000 ≤ k) : spec_KeyAt.f k n = some (Th.kat n) := by
  unfold spec_KeyAt.f Th.kat
  rw [spec_l1In_eq, Option.bind_some]
  by_cases h : 0 ≤ n ∧ n ≤ 475253
  · have := spec_KeyAt_l0 3 n 0 k [] (by omega) h.1 (by simp only [Th.wt]; omega) (by simp) (by omega)
    rw [show ((0 : Nat) : Int) = 0 from rfl] at this
    rw [decide_eq_true h.1, decide_eq_true h.2, if_pos h]
    simp only [Bool.and_self, if_true]
    rw [Th.mkS_nil, this]
    rfl
  · rw [if_neg h, if_neg]
    · rfl
    · simp only [Bool.and_eq_true, decide_eq_true_eq]
      exact h
theorem spec_l20Pairs_j3 (xs : List Int) (n : Int) (hx : ∀ x ∈ xs, 0 ≤ x ∧ x ≤ 255) (hl : xs.length ≤ 4294967296) (A : List S65) (hA : A.length ≤ 50) (p : Int) (k : Nat) (hp : 0 ≤ p ∧ p ≤ 90000000) (hk : 10 ≤ k) : ∃ B q, p ≤ q ∧ q ≤ p + 2 ∧ B.length ≤ 51 ∧ spec_l20Pairs.j3 k n A xs p = some (B, q) := by
  obtain ⟨k, rfl⟩ : ∃ m, k = m + 1 := ⟨k - 1, by omega⟩
  obtain ⟨b, q, q0, q1, hb⟩ := spec_l20Rd_odd_ok xs p n k hx hl (by omega) (by omega)
  obtain ⟨v, v0, v1, hv⟩ := spec_l20Rd_pick_ok xs q 5 k hx hl (by omega) (by omega) (by omega)
  rw [spec_l20Pairs.j3, hb, Option.bind_some]
  cases b with
  | true =>
    dsimp only
    rw [if_pos rfl, Option.bind_some, hv, Option.bind_some]
    dsimp only
    rw [if_pos v0, if_pos (by simp only [List.length_cons, List.length_nil]; omega), if_pos (by omega)]
    exact ⟨_, _, by omega, by omega, by rw [List.length_append]; simp only [List.length_cons, List.length_nil]; omega, rfl⟩
  | false =>
    rw [if_neg (by simp)]
    exact ⟨_, _, by omega, by omega, by omega, rfl⟩
theorem spec_l20Pairs_l1 (xs : List Int) (n : Int) (hx : ∀ x ∈ xs, 0 ≤ x ∧ x ≤ 255) (hl : xs.length ≤ 4294967296) (p : Int) (hp : 0 ≤ p ∧ p ≤ 90000000) : ∀ (d i k : Nat) (A : List S65), i + d = 200 → A.length ≤ 50 → 2 * d + 4000 ≤ k → ∃ B q, p ≤ q ∧ q ≤ p + 2 ∧ B.length ≤ 51 ∧ spec_l20Pairs.l1 k n A (i : Int) xs p = some (B, q)
  | _, _, 0, _, _, _, h => by omega
  | _, _, 1, _, _, _, h => by omega
  | 0, i, k + 2, A, h, hA, hk => by
    have e : decide ((i : Int) < 200) = false := decide_eq_false (by omega)
    rw [spec_l20Pairs.l1, e]
    have := spec_l20Pairs_j3 xs n hx hl A hA p k hp (by omega)
    by_cases c : (A.length : Int) < 48
    · rw [if_pos c, spec_l20Pairs.j2, if_neg (by simp)]; exact this
    · rw [if_neg c, spec_l20Pairs.j2, if_neg (by simp)]; exact this
  | d + 1, i, k + 2, A, h, hA, hk => by
    have e : decide ((i : Int) < 200) = true := decide_eq_true (by omega)
    rw [spec_l20Pairs.l1, e]
    by_cases c : (A.length : Int) < 48
    · have hw : wrap64 ((i : Int) + 1) = ((i + 1 : Nat) : Int) := by rw [Th.wrap_small (by omega) (by omega)]; omega
      rw [if_pos c, spec_l20Pairs.j2, if_pos rfl, spec_KeyAt_eq _ k (by omega), Option.bind_some, spec_PairPut_eq _ _ _ k (by omega), Option.bind_some, hw]
      exact spec_l20Pairs_l1 xs n hx hl p hp d (i + 1) k _ (by omega) (Th.putP_len _ _ _ _ _ _) (by omega)
    · rw [if_neg c, spec_l20Pairs.j2, if_neg (by simp)]
      exact spec_l20Pairs_j3 xs n hx hl A hA p k hp (by omega)
theorem spec_l20Pairs_l0 (xs : List Int) (n : Int) (hx : ∀ x ∈ xs, 0 ≤ x ∧ x ≤ 255) (hl : xs.length ≤ 4294967296) : ∀ (d k : Nat) (A : List S65) (p : Int), A.length ≤ 50 → 0 ≤ p → p + 20 * d ≤ 80000000 → d + 5000 ≤ k → ∃ B q, p ≤ q ∧ q ≤ p + 20 * d + 5 ∧ B.length ≤ 51 ∧ spec_l20Pairs.l0 k n A (d : Int) xs p = some (B, q)
  | _, 0, _, _, _, _, _, h => by omega
  | 0, k + 1, A, p, hA, h0, hp, hk => by
    obtain ⟨v, v0, v1, hv⟩ := spec_l20Rd_pick_ok xs p 16 k hx hl (by omega) (by omega) (by omega)
    rw [spec_l20Pairs.l0, if_neg (by omega), hv, Option.bind_some]
    dsimp only
    by_cases c : v = 15
    · obtain ⟨B, q, q0, q1, h1, h2⟩ := spec_l20Pairs_l1 xs n hx hl (p + 1) (by omega) 200 0 k A (by omega) hA (by omega)
      rw [if_pos c]
      exact ⟨B, q, by omega, by omega, h1, h2⟩
    · obtain ⟨B, q, q0, q1, h1, h2⟩ := spec_l20Pairs_j3 xs n hx hl A hA (p + 1) k (by omega) (by omega)
      rw [if_neg c]
      exact ⟨B, q, by omega, by omega, h1, h2⟩
  | d + 1, k + 1, A, p, hA, h0, hp, hk => by
    obtain ⟨s, q, _, q0, q1, hs⟩ := spec_l20Key_ok xs p 0 k hx hl (by omega) (by omega)
    obtain ⟨v, r, r0, r1, hv⟩ := spec_l20Value_ok xs q 0 k hx hl (by omega) (by omega)
    have hw : wrap64 (((d + 1 : Nat) : Int) - 1) = (d : Int) := by rw [Th.wrap_small (by omega) (by omega)]; omega
    obtain ⟨B, q', g0, g1, h1, h2⟩ := spec_l20Pairs_l0 xs n hx hl d k (Th.putP S65.f0 S65.f1 S65.mk A s v).1 r (Th.putP_len _ _ _ _ _ _) (by omega) (by omega) (by omega)
    rw [spec_l20Pairs.l0, if_pos (by omega), hs, Option.bind_some]
    dsimp only
    rw [hv, Option.bind_some]
    dsimp only
    rw [spec_PairPut_eq _ _ _ k (by omega), Option.bind_some, hw, h2]
    exact ⟨B, q', by omega, by omega, h1, rfl⟩
theorem spec_l20Pairs_ok (xs : List Int) (p n : Int) (k : Nat) (hx : ∀ x ∈ xs, 0 ≤ x ∧ x ≤ 255) (hl : xs.length ≤ 4294967296) (hp : 0 ≤ p ∧ p ≤ 70000000) (hk : 6000 ≤ k) : ∃ A q, p ≤ q ∧ q ≤ p + 200 ∧ A.length ≤ 51 ∧ spec_l20Pairs.f k xs p n = some (A, q) := by
  obtain ⟨v, v0, v1, hv⟩ := spec_l20Rd_pick_ok xs p 9 k hx hl (by omega) (by omega) (by omega)
  obtain ⟨B, q, q0, q1, h1, h2⟩ := spec_l20Pairs_l0 xs n hx hl v.toNat k [] (p + 1) (by simp) (by omega) (by omega) (by omega)
  rw [show ((v.toNat : Nat) : Int) = v by omega] at h2
  unfold spec_l20Pairs.f
  rw [hv, Option.bind_some]
  dsimp only
  rw [h2]
  exact ⟨B, q, by omega, by omega, h1, rfl⟩
theorem spec_l20Pages_l0 (xs : List Int) (n : Int) (hx : ∀ x ∈ xs, 0 ≤ x ∧ x ≤ 255) (hl : xs.length ≤ 4294967296) : ∀ (d k : Nat) (A : List S53) (p : Int), Sm A → 0 ≤ p → p + 40 * d ≤ 50000000 → d + 8000 ≤ k → ∃ B q, p ≤ q ∧ q ≤ p + 40 * d + 5 ∧ B.length ≤ 70 ∧ (∀ p ∈ B, p.f0.length ≤ 100) ∧ spec_l20Pages.l0 k n A (d : Int) xs p = some (B, q)
  | _, 0, _, _, _, _, _, h => by omega
  | 0, k + 1, A, p, hA, h0, hp, hk => by
    obtain ⟨a1, a2⟩ := hA
    obtain ⟨b, q, q0, q1, hb⟩ := spec_l20Rd_odd_ok xs p n k hx hl (by omega) (by omega)
    obtain ⟨v, v0, v1, hv⟩ := spec_l20Rd_pick_ok xs q 3 k hx hl (by omega) (by omega) (by omega)
    have app : ∀ C : List S53, C.length ≤ 2 → (∀ p ∈ C, p.f0.length ≤ 100) → (A ++ C).length ≤ 70 ∧ ∀ p ∈ A ++ C, p.f0.length ≤ 100 := by
      intro C h1 h2
      refine ⟨by rw [List.length_append]; omega, fun p hp => ?_⟩
      rcases List.mem_append.1 hp with h | h
      · exact a2 p h
      · exact h2 p h
    rw [spec_l20Pages.l0, if_neg (by omega), hb, Option.bind_some]
    cases b with
    | false =>
      rw [if_neg (by simp)]
      exact ⟨A, q, by omega, by omega, by omega, a2, rfl⟩
    | true =>
      dsimp only
      rw [if_pos rfl, hv, Option.bind_some]
      dsimp only
      by_cases c0 : v = 0
      · have := app [⟨[]⟩] (by simp) (by simp)
        rw [if_pos c0, if_pos (by omega)]
        exact ⟨_, _, by omega, by omega, this.1, this.2, rfl⟩
      rw [if_neg c0]
      by_cases c1 : v = 1
      · have := app [(⟨(([(⟨(⟨#[122, 122, 122, 122]⟩ : ByteArray), 0⟩ : S65)] : List (S65)))⟩ : S53), (⟨(([(⟨(⟨#[122, 122, 122, 122]⟩ : ByteArray), 0⟩ : S65), (⟨(⟨#[122, 122, 122, 122]⟩ : ByteArray), 0⟩ : S65)] : List (S65)))⟩ : S53)] (by simp) (by simp)
        rw [if_pos c1, Option.bind_some, if_pos (by simp only [List.length_cons, List.length_nil]; omega)]
        exact ⟨_, _, by omega, by omega, this.1, this.2, rfl⟩
      rw [if_neg c1, if_pos (by omega)]
      refine ⟨_, _, by omega, by omega, (app [_] (by simp) ?_).1, (app [_] (by simp) ?_).2, rfl⟩ <;> simp
  | d + 1, k + 1, A, p, hA, h0, hp, hk => by
    have a1 := hA.1
    have hlen := Th.listPg_len S65.f0 S65.f1 S53.f0 A
    obtain ⟨s, q, q0, q1, hs⟩ := spec_l20Near_ok xs (Th.listPg S65.f0 S65.f1 S53.f0 A) p 0 k hx hl (by omega) (by omega) (by omega)
    obtain ⟨w, r, r0, r1, hv⟩ := spec_l20Value_ok xs q 0 k hx hl (by omega) (by omega)
    obtain ⟨u, u0, u1, hu⟩ := spec_l20Rd_pick_ok xs r 3 k hx hl (by omega) (by omega) (by omega)
    obtain ⟨R, hR, sR⟩ := spec_PagesPut_ok A s w k (by omega) (by omega)
    have hw : wrap64 (((d + 1 : Nat) : Int) - 1) = (d : Int) := by rw [Th.wrap_small (by omega) (by omega)]; omega
    rw [spec_l20Pages.l0, if_pos (by omega), spec_PagesList_eq A k (by omega) (by omega), Option.bind_some, hs, Option.bind_some]
    dsimp only
    rw [hv, Option.bind_some]
    dsimp only
    rw [hR, Option.bind_some, hu, Option.bind_some]
    dsimp only
    rw [hw]
    by_cases c : u = 0
    · obtain ⟨s2, q2, q20, q21, hs2⟩ := spec_l20Near_ok xs (Th.listPg S65.f0 S65.f1 S53.f0 A) (r + 1) 0 k hx hl (by omega) (by omega) (by omega)
      obtain ⟨R2, hR2, sR2⟩ := spec_PagesDrop_ok A s2 k (by omega) (by omega)
      obtain ⟨B, q', g0, g1, g2, g3, g4⟩ := spec_l20Pages_l0 xs n hx hl d k R2.1 q2 sR2 (by omega) (by omega) (by omega)
      rw [if_pos c, hs2, Option.bind_some]
      dsimp only
      rw [hR2, Option.bind_some, g4]
      exact ⟨B, q', by omega, by omega, g2, g3, rfl⟩
    · obtain ⟨B, q', g0, g1, g2, g3, g4⟩ := spec_l20Pages_l0 xs n hx hl d k R.1 (r + 1) sR (by omega) (by omega) (by omega)
      rw [if_neg c, g4]
      exact ⟨B, q', by omega, by omega, g2, g3, rfl⟩
theorem spec_l20Pages_ok (xs : List Int) (p n : Int) (k : Nat) (hx : ∀ x ∈ xs, 0 ≤ x ∧ x ≤ 255) (hl : xs.length ≤ 4294967296) (hp : 0 ≤ p ∧ p ≤ 10000000) (hk : 9000 ≤ k) : ∃ A q, p ≤ q ∧ q ≤ p + 1000 ∧ A.length ≤ 70 ∧ (∀ p ∈ A, p.f0.length ≤ 100) ∧ spec_l20Pages.f k xs p n = some (A, q) := by
  obtain ⟨A, q, q0, q1, hA, h4⟩ := spec_l20Pairs_ok xs p 0 k hx hl (by omega) (by omega)
  obtain ⟨v, v0, v1, hv⟩ := spec_l20Rd_pick_ok xs q 8 k hx hl (by omega) (by omega) (by omega)
  have sm : Sm (Th.ofPg S65.f0 S65.f1 S53.mk A) := by
    unfold Th.ofPg
    by_cases c : Th.pv S65.f0 S65.f1 A = true
    · have hP := (Th.pv_iff _ _ _).1 c
      have h48 := hP.1
      obtain ⟨g1, g2, g3⟩ := Th.of_ok S65.f0 S65.f1 S53.f0 S53.mk (fun _ => rfl) A hP
      rw [if_pos c]
      exact ⟨by omega, fun p hp => by have := (g1.1 p hp).1; omega⟩
    · rw [if_neg c]; exact ⟨by simp, by simp⟩
  obtain ⟨B, q', g0, g1, g2, g3, g4⟩ := spec_l20Pages_l0 xs n hx hl v.toNat k _ (q + 1) sm (by omega) (by omega) (by omega)
  rw [show ((v.toNat : Nat) : Int) = v by omega] at g4
  unfold spec_l20Pages.f
  rw [h4, Option.bind_some]
  dsimp only
  rw [spec_PagesOf_eq A k (by omega), Option.bind_some, hv, Option.bind_some]
  dsimp only
  rw [g4]
  exact ⟨B, q', by omega, by omega, g2, g3, rfl⟩
theorem spec_DrawPagesPut_ok (l : List Int) (k : Nat) (hx : ∀ x ∈ l, (Lit.int .u8 x).wf = true) (hl : l.length ≤ 4294967296) (hk : 9000 ≤ k) : ∃ A s v, A.length ≤ 70 ∧ (∀ p ∈ A, p.f0.length ≤ 100) ∧ spec_DrawPagesPut.f k l = some (A, s, v) := by
  obtain ⟨xs, h1, h2, h3⟩ := spec_l20Open_ok l hx hl
  obtain ⟨A, q, _, _, hA, hB, h4⟩ := spec_l20Pages_ok xs 0 14 k h1 h2 (by omega) hk
  have hlen := Th.listPg_len S65.f0 S65.f1 S53.f0 A
  obtain ⟨s, q', _, _, h5⟩ := spec_l20Near_ok xs (Th.listPg S65.f0 S65.f1 S53.f0 A) q 14 k h1 h2 (by omega) (by omega) (by omega)
  obtain ⟨v, r, _, _, h6⟩ := spec_l20Value_ok xs q' 14 k h1 h2 (by omega) (by omega)
  unfold spec_DrawPagesPut.f
  rw [h3, Option.bind_some]
  dsimp only
  rw [h4, Option.bind_some]
  dsimp only
  rw [spec_PagesList_eq A k (by omega) (by omega), Option.bind_some, h5, Option.bind_some]
  dsimp only
  rw [h6]
  exact ⟨A, s, v, hA, hB, rfl⟩
theorem impl_lettersOnly_eq : ∀ (l : List UInt8) (k : Nat), l.length < k → impl_lettersOnly.f k (Th.mkS l) = some (l.all Th.letter)
  | _, 0, h => by omega
  | [], k + 1, _ => by
    rw [impl_lettersOnly.f, if_pos (Th.toList_mkS [])]
    rfl
  | c :: l, k + 1, h => by
    have ih := impl_lettersOnly_eq l k (by simpa using h)
    have hs : (0 : Int) < ((Th.mkS (c :: l)).size : Int) := by rw [Th.size_mkS, List.length_cons]; omega
    have hx : (Th.mkS (c :: l)).extract 1 (Th.mkS (c :: l)).size = Th.mkS l := by rw [Th.extract_mkS, Th.size_mkS, List.take_length]; rfl
    have hs1 : (1 : Int) ≤ ((Th.mkS (c :: l)).size : Int) := by omega
    rw [impl_lettersOnly.f, if_neg (by rw [Th.toList_mkS]; simp), if_pos hs, if_pos hs1, hx, ih, Th.bt_zero]
    simp only [Option.bind_some, List.all_cons, Th.letter]
    by_cases h1 : (c.toNat : Int) ≥ 97
    · rw [if_pos h1, decide_eq_true (show 97 ≤ (c.toNat : Int) from h1)]
      by_cases h2 : (c.toNat : Int) ≤ 122
      · rw [if_pos h2, decide_eq_true h2]; rfl
      · rw [if_neg h2, decide_eq_false h2]; rfl
    · rw [if_neg h1, decide_eq_false (show ¬ 97 ≤ (c.toNat : Int) from h1)]; rfl
theorem impl_KeyValid_eq (s : ByteArray) (k : Nat) (hk : 1000 ≤ k) : impl_KeyValid.f k s = some (Th.kv s) := by
  obtain ⟨l, rfl⟩ := Th.mkS_surj s
  unfold impl_KeyValid.f Th.kv Th.kvL
  rw [Th.toList_mkS, Th.size_mkS]
  by_cases h1 : (l.length : Int) < 1
  · rw [if_pos h1, decide_eq_false (show ¬ 1 ≤ l.length by omega)]; rfl
  · rw [if_neg h1, decide_eq_true (show 1 ≤ l.length by omega)]
    by_cases h2 : (l.length : Int) > 4
    · rw [if_pos h2, decide_eq_false (show ¬ l.length ≤ 4 by omega)]; rfl
    · rw [if_neg h2, decide_eq_true (show l.length ≤ 4 by omega), impl_lettersOnly_eq l k (by omega)]; rfl
theorem impl_valueValid_eq (v : Int) : impl_valueValid.f v = some (decide (0 ≤ v ∧ v ≤ 999)) := by
  unfold impl_valueValid.f
  by_cases h : v ≥ 0
  · rw [if_pos h]; congr 1; simp [show 0 ≤ v from h]
  · rw [if_neg h]; congr 1; simp [show ¬ 0 ≤ v from h]
theorem impl_pairPlace_neg (a b : ByteArray) : impl_pairPlace.cs a b < 0 ↔ Th.lt a b := by
  unfold impl_pairPlace.cs
  by_cases h : Op.bytesLess a.toList b.toList = true
  · rw [if_pos h]; exact ⟨fun _ => h, fun _ => by omega⟩
  · rw [if_neg h]
    refine ⟨fun h' => ?_, fun h' => absurd h' h⟩
    by_cases e : a.toList = b.toList
    · rw [if_pos e] at h'; omega
    · rw [if_neg e] at h'; omega
theorem impl_pairPlace_zero (a b : ByteArray) : impl_pairPlace.cs a b = 0 ↔ a = b := by
  unfold impl_pairPlace.cs
  by_cases h : Op.bytesLess a.toList b.toList = true
  · rw [if_pos h]
    refine ⟨fun h' => by omega, fun h' => ?_⟩
    subst h'
    rw [Th.bl_irrefl] at h; cases h
  · rw [if_neg h]
    by_cases e : a.toList = b.toList
    · rw [if_pos e]; exact ⟨fun _ => Th.str_ext e, fun _ => rfl⟩
    · rw [if_neg e]; exact ⟨fun h' => by omega, fun h' => absurd (congrArg ByteArray.toList h') e⟩
theorem impl_pairPlace_bs (l : List S65) (s : ByteArray) (ha : Th.Asc S65.f0 l) : ∀ (f lo hi : Nat), hi - lo < f → lo ≤ hi → hi ≤ l.length → (∀ j, j < lo → Th.lt (l.getD j z65).f0 s) → (∀ j, hi ≤ j → j < l.length → ¬ Th.lt (l.getD j z65).f0 s) →
    impl_pairPlace.bs l s f lo hi = some (((Th.place S65.f0 l s : Nat) : Int), Th.foundAt S65.f0 l s)
  | 0, _, _, h, _, _, _, _ => by omega
  | f + 1, lo, hi, hf, h1, h2, hb, hr => by
    rw [impl_pairPlace.bs]
    by_cases c : lo < hi
    · rw [if_pos c, show rd_T65 l (((lo + hi) / 2 : Nat) : Int) = l.getD ((lo + hi) / 2) z65 from rfl]
      by_cases e : Th.lt (l.getD ((lo + hi) / 2) z65).f0 s
      · rw [if_pos ((impl_pairPlace_neg _ _).2 e)]
        refine impl_pairPlace_bs l s ha f _ hi (by omega) (by omega) h2 (fun j hj => ?_) hr
        rcases Nat.lt_or_ge j ((lo + hi) / 2) with h | h
        · exact Th.lt_trans (Th.asc_lt _ z65 l ha j _ h (by omega)) e
        · rw [show j = (lo + hi) / 2 by omega]; exact e
      · rw [if_neg (fun h => e ((impl_pairPlace_neg _ _).1 h))]
        refine impl_pairPlace_bs l s ha f lo _ (by omega) (by omega) (by omega) hb (fun j hj hj2 h => ?_)
        rcases Nat.eq_or_lt_of_le hj with h' | h'
        · rw [← h'] at h; exact e h
        · exact e (Th.lt_trans (Th.asc_lt _ z65 l ha _ j h' hj2) h)
    · have hlh : hi = lo := by omega
      subst hlh
      have hp : Th.place S65.f0 l s = hi := Th.place_unique _ z65 l s ha hi h2 hb (fun h => hr hi (Nat.le_refl _) h)
      rw [if_neg c, Th.foundAt_getD _ z65, hp]
      by_cases d : hi < l.length
      · rw [if_pos d, decide_eq_true d, Bool.true_and, show rd_T65 l (hi : Int) = l.getD hi z65 from rfl]
        congr 2
        apply Th.bool_eq
        rw [decide_eq_true_eq, decide_eq_true_eq, impl_pairPlace_zero]
      · rw [if_neg d, decide_eq_false d, Bool.false_and]
theorem impl_pairPlace_eq (l : List S65) (s : ByteArray) (h : Th.PV S65.f0 S65.f1 l) : impl_pairPlace.f l s = some (((Th.place S65.f0 l s : Nat) : Int), Th.foundAt S65.f0 l s) := by
  have hl := h.1
  unfold impl_pairPlace.f
  rw [if_pos (by omega)]
  exact impl_pairPlace_bs l s h.2.2 _ 0 _ (by omega) (by omega) (by omega) (fun j hj => by omega) (fun j h1 h2 => by omega)
theorem impl_copyOf_Pair_eq (l : List S65) (hl : l.length ≤ 4294967296) : impl_copyOf_Pair.f l = some l := by
  unfold impl_copyOf_Pair.f
  rw [if_pos (by omega)]
theorem impl_PairsValid_l0 (l : List S65) (hl : l.length ≤ 48) : ∀ (d i k : Nat), i + d = l.length → 2 * d + 1001 ≤ k → ∃ b, impl_PairsValid.l0 k l l (l.length : Int) (i : Int) = some b ∧ (b = true ↔ ∀ j, i ≤ j → j < l.length → Th.stepOk S65.f0 S65.f1 z65 l j)
  | _, _, 0, _, h => by omega
  | 0, i, k + 1, h, _ => by
    rw [impl_PairsValid.l0, if_neg (by omega)]
    exact ⟨true, rfl, fun _ j h1 h2 => by omega, fun _ => rfl⟩
  | d + 1, i, 1, h, hk => by omega
  | d + 1, i, k + 2, h, hk => by
    have hi : i < l.length := by omega
    obtain ⟨b, hb, hb2⟩ := impl_PairsValid_l0 l hl d (i + 1) k (by omega) (by omega)
    have hw : wrap64 ((i : Int) + 1) = ((i + 1 : Nat) : Int) := by rw [Th.wrap_small (by omega) (by omega)]; omega
    have no : ¬ Th.stepOk S65.f0 S65.f1 z65 l i → ∃ b, some false = some b ∧ (b = true ↔ ∀ j, i ≤ j → j < l.length → Th.stepOk S65.f0 S65.f1 z65 l j) :=
      fun hn => ⟨false, rfl, fun h => (by cases h), fun h => absurd (h i (Nat.le_refl _) hi) hn⟩
    have go : Th.stepOk S65.f0 S65.f1 z65 l i → ∃ b', some b = some b' ∧ (b' = true ↔ ∀ j, i ≤ j → j < l.length → Th.stepOk S65.f0 S65.f1 z65 l j) :=
      fun hn => ⟨b, rfl, hb2.trans (Th.all_from hi hn)⟩
    rw [impl_PairsValid.l0, if_pos (by omega), if_pos (by omega), if_pos (by omega), show rd_T65 l (i : Int) = l.getD i z65 from rfl, impl_KeyValid_eq _ (k + 1) (by omega), Option.bind_some]
    by_cases h1 : Th.kv (l.getD i z65).f0 = true
    · rw [if_pos h1, impl_valueValid_eq, Option.bind_some, impl_PairsValid.j1]
      by_cases h2 : 0 ≤ (l.getD i z65).f1 ∧ (l.getD i z65).f1 ≤ 999
      · rw [decide_eq_true h2, if_neg (by simp)]
        by_cases h0 : 0 < i
        · have hp : wrap64 ((i : Int) - 1) = ((i - 1 : Nat) : Int) := by rw [Th.wrap_small (by omega) (by omega)]; omega
          rw [if_pos (by omega), hp, if_pos (by omega), if_pos (by omega), show rd_T65 l ((i - 1 : Nat) : Int) = l.getD (i - 1) z65 from rfl, hw, hb]
          by_cases c1 : Th.lt (l.getD (i - 1) z65).f0 (l.getD i z65).f0
          · rw [if_pos c1]; exact go ⟨⟨h1, h2⟩, fun _ => c1⟩
          · rw [if_neg c1]; exact no (fun hs => c1 (hs.2 h0))
        · rw [if_neg (by omega), hw, hb]
          exact go ⟨⟨h1, h2⟩, fun h => absurd h h0⟩
      · rw [decide_eq_false h2, if_pos (by rfl)]
        exact no (fun hs => h2 hs.1.2)
    · rw [if_neg h1, impl_PairsValid.j1, if_pos rfl]
      exact no (fun hs => h1 hs.1.1)
theorem impl_PairsValid_eq (l : List S65) (k : Nat) (hk : 2000 ≤ k) : impl_PairsValid.f k l = some (Th.pv S65.f0 S65.f1 l) := by
  unfold impl_PairsValid.f
  by_cases h : (l.length : Int) > 48
  · rw [if_pos h]
    congr 1
    symm
    rw [Bool.eq_false_iff]
    intro hp
    have := ((Th.pv_iff _ _ l).1 hp).1
    omega
  · rw [if_neg h]
    obtain ⟨b, hb, hb2⟩ := impl_PairsValid_l0 l (by omega) l.length 0 k (by omega) (by omega)
    rw [show ((0 : Nat) : Int) = 0 from rfl] at hb
    rw [hb]
    congr 1
    apply Th.bool_eq
    rw [hb2, Th.pv_iff, Th.pv_steps _ _ z65]
    constructor
    · exact fun h' => ⟨by omega, fun j hj => h' j (by omega) hj⟩
    · exact fun h' j _ hj => h'.2 j hj
theorem impl_replaced_Pair_eq (l l3 : List S65) (a b : Nat) (h : a + b ≤ l.length) (hl : l.length + l3.length ≤ 4294967296) : impl_replaced_Pair.f l (a : Int) (b : Int) l3 = some (l.take a ++ l3 ++ l.drop (a + b)) := by
  unfold impl_replaced_Pair.f
  rw [if_pos ⟨by omega, by omega, by omega, by omega⟩, Int.toNat_natCast, show ((a : Int) + (b : Int)).toNat = a + b by omega]
theorem impl_PairPut_eq (l : List S65) (s : ByteArray) (v : Int) (k : Nat) (hk : 3000 ≤ k) : impl_PairPut.f k l s v = some (Th.putP S65.f0 S65.f1 S65.mk l s v) := by
  obtain ⟨k, rfl⟩ : ∃ m, k = m + 2 := ⟨k - 2, by omega⟩
  have no : ¬ (Th.pv S65.f0 S65.f1 l = true ∧ Th.kv s = true ∧ (0 ≤ v ∧ v ≤ 999)) → Th.putP S65.f0 S65.f1 S65.mk l s v = ([], false) := by
    intro h
    unfold Th.putP
    rw [if_neg h]
  unfold impl_PairPut.f
  rw [impl_PairsValid_eq l (k + 2) (by omega), Option.bind_some]
  by_cases h : Th.pv S65.f0 S65.f1 l = true
  · rw [if_pos h, impl_KeyValid_eq s (k + 2) (by omega), Option.bind_some]
    by_cases hk2 : Th.kv s = true
    · rw [if_pos hk2, impl_valueValid_eq, Option.bind_some, impl_PairPut.j0]
      by_cases hv : 0 ≤ v ∧ v ≤ 999
      · have hP := (Th.pv_iff _ _ l).1 h
        have hl := hP.1
        have hp := Th.place_le S65.f0 l s
        rw [decide_eq_true hv, if_neg (by simp), impl_pairPlace_eq l s hP, Option.bind_some]
        unfold Th.putP
        rw [if_pos (show Th.pv S65.f0 S65.f1 l = true ∧ Th.kv s = true ∧ (0 ≤ v ∧ v ≤ 999) from ⟨h, hk2, hv⟩)]
        have hf := Th.foundAt_getD S65.f0 z65 l s
        cases c : Th.foundAt S65.f0 l s with
        | false =>
          simp only [Bool.false_eq_true, if_false]
          by_cases h48 : (l.length : Int) ≥ 48
          · rw [if_pos h48, impl_copyOf_Pair_eq l (by omega), if_pos (by omega)]; rfl
          · have := impl_replaced_Pair_eq l [(⟨s, v⟩ : S65)] (Th.place S65.f0 l s) 0 (by omega) (by simp only [List.length_cons, List.length_nil]; omega)
            rw [show ((0 : Nat) : Int) = 0 from rfl] at this
            rw [if_neg h48, if_neg (by omega), this, Option.bind_some, List.append_assoc]
            rfl
        | true =>
          rw [c] at hf
          have hlt : Th.place S65.f0 l s < l.length := by
            have := hf.symm
            simp only [Bool.and_eq_true, decide_eq_true_eq] at this
            exact this.1
          have := impl_replaced_Pair_eq l [(⟨s, v⟩ : S65)] (Th.place S65.f0 l s) 1 (by omega) (by simp only [List.length_cons, List.length_nil]; omega)
          rw [show ((1 : Nat) : Int) = 1 from rfl] at this
          simp only [if_true]
          rw [this, Option.bind_some, List.append_assoc]
          rfl
      · rw [decide_eq_false hv, if_pos (by rfl), no (fun h => hv h.2.2)]
    · rw [if_neg hk2, impl_PairPut.j0, if_pos rfl, no (fun h => hk2 h.2.1)]
  · rw [if_neg h, impl_PairPut.j0, if_pos rfl, no (fun h' => h h'.1)]
theorem impl_allPairs_l0 (l : List S53) (hl : l.length ≤ 4294967296) (hc : (Th.cat S53.f0 l).length ≤ 4294967296) : ∀ (d i k : Nat), i + d = l.length → d < k → impl_allPairs.l0 k (Th.cat S53.f0 (l.take i)) l (l.length : Int) (i : Int) = some (Th.cat S53.f0 l)
  | _, _, 0, _, h => by omega
  | 0, i, k + 1, h, _ => by rw [impl_allPairs.l0, if_neg (by omega), List.take_of_length_le (by omega)]
  | d + 1, i, k + 1, h, hk => by
    have hi : i < l.length := by omega
    have hw : wrap64 ((i : Int) + 1) = ((i + 1 : Nat) : Int) := by rw [Th.wrap_small (by omega) (by omega)]; omega
    have hm := Th.cat_mem S53.f0 l _ (Th.getD_mem z53 l i hi)
    have ht := Th.cat_len_take S53.f0 l i
    have ih := impl_allPairs_l0 l hl hc d (i + 1) k (by omega) (by omega)
    rw [Th.cat_take S53.f0 z53 l i hi] at ih
    rw [impl_allPairs.l0, if_pos (by omega), if_pos (by omega), if_pos (by omega), show rd_T53 l (i : Int) = l.getD i z53 from rfl, if_pos (by omega), hw]
    exact ih
theorem impl_allPairs_eq (l : List S53) (k : Nat) (hl : l.length ≤ 4294967296) (hc : (Th.cat S53.f0 l).length ≤ 4294967296) (hk : l.length + 2 ≤ k) : impl_allPairs.f k l = some (Th.cat S53.f0 l) := by
  unfold impl_allPairs.f
  exact impl_allPairs_l0 l hl hc l.length 0 k (by omega) (by omega)
theorem impl_PagesValid_l0 (l : List S53) (hl : l.length ≤ 48) : ∀ (d i k : Nat), i + d = l.length → d + 3000 ≤ k → (∀ p ∈ l.take i, Th.okPg S53.f0 l.length p) → impl_PagesValid.l0 k l l (l.length : Int) (i : Int) = some (Th.pgv S65.f0 S65.f1 S53.f0 l)
  | _, _, 0, _, h, _ => by omega
  | 0, i, k + 1, h, hk, ho => by
    rw [List.take_of_length_le (by omega)] at ho
    have hc := Th.cat_le S53.f0 l (fun p hp => (ho p hp).1)
    rw [impl_PagesValid.l0, if_neg (by omega), impl_allPairs_eq l k (by omega) (by omega) (by omega), Option.bind_some, impl_PairsValid_eq _ k (by omega), Option.bind_some]
    congr 1
    apply Th.bool_eq
    rw [Th.pv_iff, Th.pgv_iff]
    exact ⟨fun h => ⟨ho, h⟩, fun h => h.2⟩
  | d + 1, i, k + 1, h, hk, ho => by
    have hi : i < l.length := by omega
    have hm := Th.getD_mem z53 l i hi
    have hw : wrap64 ((i : Int) + 1) = ((i + 1 : Nat) : Int) := by rw [Th.wrap_small (by omega) (by omega)]; omega
    have no : ∀ P : Prop, (Th.PgV S65.f0 S65.f1 S53.f0 l → P) → ¬ P → some false = some (Th.pgv S65.f0 S65.f1 S53.f0 l) := fun P h1 h2 => by
      rw [Th.pgv_no _ _ _ l (fun h => h2 (h1 h))]
    have hs : Th.okPg S53.f0 l.length (l.getD i z53) → impl_PagesValid.l0 k l l (l.length : Int) ((i + 1 : Nat) : Int) = some (Th.pgv S65.f0 S65.f1 S53.f0 l) := by
      intro h2
      refine impl_PagesValid_l0 l hl d (i + 1) k (by omega) (by omega) (fun p hp => ?_)
      rw [List.take_succ_eq_append_getElem hi, ← Th.getD_at z53 l i hi] at hp
      rcases List.mem_append.1 hp with hp | hp
      · exact ho p hp
      · rw [List.mem_singleton.1 hp]; exact h2
    rw [impl_PagesValid.l0, if_pos (by omega), if_pos (by omega), if_pos (by omega), hw, show rd_T53 l (i : Int) = l.getD i z53 from rfl]
    by_cases c0 : (l.length : Int) = 1
    · rw [if_pos c0]
      by_cases c1 : ((l.getD i z53).f0.length : Int) < 1
      · rw [if_pos c1]
        exact no _ (fun h => (h.1 _ hm).2.2) (by omega)
      rw [if_neg c1]
      by_cases c2 : ((l.getD i z53).f0.length : Int) > 4
      · rw [if_pos c2]
        exact no _ (fun h => (h.1 _ hm).1) (by omega)
      rw [if_neg c2]
      exact hs ⟨by omega, fun _ => by omega, by omega⟩
    rw [if_neg c0]
    by_cases c1 : ((l.getD i z53).f0.length : Int) < 2
    · rw [if_pos c1]
      exact no _ (fun h => (h.1 _ hm).2.1) (fun h => by have := h (by omega); omega)
    rw [if_neg c1]
    by_cases c2 : ((l.getD i z53).f0.length : Int) > 4
    · rw [if_pos c2]
      exact no _ (fun h => (h.1 _ hm).1) (by omega)
    rw [if_neg c2]
    exact hs ⟨by omega, fun _ => by omega, by omega⟩
theorem impl_PagesValid_eq (l : List S53) (k : Nat) (hk : 4000 ≤ k) : impl_PagesValid.f k l = some (Th.pgv S65.f0 S65.f1 S53.f0 l) := by
  unfold impl_PagesValid.f
  by_cases h : (l.length : Int) > 48
  · rw [if_pos h, Th.pgv_no _ _ _ l (fun h' => by have := Th.pgv_len _ _ _ l h'; omega)]
  · rw [if_neg h]
    exact impl_PagesValid_l0 l (by omega) l.length 0 k (by omega) (by omega) (by simp)
theorem impl_copyPages_l0 (l : List S53) (hl : l.length ≤ 1048576) (hc : (Th.cat S53.f0 l).length ≤ 1048576) : ∀ (d i k : Nat), i + d = l.length → d < k → impl_copyPages.l0 k (l.take i) l (l.length : Int) (i : Int) = some l
  | _, _, 0, _, h => by omega
  | 0, i, k + 1, h, _ => by rw [impl_copyPages.l0, if_neg (by omega), List.take_of_length_le (by omega)]
  | d + 1, i, k + 1, h, hk => by
    have hi : i < l.length := by omega
    have hw : wrap64 ((i : Int) + 1) = ((i + 1 : Nat) : Int) := by rw [Th.wrap_small (by omega) (by omega)]; omega
    have hm := Th.cat_mem S53.f0 l _ (Th.getD_mem z53 l i hi)
    have ih := impl_copyPages_l0 l hl hc d (i + 1) k (by omega) (by omega)
    rw [List.take_succ_eq_append_getElem hi, ← Th.getD_at z53 l i hi] at ih
    rw [impl_copyPages.l0, if_pos (by omega), if_pos (by omega), if_pos (by omega), show rd_T53 l (i : Int) = l.getD i z53 from rfl, impl_copyOf_Pair_eq _ (by omega), Option.bind_some, if_pos (by rw [List.length_take]; omega), hw]
    exact ih
theorem impl_copyPages_eq (l : List S53) (hl : l.length ≤ 1048576) (hc : (Th.cat S53.f0 l).length ≤ 1048576) (k : Nat) (hk : l.length + 2 ≤ k) : impl_copyPages.f k l = some l := by
  unfold impl_copyPages.f
  exact impl_copyPages_l0 l hl hc l.length 0 k (by omega) (by omega)
theorem impl_pageOf_l0 (l : List S53) (s : ByteArray) (h : Th.PgV S65.f0 S65.f1 S53.f0 l) (hs : Th.kv s = true) : ∀ (d i k a : Nat), i + d = l.length → d < k → impl_pageOf.l0 k s (a : Int) l (l.length : Int) (i : Int) = some ((Th.lastPg S65.f0 S53.f0 z65 s (l.drop i) i a : Nat) : Int)
  | _, _, 0, _, _, h => by omega
  | 0, i, k + 1, a, hd, _ => by
    rw [impl_pageOf.l0, if_neg (by omega), List.drop_of_length_le (by omega)]
    rfl
  | d + 1, i, k + 1, a, hd, hk => by
    have hl := Th.pgv_len _ _ _ l h
    have hi : i < l.length := by omega
    have hw : wrap64 ((i : Int) + 1) = ((i + 1 : Nat) : Int) := by rw [Th.wrap_small (by omega) (by omega)]; omega
    have hn := page_ne l h i hi
    have ih := impl_pageOf_l0 l s h hs d (i + 1) k
    rw [impl_pageOf.l0, if_pos (by omega), if_pos (by omega), if_pos (by omega), show rd_T53 l (i : Int) = l.getD i z53 from rfl, if_pos (by omega), show rd_T65 (l.getD i z53).f0 0 = (l.getD i z53).f0.getD 0 z65 from rfl, hw, List.drop_eq_getElem_cons hi, Th.lastPg, ← Th.getD_at z53 l i hi]
    rcases le_cases ((l.getD i z53).f0.getD 0 z65).f0 s hs (page_key l h i hi) with ⟨c1, c2, c3⟩ | ⟨c1, c2⟩
    · rw [if_neg c2, if_neg c3, if_pos c1, ih a (by omega) (by omega)]
    · rw [if_neg c1]
      rcases c2 with c2 | c2
      · rw [if_pos c2, ih i (by omega) (by omega)]
      · rw [if_pos c2, ih i (by omega) (by omega)]
        by_cases c3 : Op.bytesLess ((l.getD i z53).f0.getD 0 z65).f0.toList s.toList = true
        · rw [if_pos c3]
        · rw [if_neg c3]
theorem impl_pageOf_eq (l : List S53) (s : ByteArray) (k : Nat) (h : Th.PgV S65.f0 S65.f1 S53.f0 l) (hs : Th.kv s = true) (hk : 100 ≤ k) : impl_pageOf.f k l s = some ((Th.lastPg S65.f0 S53.f0 z65 s l 0 0 : Nat) : Int) := by
  have hl := Th.pgv_len _ _ _ l h
  have := impl_pageOf_l0 l s h hs l.length 0 k 0 (by omega) (by omega)
  rw [List.drop_zero, show ((0 : Nat) : Int) = 0 from rfl] at this
  unfold impl_pageOf.f
  exact this
theorem impl_replaced_Page_eq (l l3 : List S53) (a b : Nat) (h : a + b ≤ l.length) (hl : l.length + l3.length ≤ 4294967296) : impl_replaced_Page.f l (a : Int) (b : Int) l3 = some (l.take a ++ l3 ++ l.drop (a + b)) := by
  unfold impl_replaced_Page.f
  rw [if_pos ⟨by omega, by omega, by omega, by omega⟩, Int.toNat_natCast, show ((a : Int) + (b : Int)).toNat = a + b by omega]
theorem impl_PagesPut_eq (l : List S53) (s : ByteArray) (v : Int) (k : Nat) (hk : 6000 ≤ k) : impl_PagesPut.f k l s v = some (Th.putPg S65.f0 S65.f1 S53.f0 S65.mk S53.mk z65 z53 l s v) := by
  unfold impl_PagesPut.f Th.putPg
  rw [impl_PagesValid_eq l k (by omega), Option.bind_some]
  by_cases h : Th.pgv S65.f0 S65.f1 S53.f0 l = true
  · rw [if_pos h, impl_KeyValid_eq s _ (by omega), Option.bind_some]
    by_cases hs : Th.kv s = true
    · rw [if_pos hs, impl_valueValid_eq, Option.bind_some]
      by_cases hv : 0 ≤ v ∧ v ≤ 999
      · have hP := (Th.pgv_iff _ _ _ _).1 h
        obtain ⟨g1, g2, g3⟩ := sm_of l hP
        rw [decide_eq_true hv, if_neg (by simp), if_pos (show Th.pgv S65.f0 S65.f1 S53.f0 l = true ∧ Th.kv s = true ∧ (0 ≤ v ∧ v ≤ 999) from ⟨h, hs, hv⟩)]
        by_cases hne : l = []
        · subst hne
          rw [if_pos (show ([] : List S53).length = 0 from rfl), if_pos rfl]
        · have hn : ¬ l.length = 0 := fun e => hne (List.eq_nil_of_length_eq_zero e)
          have q1 := Th.lastPg_in S65.f0 S53.f0 z65 s l hne
          have hf := Th.found_page S65.f0 S65.f1 S53.f0 z65 z53 l s hP hs hne
          have room := Th.putP_room S65.f0 S65.f1 S65.mk (Th.cat S53.f0 l) s v hP.2 hs hv
          have hpg := Th.page_asc S65.f0 S65.f1 S53.f0 z53 l hP.2 _ q1
          rw [if_neg hn, if_neg hne, impl_copyPages_eq l (by omega) (by omega) k (by omega), Option.bind_some, impl_pageOf_eq l s k hP hs (by omega), Option.bind_some]
          generalize Th.lastPg S65.f0 S53.f0 z65 s l 0 0 = q at q1 hf hpg ⊢
          rw [if_pos ⟨by omega, by omega, rfl⟩, show rd_T53 l (q : Int) = l.getD q z53 from rfl, impl_pairPlace_eq _ _ hpg, Option.bind_some]
          dsimp only
          have fu : (if Th.foundAt S65.f0 (l.getD q z53).f0 s = true then some false else (impl_allPairs.f k l).bind fun t6 => some (decide (48 ≤ (t6.length : Int)))) = some (!(Th.putP S65.f0 S65.f1 S65.mk (Th.cat S53.f0 l) s v).2) := by
            rw [room, ← hf]
            cases Th.foundAt S65.f0 (l.getD q z53).f0 s with
            | true => rfl
            | false =>
              rw [if_neg (by simp), impl_allPairs_eq l k (by omega) (by omega) (by omega), Option.bind_some, Bool.false_or, ← decide_not]
              congr 1
              exact decide_eq_decide.2 (by omega)
          rw [fu, Option.bind_some]
          cases (Th.putP S65.f0 S65.f1 S65.mk (Th.cat S53.f0 l) s v).2 with
          | false => rfl
          | true =>
            rw [if_neg (by simp), if_pos rfl, impl_PairPut_eq _ _ _ k (by omega), Option.bind_some]
            have hq := Th.putP_len S65.f0 S65.f1 S65.mk (l.getD q z53).f0 s v
            generalize (Th.putP S65.f0 S65.f1 S65.mk (l.getD q z53).f0 s v).1 = x at hq ⊢
            unfold impl_PagesPut.fin Th.splitPg
            by_cases c : x.length ≤ 4
            · rw [if_pos c, if_pos c, Int.toNat_natCast]
            · have := impl_replaced_Page_eq l [(⟨x.take 2⟩ : S53), ⟨x.drop 2⟩] q 1 (by omega) (by simp only [List.length_cons, List.length_nil]; omega)
              rw [show ((1 : Nat) : Int) = 1 from rfl] at this
              rw [if_neg c, if_neg c, impl_copyOf_Pair_eq _ (by rw [List.length_take]; omega), Option.bind_some, impl_copyOf_Pair_eq _ (by rw [List.length_drop]; omega), Option.bind_some, this]
              rfl
      · rw [decide_eq_false hv, if_pos rfl, if_neg (fun h' => hv h'.2.2)]
    · rw [if_neg hs, Option.bind_some, if_pos rfl, if_neg (fun h' => hs h'.2.1)]
  · rw [if_neg h, Option.bind_some, if_neg (by simp), Option.bind_some, if_pos rfl, if_neg (fun h' => h h'.1)]
theorem laws_samePairs_l0 (A : List S65) (hl : A.length ≤ 1000) : ∀ (d i k : Nat), i + d = A.length → d < k → laws_samePairs.l0 k A A (i : Int) = some true
  | _, _, 0, _, h => by omega
  | 0, i, k + 1, h, _ => by rw [laws_samePairs.l0, if_neg (by omega)]
  | d + 1, i, k + 1, h, hk => by
    have ih := laws_samePairs_l0 A hl d (i + 1) k (by omega) (by omega)
    have hw : wrap64 ((i : Int) + 1) = ((i + 1 : Nat) : Int) := by rw [Th.wrap_small (by omega) (by omega)]; omega
    rw [laws_samePairs.l0, if_pos (by omega), if_pos (by omega), if_pos (by omega), if_neg (by simp), hw, ih]
theorem laws_samePairs_eq (A : List S65) (hl : A.length ≤ 1000) (k : Nat) (hk : 2000 ≤ k) : laws_samePairs.f k A A = some true := by
  unfold laws_samePairs.f
  rw [if_pos rfl]
  exact laws_samePairs_l0 A hl A.length 0 k (by omega) (by omega)
theorem laws_samePairs_nil (A : List S65) (k : Nat) (hk : 200 ≤ k) : ∃ b, laws_samePairs.f k [] A = some b := by
  obtain ⟨k, rfl⟩ : ∃ m, k = m + 1 := ⟨k - 1, by omega⟩
  unfold laws_samePairs.f
  by_cases c : (([] : List S65).length : Int) = (A.length : Int)
  · rw [if_pos c, laws_samePairs.l0, if_neg (by simp)]; exact ⟨_, rfl⟩
  · rw [if_neg c]; exact ⟨_, rfl⟩
theorem laws_samePages_l0 (A : List S53) (hl : A.length ≤ 1000) (hp : ∀ p ∈ A, p.f0.length ≤ 1000) : ∀ (d i k : Nat), i + d = A.length → d + 2001 ≤ k → laws_samePages.l0 k A A (i : Int) = some true
  | _, _, 0, _, h => by omega
  | 0, i, k + 1, h, hk => by rw [laws_samePages.l0, if_neg (by omega)]
  | d + 1, i, k + 1, h, hk => by
    have hm := hp _ (Th.getD_mem z53 A i (by omega))
    have ih := laws_samePages_l0 A hl hp d (i + 1) k (by omega) (by omega)
    have hw : wrap64 ((i : Int) + 1) = ((i + 1 : Nat) : Int) := by rw [Th.wrap_small (by omega) (by omega)]; omega
    rw [laws_samePages.l0, if_pos (by omega), if_pos (by omega), if_pos (by omega), show rd_T53 A (i : Int) = A.getD i z53 from rfl, laws_samePairs_eq _ (by omega) k (by omega), Option.bind_some, if_pos rfl, hw, ih]
theorem laws_samePages_eqp (A : List S53) (hl : A.length ≤ 1000) (hp : ∀ p ∈ A, p.f0.length ≤ 1000) (k : Nat) (hk : 4000 ≤ k) : laws_samePages.f k A A = some true := by
  unfold laws_samePages.f
  rw [if_pos rfl]
  exact laws_samePages_l0 A hl hp A.length 0 k (by omega) (by omega)
theorem laws_samePages_eq (A : List S53) (hl : A.length ≤ 1000) (hc : (Th.cat S53.f0 A).length ≤ 1000) (k : Nat) (hk : 4000 ≤ k) : laws_samePages.f k A A = some true :=
  laws_samePages_eqp A hl (fun p hp => by have := Th.cat_mem S53.f0 A p hp; omega) k hk
theorem impl_keysFrom_eq (d k : Nat) (h1 : 1 ≤ d) (hd : d ≤ 5) (hk : 6 ≤ k) : impl_keysFrom.f k (d : Int) = some (Th.wt d) := by
  obtain ⟨k, rfl⟩ : ∃ m, k = m + 4 := ⟨k - 4, by omega⟩
  have w : wrap64 2 = 2 ∧ wrap64 3 = 3 ∧ wrap64 4 = 4 ∧ wrap64 26 = 26 ∧ wrap64 27 = 27 ∧ wrap64 702 = 702 ∧ wrap64 703 = 703 ∧ wrap64 18278 = 18278 ∧ wrap64 18279 = 18279 := ⟨Th.wrap_small (by omega) (by omega), Th.wrap_small (by omega) (by omega), Th.wrap_small (by omega) (by omega), Th.wrap_small (by omega) (by omega), Th.wrap_small (by omega) (by omega), Th.wrap_small (by omega) (by omega), Th.wrap_small (by omega) (by omega), Th.wrap_small (by omega) (by omega), Th.wrap_small (by omega) (by omega)⟩
  have hc : d = 1 ∨ d = 2 ∨ d = 3 ∨ d = 4 ∨ d = 5 := by omega
  rcases hc with rfl | rfl | rfl | rfl | rfl <;> simp [impl_keysFrom.f, w, Th.wt]
theorem impl_rankBelow_eq : ∀ (l : List UInt8) (d k : Nat), Th.okL l d → l.length + 10 ≤ k → impl_rankBelow.f k (Th.mkS l) (d : Int) = some (Th.erL l d)
  | _, _, 0, _, h => by omega
  | [], d, k + 1, _, _ => by
    rw [impl_rankBelow.f, if_pos (Th.toList_mkS [])]
    rfl
  | c :: l, d, k + 1, hok, hk => by
    obtain ⟨o1, o2, o3, o4⟩ := Th.okL_tail hok
    have hk' : l.length + 10 ≤ k := by simp only [List.length_cons] at hk; omega
    have ih := impl_rankBelow_eq l (d + 1) k o1 hk'
    have hs : (0 : Int) < ((Th.mkS (c :: l)).size : Int) := by rw [Th.size_mkS, List.length_cons]; omega
    have hx : (Th.mkS (c :: l)).extract 1 (Th.mkS (c :: l)).size = Th.mkS l := by rw [Th.extract_mkS, Th.size_mkS, List.take_length]; rfl
    have hr := Th.erL_range l (d + 1) o1
    have hw := Th.wt_pos d
    have hd : d = 1 ∨ d = 2 ∨ d = 3 ∨ d = 4 := by have := hok.2.1; omega
    have hb : wrap64 ((d : Int) + 1) = ((d + 1 : Nat) : Int) := by rw [Th.wrap_small (by omega) (by omega)]; omega
    have hc : ((c.toNat : Int) - 97) % 256 = (c.toNat : Int) - 97 := by omega
    have hs1 : (1 : Int) ≤ ((Th.mkS (c :: l)).size : Int) := by omega
    rw [impl_rankBelow.f, if_neg (by rw [Th.toList_mkS]; simp), if_pos hs, impl_keysFrom_eq d k hok.2.1 (by omega) (by omega), Option.bind_some, if_pos hs1, hx, hb, ih, Th.bt_zero, hc]
    simp only [Option.bind_some, Th.erL]
    have key : ∀ x : Int, 0 ≤ x → x ≤ 25 → ∀ y : Int, 0 ≤ y → y ≤ 475254 → wrap64 (wrap64 (1 + wrap64 (x * Th.wt d)) + y) = 1 + x * Th.wt d + y := by
      intro x hx0 hx1 y hy0 hy1
      have : 0 ≤ x * Th.wt d ∧ x * Th.wt d ≤ 456975 := by
        rcases hd with rfl | rfl | rfl | rfl <;> simp only [Th.wt] <;> omega
      rw [Th.wrap_small (x := x * Th.wt d) (by omega) (by omega), Th.wrap_small (x := 1 + x * Th.wt d) (by omega) (by omega), Th.wrap_small (by omega) (by omega)]
    rw [key _ (by omega) (by omega) _ hr.1 (by rcases hd with rfl | rfl | rfl | rfl <;> simp only [Th.wt] at hr <;> omega)]
theorem impl_KeyRank_eq (s : ByteArray) (k : Nat) (hk : 1000 ≤ k) : impl_KeyRank.f k s = some (Th.krank s) := by
  unfold impl_KeyRank.f Th.krank
  rw [impl_KeyValid_eq s k hk, Option.bind_some]
  by_cases h : Th.kv s = true
  · rw [if_pos h, if_pos h]
    have h0 := Th.kv0_of_kv h
    have hr := Th.er_range h0
    have := impl_rankBelow_eq s.toList 1 k h0 (by have := h0.1; omega)
    rw [Th.mkS_toList, show ((1 : Nat) : Int) = 1 from rfl] at this
    rw [this, Option.bind_some]
    show some (wrap64 (Th.er s - 1)) = _
    rw [Th.wrap_small (by omega) (by omega)]
  · rw [if_neg h, if_neg h]
theorem laws_alive_eq (k : Nat) (hk : 2000 ≤ k) : laws_alive.f k = some true := by
  unfold laws_alive.f
  rw [impl_KeyRank_eq _ k (by omega), Option.bind_some, impl_KeyRank_eq _ k (by omega), Option.bind_some]
  have e1 : Th.krank (⟨#[97, 97]⟩ : ByteArray) = 1 := by
    show Th.krank (Th.mkS [97, 97]) = 1
    unfold Th.krank Th.kv Th.er
    rw [Th.toList_mkS]
    decide
  have e2 : Th.krank (⟨#[]⟩ : ByteArray) = -1 := by
    show Th.krank (Th.mkS []) = -1
    unfold Th.krank Th.kv Th.er
    rw [Th.toList_mkS]
    decide
  rw [e1, if_pos rfl, e2]
  rfl
theorem impl_PagesList_eq (l : List S53) (k : Nat) (hk : 4000 ≤ k) : impl_PagesList.f k l = some (Th.listPg S65.f0 S65.f1 S53.f0 l) := by
  unfold impl_PagesList.f Th.listPg
  rw [impl_PagesValid_eq l k hk, Option.bind_some]
  by_cases h : Th.pgv S65.f0 S65.f1 S53.f0 l = true
  · have hP := (Th.pgv_iff _ _ _ l).1 h
    have h1 := hP.2.1
    have h2 := Th.pgv_len _ _ _ l hP
    rw [if_pos h, if_pos h, impl_allPairs_eq l k (by omega) (by omega) (by omega)]
    rfl
  · rw [if_neg h, if_neg h]
theorem FnPagesPut : laws_FnPagesPut.Pure := by
  intro l _ hl hx
  refine ⟨20000 + 1, ?_⟩
  unfold laws_FnPagesPut.f
  by_cases h : (l.length : Int) > 1048576
  · rw [if_pos h]
  obtain ⟨A, s, v, hA, hB, hd⟩ := spec_DrawPagesPut_ok l (20000 + 1) hx (by omega) (by omega)
  rw [if_neg h, hd, Option.bind_some]
  dsimp only
  rw [impl_PagesPut_eq A s v _ (by omega), Option.bind_some, spec_PagesPut_eq A s v _ (by omega) (by omega), Option.bind_some]
  have sm := Th.putPg_small S65.f0 S65.f1 S53.f0 S65.mk S53.mk (fun _ => rfl) z65 z53 A s v
  have ok := Th.putPg_ok S65.f0 S65.f1 S53.f0 S65.mk S53.mk (fun _ => rfl) (fun _ _ => rfl) (fun _ _ => rfl) z65 z53 A s v
  have no := Th.putPg_no S65.f0 S65.f1 S53.f0 S65.mk S53.mk z65 z53 A s v
  generalize Th.putPg S65.f0 S65.f1 S53.f0 S65.mk S53.mk z65 z53 A s v = J at sm ok no ⊢
  obtain ⟨X, b⟩ := J
  dsimp only at sm ok no ⊢
  have s1 := sm.1
  rw [laws_samePages_eqp X (by omega) (fun p hp => by have := sm.2 p hp; omega) _ (by omega), Option.bind_some, if_pos rfl, show (b != b) = false by simp, laws_FnPagesPut.j0, if_neg (by simp)]
  cases b with
  | true =>
    obtain ⟨g1, g2, g3, g4, g5⟩ := ok rfl
    have gx := list_cat X ((Th.pgv_iff _ _ _ _).2 g2)
    have gl := Th.putP_len S65.f0 S65.f1 S65.mk (Th.cat S53.f0 A) s v
    have w : wrap64 ((A.length : Int) + 1) = (A.length : Int) + 1 := Th.wrap_small (by omega) (by omega)
    rw [if_pos rfl, impl_PagesList_eq A _ (by omega), Option.bind_some, list_cat A g1, impl_PairPut_eq _ _ _ _ (by omega), Option.bind_some, if_pos g4, impl_PagesValid_eq X _ (by omega), Option.bind_some, if_pos ((Th.pgv_iff _ _ _ _).2 g2), impl_PagesList_eq X _ (by omega), Option.bind_some, gx, g3, laws_samePairs_eq _ (by omega) _ (by omega), Option.bind_some, if_pos rfl, w, decide_eq_true (by omega)]
  | false =>
    rw [if_neg (by simp)]
    rcases no rfl with e | e
    · rw [e, laws_samePages_eqp A (by omega) (fun p hp => by have := hB p hp; omega) _ (by omega), Option.bind_some, if_pos rfl, laws_alive_eq _ (by omega)]
      rfl
    · subst e
      unfold laws_samePages.f
      by_cases n : A = []
      · subst n
        rw [if_pos rfl, laws_samePages.l0, if_neg (by simp), Option.bind_some, if_pos rfl, laws_alive_eq _ (by omega)]
        rfl
      · have := List.length_pos_iff.2 n
        rw [if_neg (by simp only [List.length_nil]; omega), Option.bind_some, if_neg (by simp), if_pos (show (([] : List S53).length : Int) = 0 from rfl), laws_alive_eq _ (by omega)]
        rfl

end Go.Proofs.Ytengnnhehjcfhaa.Pure
