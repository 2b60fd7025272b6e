/- The plain law of FnExactPagesDrop: what the printed functions compute, and that it answers true: for every input that the statement lets in. -/
import Derived.Test.YtengnnhehjcfhaaPFnExactPagesDropx
import Derived.Test.YtengnnhehjcfhaaSFnExactPagesDrop
import Derived.Test.YtengnnhehjcfhaaThA
import Derived.Test.YtengnnhehjcfhaaThB
import Derived.Test.YtengnnhehjcfhaaThL
import Derived.Test.YtengnnhehjcfhaaThC
import Derived.Test.YtengnnhehjcfhaaThU
import Derived.Test.YtengnnhehjcfhaaThV
import Derived.Test.YtengnnhehjcfhaaThQ
namespace Go.Proofs.Ytengnnhehjcfhaa.Pure
open Go Go.RowKit Go.Proofs.Ytengnnhehjcfhaa.PFnExactPagesDrop Go.Proofs.YtengnnhehjcfhaaW.PrintWords Go.Proofs.YtengnnhehjcfhaaW.PrintLast Go.Proofs.Ytengnnhehjcfhaa
set_option linter.unusedVariables false
set_option linter.unusedSimpArgs false
set_option maxRecDepth 10000
theorem spec_l1In_eq (a b c : Int) : spec_l1In.f a b c = some (decide (b ≤ a) && decide (a ≤ c)) := by
  unfold spec_l1In.f
  by_cases h : a ≥ b
  · rw [if_pos h, decide_eq_true (show b ≤ a from h), Bool.true_and]
  · rw [if_neg h, decide_eq_false (show ¬ b ≤ a from h), Bool.false_and]
theorem spec_KeyValid_l0 (l : List UInt8) (hl : l.length ≤ 4) : ∀ (d i k : Nat), i + d = l.length → d < k → spec_KeyValid.l0 k (Th.mkS l) (i : Int) = some ((l.drop i).all Th.letter)
  | _, _, 0, _, h => by omega
  | 0, i, k + 1, h, _ => by
    rw [spec_KeyValid.l0, if_neg (by rw [Th.size_mkS]; omega), List.drop_of_length_le (by omega)]; rfl
  | d + 1, i, k + 1, h, hk => by
    have ih := spec_KeyValid_l0 l hl d (i + 1) k (by omega) (by omega)
    have hi : i < l.length := by omega
    rw [spec_KeyValid.l0, if_pos (by rw [Th.size_mkS]; omega), if_pos (by omega), Th.bt_mkS l i hi, Th.wrap_small (by omega) (by omega), show ((i : Int) + 1) = ((i + 1 : Nat) : Int) by omega, ih, List.drop_eq_getElem_cons hi, List.all_cons]
    simp only [Th.letter]
    by_cases h1 : ((l[i]'hi).toNat : Int) < 97
    · rw [if_pos h1, decide_eq_false (show ¬ 97 ≤ ((l[i]'hi).toNat : Int) by omega)]; rfl
    · rw [if_neg h1, decide_eq_true (show 97 ≤ ((l[i]'hi).toNat : Int) by omega)]
      by_cases h2 : ((l[i]'hi).toNat : Int) > 122
      · rw [if_pos h2, decide_eq_false (show ¬ ((l[i]'hi).toNat : Int) ≤ 122 by omega)]; rfl
      · rw [if_neg h2, decide_eq_true (show ((l[i]'hi).toNat : Int) ≤ 122 by omega)]; rfl
theorem spec_KeyValid_eq (s : ByteArray) (k : Nat) (hk : 1000 ≤ k) : spec_KeyValid.f k s = some (Th.kv s) := by
  obtain ⟨l, rfl⟩ := Th.mkS_surj s
  unfold spec_KeyValid.f Th.kv Th.kvL
  rw [spec_l1In_eq, Th.toList_mkS, Th.size_mkS, Option.bind_some]
  by_cases h : 1 ≤ l.length ∧ l.length ≤ 4
  · have h0 := spec_KeyValid_l0 l h.2 l.length 0 k (by omega) (by omega)
    rw [show ((0 : Nat) : Int) = 0 from rfl] at h0
    rw [decide_eq_true (show (1 : Int) ≤ (l.length : Int) by omega), decide_eq_true (show (l.length : Int) ≤ 4 by omega), decide_eq_true h.1, decide_eq_true h.2, h0]
    rfl
  · by_cases h1 : 1 ≤ l.length
    · rw [decide_eq_false (show ¬ (l.length : Int) ≤ 4 by omega), decide_eq_false (show ¬ l.length ≤ 4 by omega)]; simp
    · rw [decide_eq_false (show ¬ (1 : Int) ≤ (l.length : Int) by omega), decide_eq_false h1]; simp
theorem spec_PairsValid_l0 (l : List S65) (hl : l.length ≤ 48) : ∀ (d i k : Nat), i + d = l.length → d + 1001 ≤ k → ∃ b, spec_PairsValid.l0 k l (i : Int) = some b ∧ (b = true ↔ ∀ j, i ≤ j → j < l.length → Th.stepOk S65.f0 S65.f1 z65 l j)
  | _, _, 0, _, h => by omega
  | 0, i, k + 1, h, _ => by
    rw [spec_PairsValid.l0, if_neg (by omega)]
    exact ⟨true, rfl, fun _ j h1 h2 => by omega, fun _ => rfl⟩
  | d + 1, i, k + 1, h, hk => by
    have hi : i < l.length := by omega
    obtain ⟨b, hb, hb2⟩ := spec_PairsValid_l0 l hl d (i + 1) k (by omega) (by omega)
    have hw : wrap64 ((i : Int) + 1) = ((i + 1 : Nat) : Int) := by rw [Th.wrap_small (by omega) (by omega)]; omega
    have no : ¬ Th.stepOk S65.f0 S65.f1 z65 l i → ∃ b, some false = some b ∧ (b = true ↔ ∀ j, i ≤ j → j < l.length → Th.stepOk S65.f0 S65.f1 z65 l j) :=
      fun hn => ⟨false, rfl, fun h => (by cases h), fun h => absurd (h i (Nat.le_refl _) hi) hn⟩
    have go : Th.stepOk S65.f0 S65.f1 z65 l i → ∃ b', some b = some b' ∧ (b' = true ↔ ∀ j, i ≤ j → j < l.length → Th.stepOk S65.f0 S65.f1 z65 l j) :=
      fun hn => ⟨b, rfl, hb2.trans (Th.all_from hi hn)⟩
    rw [spec_PairsValid.l0, if_pos (by omega), if_pos (by omega), show rd_T65 l (i : Int) = l.getD i z65 from rfl, spec_KeyValid_eq _ k (by omega), Option.bind_some]
    by_cases h1 : Th.kv (l.getD i z65).f0 = true
    · rw [if_pos h1, spec_l1In_eq, Option.bind_some]
      by_cases h2 : 0 ≤ (l.getD i z65).f1 ∧ (l.getD i z65).f1 ≤ 999
      · rw [decide_eq_true h2.1, decide_eq_true h2.2, if_pos (by rfl)]
        by_cases h0 : 0 < i
        · have hp : wrap64 ((i : Int) - 1) = ((i - 1 : Nat) : Int) := by rw [Th.wrap_small (by omega) (by omega)]; omega
          rw [if_pos (by omega), hp, if_pos (by omega), if_pos (by omega), show rd_T65 l ((i - 1 : Nat) : Int) = l.getD (i - 1) z65 from rfl, hw, hb]
          by_cases c1 : Th.lt (l.getD i z65).f0 (l.getD (i - 1) z65).f0
          · rw [if_pos c1]; exact no (fun hs => Th.lt_asymm c1 (hs.2 h0))
          · rw [if_neg c1]
            by_cases c2 : (l.getD i z65).f0.toList = (l.getD (i - 1) z65).f0.toList
            · rw [if_pos c2]; exact no (fun hs => Th.lt_irrefl _ (by have := hs.2 h0; rwa [Th.str_ext c2] at this))
            · rw [if_neg c2]
              refine go ⟨⟨h1, h2⟩, fun _ => ?_⟩
              rcases Classical.em (Th.lt (l.getD (i - 1) z65).f0 (l.getD i z65).f0) with c | c
              · exact c
              · exact absurd (congrArg ByteArray.toList (Th.lt_total c1 c)) c2
        · rw [if_neg (by omega), hw, hb]
          exact go ⟨⟨h1, h2⟩, fun h => absurd h h0⟩
      · rw [if_neg (by simp only [Bool.and_eq_true, decide_eq_true_eq]; exact h2)]
        exact no (fun hs => h2 hs.1.2)
    · rw [if_neg h1]
      exact no (fun hs => h1 hs.1.1)
theorem spec_PairsValid_eq (l : List S65) (k : Nat) (hk : 2000 ≤ k) : spec_PairsValid.f k l = some (Th.pv S65.f0 S65.f1 l) := by
  unfold spec_PairsValid.f
  by_cases h : (l.length : Int) > 48
  · rw [if_pos h]
    congr 1
    symm
    rw [Bool.eq_false_iff]
    intro hp
    have := ((Th.pv_iff _ _ l).1 hp).1
    omega
  · rw [if_neg h]
    obtain ⟨b, hb, hb2⟩ := spec_PairsValid_l0 l (by omega) l.length 0 k (by omega) (by omega)
    rw [show ((0 : Nat) : Int) = 0 from rfl] at hb
    rw [hb]
    congr 1
    apply Th.bool_eq
    rw [hb2, Th.pv_iff, Th.pv_steps _ _ z65]
    constructor
    · exact fun h' => ⟨by omega, fun j hj => h' j (by omega) hj⟩
    · exact fun h' j _ hj => h'.2 j hj
theorem spec_PagesValid_l0 (l : List S53) (hl : l.length ≤ 1048576) : ∀ (d i k : Nat), i + d = l.length → d + 3000 ≤ k → (∀ p ∈ l.take i, Th.okPg S53.f0 l.length p) → spec_PagesValid.l0 k l (Th.cat S53.f0 (l.take i)) (i : Int) = some (Th.pgv S65.f0 S65.f1 S53.f0 l)
  | _, _, 0, _, h, _ => by omega
  | 0, i, k + 1, h, hk, ho => by
    rw [List.take_of_length_le (by omega)] at ho ⊢
    rw [spec_PagesValid.l0, if_neg (by omega), spec_PairsValid_eq _ k (by omega), Option.bind_some]
    congr 1
    apply Th.bool_eq
    rw [Th.pv_iff, Th.pgv_iff]
    exact ⟨fun h => ⟨ho, h⟩, fun h => h.2⟩
  | d + 1, i, k + 1, h, hk, ho => by
    have hi : i < l.length := by omega
    have hm := Th.getD_mem z53 l i hi
    have hw : wrap64 ((i : Int) + 1) = ((i + 1 : Nat) : Int) := by rw [Th.wrap_small (by omega) (by omega)]; omega
    have no : ∀ P : Prop, (Th.PgV S65.f0 S65.f1 S53.f0 l → P) → ¬ P → some false = some (Th.pgv S65.f0 S65.f1 S53.f0 l) := fun P h1 h2 => by
      rw [Th.pgv_no _ _ _ l (fun h => h2 (h1 h))]
    have hs : (Th.cat S53.f0 (l.take i)).length ≤ 48 → Th.okPg S53.f0 l.length (l.getD i z53) → (Th.cat S53.f0 (l.take i)).length + (l.getD i z53).f0.length < 5864062014805 ∧ spec_PagesValid.l0 k l (Th.cat S53.f0 (l.take i) ++ (l.getD i z53).f0) ((i + 1 : Nat) : Int) = some (Th.pgv S65.f0 S65.f1 S53.f0 l) := by
      intro h1 h2
      have h3 := h2.1
      refine ⟨by omega, ?_⟩
      have e := Th.cat_take S53.f0 z53 l i hi
      rw [← e]
      refine spec_PagesValid_l0 l hl d (i + 1) k (by omega) (by omega) (fun p hp => ?_)
      rw [List.take_succ_eq_append_getElem hi, ← Th.getD_at z53 l i hi] at hp
      rcases List.mem_append.1 hp with hp | hp
      · exact ho p hp
      · rw [List.mem_singleton.1 hp]; exact h2
    have big : ¬ (Th.cat S53.f0 (l.take i)).length ≤ 48 → ¬ Th.PgV S65.f0 S65.f1 S53.f0 l := fun h1 h2 => by
      have h3 := h2.2.1
      have := Th.cat_len_take S53.f0 l i
      omega
    rw [spec_PagesValid.l0, if_pos (by omega), if_pos (by omega), hw, show rd_T53 l (i : Int) = l.getD i z53 from rfl]
    by_cases c1 : ((l.getD i z53).f0.length : Int) > 4
    · rw [if_pos c1]
      exact no _ (fun h => (h.1 _ hm).1) (by omega)
    rw [if_neg c1]
    by_cases c2 : ((l.getD i z53).f0.length : Int) < 2
    · rw [if_pos c2]
      by_cases c3 : (l.length : Int) > 1
      · rw [if_pos c3]
        exact no _ (fun h => (h.1 _ hm).2.1) (fun h => by have := h (by omega); omega)
      rw [if_neg c3]
      by_cases c4 : ((l.getD i z53).f0.length : Int) < 1
      · rw [if_pos c4]
        exact no _ (fun h => (h.1 _ hm).2.2) (by omega)
      rw [if_neg c4]
      by_cases c5 : ((Th.cat S53.f0 (l.take i)).length : Int) > 48
      · rw [if_pos c5]
        exact no False (fun h => big (by omega) h) id
      · obtain ⟨h1, h2⟩ := hs (by omega) ⟨by omega, fun _ => by omega, by omega⟩
        rw [if_neg c5, if_pos h1, h2]
    rw [if_neg c2]
    by_cases c5 : ((Th.cat S53.f0 (l.take i)).length : Int) > 48
    · rw [if_pos c5]
      exact no False (fun h => big (by omega) h) id
    · obtain ⟨h1, h2⟩ := hs (by omega) ⟨by omega, fun _ => by omega, by omega⟩
      rw [if_neg c5, if_pos h1, h2]
theorem spec_PagesValid_eq (l : List S53) (k : Nat) (hl : l.length ≤ 1048576) (hk : l.length + 3000 ≤ k) : spec_PagesValid.f k l = some (Th.pgv S65.f0 S65.f1 S53.f0 l) := by
  unfold spec_PagesValid.f
  exact spec_PagesValid_l0 l hl l.length 0 k (by omega) (by omega) (by simp)
theorem spec_l6Copy_l0 (l : List S53) (hl : l.length ≤ 1048576) (hc : (Th.cat S53.f0 l).length ≤ 1048576) : ∀ (d i k : Nat), i + d = l.length → d < k → spec_l6Copy.l0 k l (l.take i) (i : Int) = some l
  | _, _, 0, _, h => by omega
  | 0, i, k + 1, h, _ => by rw [spec_l6Copy.l0, if_neg (by omega), List.take_of_length_le (by omega)]
  | d + 1, i, k + 1, h, hk => by
    have hi : i < l.length := by omega
    have hw : wrap64 ((i : Int) + 1) = ((i + 1 : Nat) : Int) := by rw [Th.wrap_small (by omega) (by omega)]; omega
    have hm := Th.cat_mem S53.f0 l _ (Th.getD_mem z53 l i hi)
    have ih := spec_l6Copy_l0 l hl hc d (i + 1) k (by omega) (by omega)
    rw [List.take_succ_eq_append_getElem hi, ← Th.getD_at z53 l i hi] at ih
    rw [spec_l6Copy.l0, if_pos (by omega), Option.bind_some, if_pos (by omega), show rd_T53 l (i : Int) = l.getD i z53 from rfl, if_pos (by simp only [List.length_nil]; omega), if_pos (by rw [List.length_take]; omega), hw, List.nil_append]
    exact ih
theorem spec_l6Copy_eq (l : List S53) (hl : l.length ≤ 1048576) (hc : (Th.cat S53.f0 l).length ≤ 1048576) (k : Nat) (hk : l.length + 2 ≤ k) : spec_l6Copy.f k l = some l := by
  unfold spec_l6Copy.f
  exact spec_l6Copy_l0 l hl hc l.length 0 k (by omega) (by omega)
theorem page_ne (l : List S53) (h : Th.PgV S65.f0 S65.f1 S53.f0 l) (i : Nat) (hi : i < l.length) : 0 < (l.getD i z53).f0.length := by
  have := (h.1 _ (Th.getD_mem z53 l i hi)).2.2
  omega
theorem not_less {a b : ByteArray} (h : Op.bytesLess b.toList a.toList = true ∨ ¬ Op.bytesLess b.toList a.toList = true) : (Op.bytesLess a.toList b.toList = true → ¬ Op.bytesLess b.toList a.toList = true) ∧ (a.toList = b.toList → ¬ Op.bytesLess b.toList a.toList = true) := by
  refine ⟨fun h1 h2 => Th.lt_asymm (show Th.lt a b from h1) h2, fun h1 h2 => ?_⟩
  rw [h1] at h2
  exact Th.lt_irrefl b h2
theorem le_cases (a b : ByteArray) (hb : Th.kv b = true) (ha : Th.kv a = true) : (Op.bytesLess b.toList a.toList = true ∧ ¬ Op.bytesLess a.toList b.toList = true ∧ ¬ a.toList = b.toList) ∨ (¬ Op.bytesLess b.toList a.toList = true ∧ (Op.bytesLess a.toList b.toList = true ∨ a.toList = b.toList)) := by
  by_cases h : Op.bytesLess b.toList a.toList = true
  · left
    refine ⟨h, fun h2 => Th.lt_asymm (show Th.lt b a from h) h2, fun h2 => ?_⟩
    rw [h2] at h
    exact Th.lt_irrefl b h
  · right
    refine ⟨h, ?_⟩
    have a0 := Th.kv0_of_kv ha
    have b0 := Th.kv0_of_kv hb
    by_cases h2 : Op.bytesLess a.toList b.toList = true
    · exact .inl h2
    · have h3 : ¬ Th.er b < Th.er a := fun h' => h ((Th.lt_iff b0 a0).2 h')
      have h4 : ¬ Th.er a < Th.er b := fun h' => h2 ((Th.lt_iff a0 b0).2 h')
      exact .inr (by rw [Th.er_inj a0 b0 (by omega)])
theorem page_key (l : List S53) (h : Th.PgV S65.f0 S65.f1 S53.f0 l) (i : Nat) (hi : i < l.length) : Th.kv ((l.getD i z53).f0.getD 0 z65).f0 = true := by
  have h1 := page_ne l h i hi
  have hm := Th.getD_mem z65 (l.getD i z53).f0 0 h1
  have e : Th.cat S53.f0 l = Th.cat S53.f0 (l.take i) ++ Th.cat S53.f0 (l.drop i) := by rw [← Th.cat_append, List.take_append_drop]
  refine (h.2.2.1 _ ?_).1
  rw [e, Th.cat_drop S53.f0 z53 l i hi]
  exact List.mem_append_right _ (List.mem_append_left _ hm)
theorem spec_PageFind_l0 (l : List S53) (s : ByteArray) (h : Th.PgV S65.f0 S65.f1 S53.f0 l) (hs : Th.kv s = true) : ∀ (d i k a : Nat), i + d = l.length → d < k → spec_PageFind.l0 k l s (a : Int) (i : Int) = some ((Th.lastPg S65.f0 S53.f0 z65 s (l.drop i) i a : Nat) : Int)
  | _, _, 0, _, _, h => by omega
  | 0, i, k + 1, a, hd, _ => by
    rw [spec_PageFind.l0, if_neg (by omega), List.drop_of_length_le (by omega)]
    rfl
  | d + 1, i, k + 1, a, hd, hk => by
    have hl := Th.pgv_len _ _ _ l h
    have hi : i < l.length := by omega
    have hw : wrap64 ((i : Int) + 1) = ((i + 1 : Nat) : Int) := by rw [Th.wrap_small (by omega) (by omega)]; omega
    have hn := page_ne l h i hi
    have ih := spec_PageFind_l0 l s h hs d (i + 1) k
    rw [spec_PageFind.l0, if_pos (by omega), if_pos (by omega), show rd_T53 l (i : Int) = l.getD i z53 from rfl, if_pos (by omega), show rd_T65 (l.getD i z53).f0 0 = (l.getD i z53).f0.getD 0 z65 from rfl, hw, List.drop_eq_getElem_cons hi, Th.lastPg, ← Th.getD_at z53 l i hi]
    rcases le_cases ((l.getD i z53).f0.getD 0 z65).f0 s hs (page_key l h i hi) with ⟨c1, c2, c3⟩ | ⟨c1, c2⟩
    · rw [if_neg c2, if_neg c3, if_pos c1, ih a (by omega) (by omega)]
    · rw [if_neg c1]
      rcases c2 with c2 | c2
      · rw [if_pos c2, ih i (by omega) (by omega)]
      · rw [if_pos c2, ih i (by omega) (by omega)]
        by_cases c3 : Op.bytesLess ((l.getD i z53).f0.getD 0 z65).f0.toList s.toList = true
        · rw [if_pos c3]
        · rw [if_neg c3]
theorem spec_PageFind_eq (l : List S53) (s : ByteArray) (k : Nat) (hl : l.length ≤ 1048576) (hk : l.length + 4000 ≤ k) : spec_PageFind.f k l s = some (Th.findPg S65.f0 S65.f1 S53.f0 z65 l s) := by
  obtain ⟨k, rfl⟩ : ∃ m, k = m + 1 := ⟨k - 1, by omega⟩
  unfold spec_PageFind.f Th.findPg
  rw [spec_PagesValid_eq l (k + 1) hl (by omega), Option.bind_some]
  have no : spec_PageFind.j0 (k + 1) l s true = some (-1) := by rw [spec_PageFind.j0, if_pos rfl]
  by_cases h : Th.pgv S65.f0 S65.f1 S53.f0 l = true
  · rw [if_pos h, spec_KeyValid_eq s _ (by omega), Option.bind_some]
    by_cases h2 : Th.kv s = true
    · rw [if_pos h2]
      cases l with
      | nil => rw [if_neg (by simp)]; exact no
      | cons p l =>
        have hP := (Th.pgv_iff _ _ _ _).1 h
        have h48 := Th.pgv_len _ _ _ _ hP
        have e : ((((p :: l).length : Nat) : Int) == 0) = false := by
          rw [beq_eq_false_iff_ne, List.length_cons]; omega
        have hk' : l.length + 3000 ≤ k := by rw [List.length_cons] at hk; omega
        have := spec_PageFind_l0 (p :: l) s hP h2 l.length 1 k 0 (by rw [List.length_cons]; omega) (by omega)
        rw [show ((1 : Nat) : Int) = 1 from rfl, show ((0 : Nat) : Int) = 0 from rfl] at this
        rw [e, spec_PageFind.j0, if_neg (by simp), this, if_pos ⟨h, h2, by simp⟩, Th.lastPg]
        congr 3
        by_cases c : Op.bytesLess s.toList (S65.f0 (p.f0.getD 0 z65)).toList = true
        · rw [if_pos c]
        · rw [if_neg c]
    · rw [if_neg h2, if_neg (fun h' => h2 h'.2.1), no]
  · rw [if_neg h, if_neg (fun h' => h h'.1), no]
theorem spec_l4Place_l0 (l : List S65) (s : ByteArray) (hl : l.length ≤ 4294967296) : ∀ (d i k : Nat), i + d = l.length → d < k → spec_l4Place.l0 k l s (i : Int) = some (((i + Th.place S65.f0 (l.drop i) s : Nat) : Int))
  | _, _, 0, _, h => by omega
  | 0, i, k + 1, h, _ => by
    rw [spec_l4Place.l0, if_neg (by omega), List.drop_of_length_le (by omega), Th.place_nil]
    rfl
  | d + 1, i, k + 1, h, hk => by
    have hi : i < l.length := by omega
    have ih := spec_l4Place_l0 l s hl d (i + 1) k (by omega) (by omega)
    have hw : wrap64 ((i : Int) + 1) = ((i + 1 : Nat) : Int) := by rw [Th.wrap_small (by omega) (by omega)]; omega
    rw [spec_l4Place.l0, if_pos (by omega), if_pos (by omega), show rd_T65 l (i : Int) = l.getD i z65 from rfl, hw, ih, List.drop_eq_getElem_cons hi, Th.getD_at _ l i hi]
    by_cases c : Th.lt (l[i]'hi).f0 s
    · rw [if_pos c, Th.place_pos _ c]
      congr 2
      omega
    · rw [if_neg c, Th.place_neg _ c]
      rfl
theorem spec_l4Place_eq (l : List S65) (s : ByteArray) (k : Nat) (hl : l.length ≤ 4294967296) (hk : l.length + 2 ≤ k) : spec_l4Place.f k l s = some ((Th.place S65.f0 l s : Nat) : Int) := by
  have := spec_l4Place_l0 l s hl l.length 0 k (by omega) (by omega)
  unfold spec_l4Place.f
  rw [show ((0 : Nat) : Int) = 0 from rfl] at this
  rw [this, List.drop_zero, Nat.zero_add]
theorem spec_PairDrop_eq (l : List S65) (s : ByteArray) (k : Nat) (hk : 3000 ≤ k) : spec_PairDrop.f k l s = some (Th.dropP S65.f0 S65.f1 l s) := by
  unfold spec_PairDrop.f Th.dropP
  rw [Option.bind_some, spec_PairsValid_eq l k (by omega), Option.bind_some]
  by_cases h : Th.pv S65.f0 S65.f1 l = true
  · have hl := ((Th.pv_iff _ _ l).1 h).1
    have hp := Th.place_le S65.f0 l s
    rw [if_pos h, if_pos h, spec_l4Place_eq l s k (by omega) (by omega), Option.bind_some, Th.foundAt_getD _ z65]
    generalize hq : Th.place S65.f0 l s = q at hp
    by_cases e : q < l.length
    · have hw : wrap64 ((q : Int) + 1) = ((q + 1 : Nat) : Int) := by rw [Th.wrap_small (by omega) (by omega)]; omega
      have hd : (l.drop (q + 1)).length = l.length - (q + 1) := List.length_drop ..
      have ht : (l.take q).length = q := by rw [List.length_take]; omega
      rw [if_neg (by omega), if_pos (by omega), if_pos (by omega), decide_eq_true e, Bool.true_and, show rd_T65 l (q : Int) = l.getD q z65 from rfl]
      by_cases c : (l.getD q z65).f0.toList = s.toList
      · rw [if_pos c, if_pos (by omega), if_pos (show decide ((l.getD q z65).f0 = s) = true by simpa using Th.str_ext c)]
        simp only [Option.bind_some, Int.toNat_natCast, List.nil_append, hw]
        rw [if_pos (by simp only [List.length_nil]; omega), if_pos (by omega), if_pos (by omega), if_pos (by omega)]
      · rw [if_neg c, if_pos (by simp only [List.length_nil]; omega), if_neg (show ¬ decide ((l.getD q z65).f0 = s) = true by rw [decide_eq_true_eq]; exact fun h => c (by rw [h])), List.nil_append]
    · rw [if_pos (by omega), if_pos (by simp only [List.length_nil]; omega), decide_eq_false e, List.nil_append]
      simp
  · rw [if_neg h, if_neg h]
/-- few pages, none of them large -/
def Sm (l : List S53) : Prop := Th.small S53.f0 l
theorem sm_of (l : List S53) (h : Th.PgV S65.f0 S65.f1 S53.f0 l) : l.length ≤ 48 ∧ (Th.cat S53.f0 l).length ≤ 48 ∧ ∀ p ∈ l, p.f0.length ≤ 4 := ⟨Th.pgv_len _ _ _ l h, h.2.1, fun p hp => (h.1 p hp).1⟩
theorem find_at' (l : List S53) (s : ByteArray) (h : Th.PgV S65.f0 S65.f1 S53.f0 l) (hs : Th.kv s = true) (hn : l ≠ []) : Th.findPg S65.f0 S65.f1 S53.f0 z65 l s = ((Th.lastPg S65.f0 S53.f0 z65 s l 0 0 : Nat) : Int) := by
  unfold Th.findPg
  rw [if_pos ⟨(Th.pgv_iff _ _ _ _).2 h, hs, hn⟩]
theorem find_at (l : List S53) (s : ByteArray) (h : Th.PgV S65.f0 S65.f1 S53.f0 l) (hs : Th.kv s = true) (hn : l ≠ []) : ∃ q : Nat, q < l.length ∧ Th.findPg S65.f0 S65.f1 S53.f0 z65 l s = (q : Int) := ⟨_, Th.lastPg_in _ _ _ s l hn, find_at' l s h hs hn⟩
theorem list_cat (l : List S53) (h : Th.pgv S65.f0 S65.f1 S53.f0 l = true) : Th.listPg S65.f0 S65.f1 S53.f0 l = Th.cat S53.f0 l := by
  unfold Th.listPg
  rw [if_pos h]
theorem spec_l6Mend_j2 (l : List S53) (a i : Nat) (k : Nat) (hl : l.length ≤ 48) (hp : ∀ p ∈ l, p.f0.length ≤ 48) (hi : i + 1 < l.length) (hk : 1 ≤ k) : spec_l6Mend.j2 k l (a : Int) (i : Int) = some (Th.joinPg S53.f0 S53.mk z53 l a i) := by
  obtain ⟨k, rfl⟩ : ∃ m, k = m + 1 := ⟨k - 1, by omega⟩
  have h1 := hp _ (Th.getD_mem z53 l i (by omega))
  have h2 := hp _ (Th.getD_mem z53 l (i + 1) (by omega))
  have w1 : wrap64 ((i : Int) + 1) = ((i + 1 : Nat) : Int) := by rw [Th.wrap_small (by omega) (by omega)]; omega
  have w2 : wrap64 ((i : Int) + 2) = ((i + 2 : Nat) : Int) := by rw [Th.wrap_small (by omega) (by omega)]; omega
  have ht : (l.take i).length = i := by rw [List.length_take]; omega
  have hdl : (l.drop (i + 2)).length = l.length - (i + 2) := List.length_drop ..
  unfold Th.joinPg Th.twoPg
  rw [spec_l6Mend.j2, Option.bind_some, if_pos (by omega), if_pos (by omega), show rd_T53 l (i : Int) = l.getD i z53 from rfl, if_pos (by simp only [List.length_nil]; omega), Option.bind_some, w1, if_pos (by omega), if_pos (by omega), show rd_T53 l ((i + 1 : Nat) : Int) = l.getD (i + 1) z53 from rfl, List.nil_append, if_pos (by omega), Option.bind_some]
  have hy : ((l.getD i z53).f0 ++ (l.getD (i + 1) z53).f0).length ≤ 96 := by rw [List.length_append]; omega
  generalize (l.getD i z53).f0 ++ (l.getD (i + 1) z53).f0 = y at hy ⊢
  by_cases c : (y.length : Int) ≤ 4
  · rw [if_pos c, if_pos (show y.length ≤ 4 by omega), Option.bind_some, if_pos (by omega), Option.bind_some, Int.toNat_natCast, if_pos (by simp only [List.length_nil]; omega), Option.bind_some, List.nil_append, if_pos (by omega), Option.bind_some, w2, if_pos (by omega), if_pos (by omega), Option.bind_some, Int.toNat_natCast, if_pos (by rw [List.length_append, ht, hdl]; simp only [List.length_cons, List.length_nil]; omega)]
  · rw [if_neg c, if_neg (show ¬ y.length ≤ 4 by omega)]
    by_cases d : (i : Int) = (a : Int)
    · rw [if_pos d, if_pos (show i = a by omega), Option.bind_some, if_pos (by omega), Option.bind_some, if_pos (by rw [List.length_take]; simp only [List.length_nil]; omega), Option.bind_some, Option.bind_some, if_pos (by rw [List.length_drop]; simp only [List.length_nil]; omega), Int.toNat_natCast, Int.toNat_natCast, Th.set_two _ _ _ _ hi]
      rfl
    · have w3 : wrap64 ((y.length : Int) - 2) = ((y.length - 2 : Nat) : Int) := by rw [Th.wrap_small (by omega) (by omega)]; omega
      rw [if_neg d, if_neg (show ¬ i = a by omega), Option.bind_some, w3, if_pos (by omega), if_pos (by omega), Option.bind_some, Int.toNat_natCast, if_pos (by rw [List.length_take]; simp only [List.length_nil]; omega), Option.bind_some, Option.bind_some, if_pos (by rw [List.length_drop]; simp only [List.length_nil]; omega), Int.toNat_natCast, Int.toNat_natCast, Th.set_two _ _ _ _ hi]
      rfl
theorem spec_l6Mend_j1 (l : List S53) (a : Nat) (b : Bool) (k : Nat) (hl : l.length ≤ 48) (hp : ∀ p ∈ l, p.f0.length ≤ 48) (ha : a < l.length) (hb : b = false → 2 ≤ l.length) (hk : 5 ≤ k) : spec_l6Mend.j1 k l (a : Int) b = some (if b = true then l else Th.joinPg S53.f0 S53.mk z53 l a (if a + 1 = l.length then a - 1 else a)) := by
  obtain ⟨k, rfl⟩ : ∃ m, k = m + 1 := ⟨k - 1, by omega⟩
  rw [spec_l6Mend.j1]
  cases b with
  | true => rw [if_pos rfl, if_pos rfl]
  | false =>
    have h2 := hb rfl
    have w1 : wrap64 ((l.length : Int) - 1) = ((l.length - 1 : Nat) : Int) := by rw [Th.wrap_small (by omega) (by omega)]; omega
    rw [if_neg (show ¬ (false = true) by simp), if_neg (show ¬ (false = true) by simp), w1]
    by_cases c : (a : Int) = ((l.length - 1 : Nat) : Int)
    · have w2 : wrap64 ((a : Int) - 1) = ((a - 1 : Nat) : Int) := by rw [Th.wrap_small (by omega) (by omega)]; omega
      rw [if_pos c, w2, if_pos (by omega)]
      exact spec_l6Mend_j2 l a (a - 1) k hl hp (by omega) (by omega)
    · rw [if_neg c, if_neg (by omega)]
      exact spec_l6Mend_j2 l a a k hl hp (by omega) (by omega)
theorem spec_l6Mend_eq (l : List S53) (a : Nat) (k : Nat) (hl : l.length ≤ 48) (hp : ∀ p ∈ l, p.f0.length ≤ 48) (ha : a < l.length) (hk : 10 ≤ k) : spec_l6Mend.f k l (a : Int) = some (Th.mendPg S53.f0 S53.mk z53 l a) := by
  obtain ⟨k, rfl⟩ : ∃ m, k = m + 1 := ⟨k - 1, by omega⟩
  unfold spec_l6Mend.f Th.mendPg
  by_cases c : (l.length : Int) = 1
  · rw [if_pos c, if_pos (by omega), if_pos (show l.length = 1 by omega), spec_l6Mend.j0, show rd_T53 l 0 = l.getD 0 z53 from rfl]
    by_cases d : ((l.getD 0 z53).f0.length : Int) = 0
    · rw [show (((l.getD 0 z53).f0.length : Int) == 0) = true from beq_iff_eq.mpr d, if_pos rfl, if_pos (show (l.getD 0 z53).f0.length = 0 by omega)]
    · rw [show (((l.getD 0 z53).f0.length : Int) == 0) = false from beq_eq_false_iff_ne.mpr d, if_neg (by simp), if_neg (show ¬ (l.getD 0 z53).f0.length = 0 by omega), if_pos c, spec_l6Mend_j1 l a true k hl hp ha (fun h => by cases h) (by omega), if_pos rfl]
  · rw [if_neg c, if_neg (show ¬ l.length = 1 by omega), spec_l6Mend.j0, if_neg (by simp), if_neg c, if_pos (by omega), if_pos (by omega), show rd_T53 l (a : Int) = l.getD a z53 from rfl]
    by_cases d : ((l.getD a z53).f0.length : Int) ≥ 2
    · rw [decide_eq_true d, if_pos (show 2 ≤ (l.getD a z53).f0.length by omega), spec_l6Mend_j1 l a true k hl hp ha (fun h => by cases h) (by omega), if_pos rfl]
    · rw [decide_eq_false d, if_neg (show ¬ 2 ≤ (l.getD a z53).f0.length by omega), spec_l6Mend_j1 l a false k hl hp ha (fun _ => by omega) (by omega), if_neg (by simp)]
theorem spec_PagesDrop_eq (l : List S53) (s : ByteArray) (k : Nat) (hl : l.length ≤ 1048576) (hk : l.length + 6000 ≤ k) : spec_PagesDrop.f k l s = some (Th.dropPg S65.f0 S65.f1 S53.f0 S53.mk z65 z53 l s) := by
  obtain ⟨k, rfl⟩ : ∃ m, k = m + 1 := ⟨k - 1, by omega⟩
  have no : ¬ (Th.pgv S65.f0 S65.f1 S53.f0 l = true ∧ Th.kv s = true) → spec_PagesDrop.j0 (k + 1) l s true = some (Th.dropPg S65.f0 S65.f1 S53.f0 S53.mk z65 z53 l s) := by
    intro h
    unfold Th.dropPg
    rw [spec_PagesDrop.j0, if_pos rfl, if_neg (fun h' => h ⟨h'.1, h'.2.1⟩)]
  unfold spec_PagesDrop.f
  rw [spec_PagesValid_eq l _ hl (by omega), Option.bind_some]
  by_cases h : Th.pgv S65.f0 S65.f1 S53.f0 l = true
  · have hP := (Th.pgv_iff _ _ _ _).1 h
    obtain ⟨g1, g2, g3⟩ := sm_of l hP
    rw [if_pos h, spec_KeyValid_eq s _ (by omega), Option.bind_some]
    by_cases hs : Th.kv s = true
    · rw [hs, spec_PagesDrop.j0, if_neg (by simp), spec_l6Copy_eq l (by omega) (by omega) k (by omega), Option.bind_some, spec_PageFind_eq l s k hl (by omega), Option.bind_some]
      by_cases hn : l = []
      · have e : Th.findPg S65.f0 S65.f1 S53.f0 z65 l s = -1 := by unfold Th.findPg; rw [if_neg (fun h' => h'.2.2 hn)]
        unfold Th.dropPg
        rw [e, if_pos (by omega), if_neg (fun h' => h'.2.2 hn), hn]
      · have q1 := Th.lastPg_in S65.f0 S53.f0 z65 s l hn
        have q2 := find_at' l s hP hs hn
        unfold Th.dropPg
        rw [if_pos (show Th.pgv S65.f0 S65.f1 S53.f0 l = true ∧ Th.kv s = true ∧ l ≠ [] from ⟨h, hs, hn⟩)]
        generalize Th.lastPg S65.f0 S53.f0 z65 s l 0 0 = q at q1 q2 ⊢
        rw [q2, if_neg (by omega), if_pos (by omega), if_pos (by omega), show rd_T53 l (q : Int) = l.getD q z53 from rfl, spec_PairDrop_eq _ _ k (by omega), Option.bind_some]
        have hd := Th.dropP_len S65.f0 S65.f1 (l.getD q z53).f0 s
        by_cases c : (Th.dropP S65.f0 S65.f1 (l.getD q z53).f0 s).2 = true
        · rw [if_pos c, if_pos c, if_pos (by omega), Int.toNat_natCast, spec_l6Mend_eq (l.set q ⟨(Th.dropP S65.f0 S65.f1 (l.getD q z53).f0 s).1⟩) q k (by rw [List.length_set]; omega) (fun p hp => by
            rcases List.mem_or_eq_of_mem_set hp with h | h
            · have := g3 p h; omega
            · rw [h]; exact hd) (by rw [List.length_set]; omega) (by omega)]
          rfl
        · rw [if_neg c, if_neg c]
    · rw [show (!Th.kv s) = true by simpa using hs]; exact no (fun h' => hs h'.2)
  · rw [if_neg h]; exact no (fun h' => h h'.1)
theorem spec_PagesDrop_ok (l : List S53) (s : ByteArray) (k : Nat) (hl : l.length ≤ 1048576) (hk : l.length + 6000 ≤ k) : ∃ r, spec_PagesDrop.f k l s = some r ∧ Sm r.1 := ⟨_, spec_PagesDrop_eq l s k hl hk, Th.dropPg_small _ _ _ _ (fun _ => rfl) _ _ (by show ([] : List S65).length ≤ 48; simp) l s⟩
theorem laws_szPair_le (a : ByteArray) (v n : Int) (ha : a.size ≤ maxLen) (h0 : 0 ≤ n) (hn : n ≤ 1048576) : ∃ t, laws_szPair.f a v n = some t ∧ t ≤ 1048576 := by
  simp only [maxLen] at ha
  unfold laws_szPair.f
  rw [Th.wrap_small (by omega) (by omega)]
  by_cases h : n - (a.size : Int) < 0
  · rw [if_pos h]; exact ⟨_, rfl, by omega⟩
  · rw [if_neg h]; exact ⟨_, rfl, by omega⟩
theorem laws_szPairS_l0 (l : List S90) (hl : l.length ≤ maxLen) (hw : ∀ a ∈ l, a.f0.size ≤ maxLen) : ∀ (d i : Nat) (n : Int), i + d = l.length → 0 ≤ n → n ≤ 1048576 → ∃ t, t ≤ 1048576 ∧ ∀ k, d < k → laws_szPairS.l0 k l n (i : Int) = some t
  | 0, i, n, h, h0, hn => by
    refine ⟨n, hn, fun k hk => ?_⟩
    obtain ⟨k, rfl⟩ : ∃ m, k = m + 1 := ⟨k - 1, by omega⟩
    rw [laws_szPairS.l0, if_neg (by omega)]
  | d + 1, i, n, h, h0, hn => by
    simp only [maxLen] at hl
    have hi : i < l.length := by omega
    obtain ⟨t, ht, ht1⟩ := laws_szPair_le (l.getD i z90).f0 (l.getD i z90).f1 n (hw _ (Th.getD_mem _ l i hi)) h0 hn
    have step : ∀ k, laws_szPairS.l0 (k + 1) l n (i : Int) = if t < 0 then some (-1) else laws_szPairS.l0 k l t ((i + 1 : Nat) : Int) := by
      intro k
      rw [laws_szPairS.l0, if_pos (by omega), if_pos (by omega), show rd_T90 l (i : Int) = l.getD i z90 from rfl, ht, Option.bind_some, Th.wrap_small (by omega) (by omega)]
      rfl
    by_cases hn' : t < 0
    · refine ⟨-1, by omega, fun k hk => ?_⟩
      obtain ⟨k, rfl⟩ : ∃ m, k = m + 1 := ⟨k - 1, by omega⟩
      rw [step, if_pos hn']
    · obtain ⟨t2, ht2, hk2⟩ := laws_szPairS_l0 l hl hw d (i + 1) t (by omega) (by omega) ht1
      refine ⟨t2, ht2, fun k hk => ?_⟩
      obtain ⟨k, rfl⟩ : ∃ m, k = m + 1 := ⟨k - 1, by omega⟩
      rw [step, if_neg hn', hk2 k (by omega)]
theorem laws_szPairS_tot (l : List S90) (n : Int) (h0 : 0 ≤ n) (hn : n ≤ 1048576) (hw : l.length ≤ maxLen ∧ ∀ a ∈ l, a.f0.size ≤ maxLen ∧ (Lit.int .i64 a.f1).wf = true) : ∃ t, t ≤ 1048576 ∧ (0 ≤ t → l.length ≤ 1048576) ∧ ∀ k, l.length + 2 ≤ k → laws_szPairS.f k l n = some t := by
  have hl := hw.1
  simp only [maxLen] at hl
  unfold laws_szPairS.f
  rw [Th.wrap_small (by omega) (by omega)]
  by_cases h : n - (l.length : Int) < 0
  · simp only [if_pos h]
    exact ⟨-1, by omega, by omega, fun _ _ => rfl⟩
  · simp only [if_neg h]
    obtain ⟨t, ht, hk⟩ := laws_szPairS_l0 l hw.1 (fun a ha => (hw.2 a ha).1) l.length 0 (n - (l.length : Int)) (by omega) (by omega) (by omega)
    exact ⟨t, ht, fun _ => by omega, fun k h => hk k (by omega)⟩
theorem laws_szPair_le2 (a : ByteArray) (v n : Int) (ha : a.size ≤ maxLen) (h0 : 0 ≤ n) (hn : n ≤ 1048576) : ∃ t, laws_szPair.f a v n = some t ∧ t ≤ n := by
  simp only [maxLen] at ha
  unfold laws_szPair.f
  rw [Th.wrap_small (by omega) (by omega)]
  by_cases h : n - (a.size : Int) < 0
  · rw [if_pos h]; exact ⟨_, rfl, by omega⟩
  · rw [if_neg h]; exact ⟨_, rfl, by omega⟩
theorem laws_szPairS_l02 (l : List S90) (hl : l.length ≤ maxLen) (hw : ∀ a ∈ l, a.f0.size ≤ maxLen) : ∀ (d i : Nat) (n : Int), i + d = l.length → 0 ≤ n → n ≤ 1048576 → ∃ t, t ≤ n ∧ ∀ k, d < k → laws_szPairS.l0 k l n (i : Int) = some t
  | 0, i, n, h, h0, hn => by
    refine ⟨n, Int.le_refl _, fun k hk => ?_⟩
    obtain ⟨k, rfl⟩ : ∃ m, k = m + 1 := ⟨k - 1, by omega⟩
    rw [laws_szPairS.l0, if_neg (by omega)]
  | d + 1, i, n, h, h0, hn => by
    simp only [maxLen] at hl
    have hi : i < l.length := by omega
    obtain ⟨t, ht, ht1⟩ := laws_szPair_le2 (l.getD i z90).f0 (l.getD i z90).f1 n (hw _ (Th.getD_mem _ l i hi)) h0 hn
    have step : ∀ k, laws_szPairS.l0 (k + 1) l n (i : Int) = if t < 0 then some (-1) else laws_szPairS.l0 k l t ((i + 1 : Nat) : Int) := by
      intro k
      rw [laws_szPairS.l0, if_pos (by omega), if_pos (by omega), show rd_T90 l (i : Int) = l.getD i z90 from rfl, ht, Option.bind_some, Th.wrap_small (by omega) (by omega)]
      rfl
    by_cases hn' : t < 0
    · refine ⟨-1, by omega, fun k hk => ?_⟩
      obtain ⟨k, rfl⟩ : ∃ m, k = m + 1 := ⟨k - 1, by omega⟩
      rw [step, if_pos hn']
    · obtain ⟨t2, ht2, hk2⟩ := laws_szPairS_l02 l hl hw d (i + 1) t (by omega) (by omega) (by omega)
      refine ⟨t2, by omega, fun k hk => ?_⟩
      obtain ⟨k, rfl⟩ : ∃ m, k = m + 1 := ⟨k - 1, by omega⟩
      rw [step, if_neg hn', hk2 k (by omega)]
theorem laws_szPairS_tot2 (l : List S90) (n : Int) (h0 : 0 ≤ n) (hn : n ≤ 1048576) (hw : l.length ≤ maxLen ∧ ∀ a ∈ l, a.f0.size ≤ maxLen ∧ (Lit.int .i64 a.f1).wf = true) : ∃ t, t ≤ n ∧ (0 ≤ t → t + l.length ≤ n) ∧ ∀ k, l.length + 2 ≤ k → laws_szPairS.f k l n = some t := by
  have hl := hw.1
  simp only [maxLen] at hl
  unfold laws_szPairS.f
  rw [Th.wrap_small (by omega) (by omega)]
  by_cases h : n - (l.length : Int) < 0
  · simp only [if_pos h]
    exact ⟨-1, by omega, by omega, fun _ _ => rfl⟩
  · simp only [if_neg h]
    obtain ⟨t, ht, hk⟩ := laws_szPairS_l02 l hw.1 (fun a ha => (hw.2 a ha).1) l.length 0 (n - (l.length : Int)) (by omega) (by omega) (by omega)
    exact ⟨t, by omega, fun _ => by omega, fun k h => hk k (by omega)⟩
theorem laws_szPage_tot (l : List S90) (n : Int) (h0 : 0 ≤ n) (hn : n ≤ 1048576) (hw : l.length ≤ maxLen ∧ ∀ a ∈ l, a.f0.size ≤ maxLen ∧ (Lit.int .i64 a.f1).wf = true) : ∃ t, t ≤ n ∧ (0 ≤ t → t + l.length ≤ n) ∧ ∀ k, l.length + 2 ≤ k → laws_szPage.f k l n = some t := by
  obtain ⟨t, h1, h2, h3⟩ := laws_szPairS_tot2 l n h0 hn hw
  by_cases c : t < 0
  · refine ⟨-1, by omega, by omega, fun k hk => ?_⟩
    unfold laws_szPage.f
    rw [h3 k hk, Option.bind_some, if_pos c]
  · refine ⟨t, h1, h2, fun k hk => ?_⟩
    unfold laws_szPage.f
    rw [h3 k hk, Option.bind_some, if_neg c]
def okW (l : List S47) : Prop := ∀ a ∈ l, (a.f0.length ≤ maxLen ∧ ∀ b ∈ a.f0, b.f0.size ≤ maxLen ∧ (Lit.int .i64 b.f1).wf = true)
theorem laws_szPageS_l0 (l : List S47) (hl : l.length ≤ maxLen) (hw : okW l) : ∀ (d i : Nat) (n : Int), i + d = l.length → 0 ≤ n → n ≤ 1048576 → ∃ t, t ≤ n ∧ (0 ≤ t → t + (Th.cat S47.f0 (l.drop i)).length ≤ n) ∧ ∀ k, d + (Th.cat S47.f0 l).length + 2 ≤ k → laws_szPageS.l0 k l n (i : Int) = some t
  | 0, i, n, h, h0, hn => by
    refine ⟨n, Int.le_refl _, fun _ => by rw [List.drop_of_length_le (by omega)]; simp [Th.cat], fun k hk => ?_⟩
    obtain ⟨k, rfl⟩ : ∃ m, k = m + 1 := ⟨k - 1, by omega⟩
    rw [laws_szPageS.l0, if_neg (by omega)]
  | d + 1, i, n, h, h0, hn => by
    simp only [maxLen] at hl
    have hi : i < l.length := by omega
    have hm := Th.getD_mem z47 l i hi
    have hc := Th.cat_mem S47.f0 l _ hm
    obtain ⟨t, ht1, ht2, ht⟩ := laws_szPage_tot (l.getD i z47).f0 n h0 hn (hw _ hm)
    have hd := Th.cat_drop S47.f0 z47 l i hi
    have step : ∀ k, (l.getD i z47).f0.length + 2 ≤ k → laws_szPageS.l0 (k + 1) l n (i : Int) = if t < 0 then some (-1) else laws_szPageS.l0 k l t ((i + 1 : Nat) : Int) := by
      intro k hk
      rw [laws_szPageS.l0, if_pos (by omega), if_pos (by omega), show rd_T47 l (i : Int) = l.getD i z47 from rfl, ht k hk, Option.bind_some, Th.wrap_small (by omega) (by omega)]
      rfl
    by_cases hn' : t < 0
    · refine ⟨-1, by omega, by omega, fun k hk => ?_⟩
      obtain ⟨k, rfl⟩ : ∃ m, k = m + 1 := ⟨k - 1, by omega⟩
      rw [step k (by omega), if_pos hn']
    · obtain ⟨t2, h1, h2, hk2⟩ := laws_szPageS_l0 l hl hw d (i + 1) t (by omega) (by omega) (by omega)
      refine ⟨t2, by omega, fun h3 => ?_, fun k hk => ?_⟩
      · have := h2 h3
        have := ht2 (by omega)
        rw [hd, List.length_append]
        omega
      · obtain ⟨k, rfl⟩ : ∃ m, k = m + 1 := ⟨k - 1, by omega⟩
        rw [step k (by omega), if_neg hn', hk2 k (by omega)]
theorem laws_szPageS_tot (l : List S47) (hw : l.length ≤ maxLen ∧ okW l) : ∃ t, (0 ≤ t → l.length ≤ 1048576 ∧ (Th.cat S47.f0 l).length ≤ 1048576) ∧ ∀ k, l.length + (Th.cat S47.f0 l).length + 5 ≤ k → laws_szPageS.f k l 1048576 = some t := by
  have hl := hw.1
  simp only [maxLen] at hl
  unfold laws_szPageS.f
  rw [Th.wrap_small (by omega) (by omega)]
  by_cases h : (1048576 : Int) - (l.length : Int) < 0
  · simp only [if_pos h]
    exact ⟨-1, by omega, fun _ _ => rfl⟩
  · simp only [if_neg h]
    obtain ⟨t, ht, h2, hk⟩ := laws_szPageS_l0 l hw.1 hw.2 l.length 0 (1048576 - (l.length : Int)) (by omega) (by omega) (by omega)
    rw [List.drop_zero] at h2
    exact ⟨t, fun h3 => by have := h2 h3; omega, fun k h => hk k (by omega)⟩
def toP (x : S90) : S65 := ⟨x.f0, x.f1⟩
theorem laws_toPairS_l0 (l : List S90) (hl : l.length ≤ 1048576) : ∀ (d i k : Nat) (o : List S65), i + d = l.length → d < k → o.length = l.length → o.take i = (l.take i).map toP → laws_toPairS.l0 k l o (i : Int) = some (l.map toP)
  | _, _, 0, _, _, h, _, _ => by omega
  | 0, i, k + 1, o, h, _, ho, ht => by
    rw [laws_toPairS.l0, if_neg (by omega)]
    rw [List.take_of_length_le (by omega), List.take_of_length_le (by omega)] at ht
    rw [ht]
  | d + 1, i, k + 1, o, h, hk, ho, ht => by
    have hi : i < l.length := by omega
    have ih := laws_toPairS_l0 l hl d (i + 1) k (o.set i (toP (l.getD i z90))) (by omega) (by omega) (by rw [List.length_set]; exact ho) (by
      rw [Th.take_set_succ _ _ _ (by omega), ht, List.take_succ_eq_append_getElem hi, List.map_append, Th.getD_at _ l i hi]; rfl)
    rw [laws_toPairS.l0, if_pos (by omega), if_pos (by omega), show rd_T90 l (i : Int) = l.getD i z90 from rfl]
    simp only [laws_toPair.f, Option.bind_some]
    rw [if_pos (by omega), Th.wrap_small (by omega) (by omega)]
    exact ih
theorem laws_toPairS_eq (l : List S90) (hl : l.length ≤ 1048576) (k : Nat) (hk : l.length + 2 ≤ k) : laws_toPairS.f k l = some (l.map toP) := by
  unfold laws_toPairS.f
  rw [if_pos (by omega), if_pos (by rw [Int.toNat_natCast]; omega)]
  exact laws_toPairS_l0 l hl l.length 0 k _ (by omega) (by omega) (by simp) (by simp)
def toPg (x : S47) : S53 := ⟨x.f0.map toP⟩
theorem cat_toPg : ∀ (l : List S47), (Th.cat S53.f0 (l.map toPg)).length = (Th.cat S47.f0 l).length
  | [] => rfl
  | p :: l => by
    have ih := cat_toPg l
    show (p.f0.map toP ++ Th.cat S53.f0 (l.map toPg)).length = (p.f0 ++ Th.cat S47.f0 l).length
    rw [List.length_append, List.length_append, List.length_map, ih]
theorem laws_toPageS_l0 (l : List S47) (hl : l.length ≤ 1048576) (hc : (Th.cat S47.f0 l).length ≤ 1048576) : ∀ (d i k : Nat) (o : List S53), i + d = l.length → d + (Th.cat S47.f0 l).length + 2 < k → o.length = l.length → o.take i = (l.take i).map toPg → laws_toPageS.l0 k l o (i : Int) = some (l.map toPg)
  | _, _, 0, _, _, h, _, _ => by omega
  | 0, i, k + 1, o, h, _, ho, ht => by
    rw [laws_toPageS.l0, if_neg (by omega)]
    rw [List.take_of_length_le (by omega), List.take_of_length_le (by omega)] at ht
    rw [ht]
  | d + 1, i, k + 1, o, h, hk, ho, ht => by
    have hi : i < l.length := by omega
    have hm := Th.cat_mem S47.f0 l _ (Th.getD_mem z47 l i hi)
    have ih := laws_toPageS_l0 l hl hc d (i + 1) k (o.set i (toPg (l.getD i z47))) (by omega) (by omega) (by rw [List.length_set]; exact ho) (by
      rw [Th.take_set_succ _ _ _ (by omega), ht, List.take_succ_eq_append_getElem hi, List.map_append, Th.getD_at _ l i hi]; rfl)
    rw [laws_toPageS.l0, if_pos (by omega), if_pos (by omega), show rd_T47 l (i : Int) = l.getD i z47 from rfl]
    unfold laws_toPage.f
    rw [laws_toPairS_eq _ (by omega) k (by omega), Option.bind_some, Option.bind_some, if_pos (by omega), Th.wrap_small (by omega) (by omega)]
    exact ih
theorem laws_toPageS_eq (l : List S47) (hl : l.length ≤ 1048576) (hc : (Th.cat S47.f0 l).length ≤ 1048576) (k : Nat) (hk : l.length + (Th.cat S47.f0 l).length + 5 ≤ k) : laws_toPageS.f k l = some (l.map toPg) := by
  unfold laws_toPageS.f
  rw [if_pos (by omega), if_pos (by rw [Int.toNat_natCast]; omega)]
  exact laws_toPageS_l0 l hl hc l.length 0 k _ (by omega) (by omega) (by simp) (by simp)
theorem impl_allPairs_l0 (l : List S53) (hl : l.length ≤ 4294967296) (hc : (Th.cat S53.f0 l).length ≤ 4294967296) : ∀ (d i k : Nat), i + d = l.length → d < k → impl_allPairs.l0 k (Th.cat S53.f0 (l.take i)) l (l.length : Int) (i : Int) = some (Th.cat S53.f0 l)
  | _, _, 0, _, h => by omega
  | 0, i, k + 1, h, _ => by rw [impl_allPairs.l0, if_neg (by omega), List.take_of_length_le (by omega)]
  | d + 1, i, k + 1, h, hk => by
    have hi : i < l.length := by omega
    have hw : wrap64 ((i : Int) + 1) = ((i + 1 : Nat) : Int) := by rw [Th.wrap_small (by omega) (by omega)]; omega
    have hm := Th.cat_mem S53.f0 l _ (Th.getD_mem z53 l i hi)
    have ht := Th.cat_len_take S53.f0 l i
    have ih := impl_allPairs_l0 l hl hc d (i + 1) k (by omega) (by omega)
    rw [Th.cat_take S53.f0 z53 l i hi] at ih
    rw [impl_allPairs.l0, if_pos (by omega), if_pos (by omega), if_pos (by omega), show rd_T53 l (i : Int) = l.getD i z53 from rfl, if_pos (by omega), hw]
    exact ih
theorem impl_allPairs_eq (l : List S53) (k : Nat) (hl : l.length ≤ 4294967296) (hc : (Th.cat S53.f0 l).length ≤ 4294967296) (hk : l.length + 2 ≤ k) : impl_allPairs.f k l = some (Th.cat S53.f0 l) := by
  unfold impl_allPairs.f
  exact impl_allPairs_l0 l hl hc l.length 0 k (by omega) (by omega)
theorem impl_lettersOnly_eq : ∀ (l : List UInt8) (k : Nat), l.length < k → impl_lettersOnly.f k (Th.mkS l) = some (l.all Th.letter)
  | _, 0, h => by omega
  | [], k + 1, _ => by
    rw [impl_lettersOnly.f, if_pos (Th.toList_mkS [])]
    rfl
  | c :: l, k + 1, h => by
    have ih := impl_lettersOnly_eq l k (by simpa using h)
    have hs : (0 : Int) < ((Th.mkS (c :: l)).size : Int) := by rw [Th.size_mkS, List.length_cons]; omega
    have hx : (Th.mkS (c :: l)).extract 1 (Th.mkS (c :: l)).size = Th.mkS l := by rw [Th.extract_mkS, Th.size_mkS, List.take_length]; rfl
    have hs1 : (1 : Int) ≤ ((Th.mkS (c :: l)).size : Int) := by omega
    rw [impl_lettersOnly.f, if_neg (by rw [Th.toList_mkS]; simp), if_pos hs, if_pos hs1, hx, ih, Th.bt_zero]
    simp only [Option.bind_some, List.all_cons, Th.letter]
    by_cases h1 : (c.toNat : Int) ≥ 97
    · rw [if_pos h1, decide_eq_true (show 97 ≤ (c.toNat : Int) from h1)]
      by_cases h2 : (c.toNat : Int) ≤ 122
      · rw [if_pos h2, decide_eq_true h2]; rfl
      · rw [if_neg h2, decide_eq_false h2]; rfl
    · rw [if_neg h1, decide_eq_false (show ¬ 97 ≤ (c.toNat : Int) from h1)]; rfl
theorem impl_KeyValid_eq (s : ByteArray) (k : Nat) (hk : 1000 ≤ k) : impl_KeyValid.f k s = some (Th.kv s) := by
  obtain ⟨l, rfl⟩ := Th.mkS_surj s
  unfold impl_KeyValid.f Th.kv Th.kvL
  rw [Th.toList_mkS, Th.size_mkS]
  by_cases h1 : (l.length : Int) < 1
  · rw [if_pos h1, decide_eq_false (show ¬ 1 ≤ l.length by omega)]; rfl
  · rw [if_neg h1, decide_eq_true (show 1 ≤ l.length by omega)]
    by_cases h2 : (l.length : Int) > 4
    · rw [if_pos h2, decide_eq_false (show ¬ l.length ≤ 4 by omega)]; rfl
    · rw [if_neg h2, decide_eq_true (show l.length ≤ 4 by omega), impl_lettersOnly_eq l k (by omega)]; rfl
theorem impl_valueValid_eq (v : Int) : impl_valueValid.f v = some (decide (0 ≤ v ∧ v ≤ 999)) := by
  unfold impl_valueValid.f
  by_cases h : v ≥ 0
  · rw [if_pos h]; congr 1; simp [show 0 ≤ v from h]
  · rw [if_neg h]; congr 1; simp [show ¬ 0 ≤ v from h]
theorem impl_PairsValid_l0 (l : List S65) (hl : l.length ≤ 48) : ∀ (d i k : Nat), i + d = l.length → 2 * d + 1001 ≤ k → ∃ b, impl_PairsValid.l0 k l l (l.length : Int) (i : Int) = some b ∧ (b = true ↔ ∀ j, i ≤ j → j < l.length → Th.stepOk S65.f0 S65.f1 z65 l j)
  | _, _, 0, _, h => by omega
  | 0, i, k + 1, h, _ => by
    rw [impl_PairsValid.l0, if_neg (by omega)]
    exact ⟨true, rfl, fun _ j h1 h2 => by omega, fun _ => rfl⟩
  | d + 1, i, 1, h, hk => by omega
  | d + 1, i, k + 2, h, hk => by
    have hi : i < l.length := by omega
    obtain ⟨b, hb, hb2⟩ := impl_PairsValid_l0 l hl d (i + 1) k (by omega) (by omega)
    have hw : wrap64 ((i : Int) + 1) = ((i + 1 : Nat) : Int) := by rw [Th.wrap_small (by omega) (by omega)]; omega
    have no : ¬ Th.stepOk S65.f0 S65.f1 z65 l i → ∃ b, some false = some b ∧ (b = true ↔ ∀ j, i ≤ j → j < l.length → Th.stepOk S65.f0 S65.f1 z65 l j) :=
      fun hn => ⟨false, rfl, fun h => (by cases h), fun h => absurd (h i (Nat.le_refl _) hi) hn⟩
    have go : Th.stepOk S65.f0 S65.f1 z65 l i → ∃ b', some b = some b' ∧ (b' = true ↔ ∀ j, i ≤ j → j < l.length → Th.stepOk S65.f0 S65.f1 z65 l j) :=
      fun hn => ⟨b, rfl, hb2.trans (Th.all_from hi hn)⟩
    rw [impl_PairsValid.l0, if_pos (by omega), if_pos (by omega), if_pos (by omega), show rd_T65 l (i : Int) = l.getD i z65 from rfl, impl_KeyValid_eq _ (k + 1) (by omega), Option.bind_some]
    by_cases h1 : Th.kv (l.getD i z65).f0 = true
    · rw [if_pos h1, impl_valueValid_eq, Option.bind_some, impl_PairsValid.j1]
      by_cases h2 : 0 ≤ (l.getD i z65).f1 ∧ (l.getD i z65).f1 ≤ 999
      · rw [decide_eq_true h2, if_neg (by simp)]
        by_cases h0 : 0 < i
        · have hp : wrap64 ((i : Int) - 1) = ((i - 1 : Nat) : Int) := by rw [Th.wrap_small (by omega) (by omega)]; omega
          rw [if_pos (by omega), hp, if_pos (by omega), if_pos (by omega), show rd_T65 l ((i - 1 : Nat) : Int) = l.getD (i - 1) z65 from rfl, hw, hb]
          by_cases c1 : Th.lt (l.getD (i - 1) z65).f0 (l.getD i z65).f0
          · rw [if_pos c1]; exact go ⟨⟨h1, h2⟩, fun _ => c1⟩
          · rw [if_neg c1]; exact no (fun hs => c1 (hs.2 h0))
        · rw [if_neg (by omega), hw, hb]
          exact go ⟨⟨h1, h2⟩, fun h => absurd h h0⟩
      · rw [decide_eq_false h2, if_pos (by rfl)]
        exact no (fun hs => h2 hs.1.2)
    · rw [if_neg h1, impl_PairsValid.j1, if_pos rfl]
      exact no (fun hs => h1 hs.1.1)
theorem impl_PairsValid_eq (l : List S65) (k : Nat) (hk : 2000 ≤ k) : impl_PairsValid.f k l = some (Th.pv S65.f0 S65.f1 l) := by
  unfold impl_PairsValid.f
  by_cases h : (l.length : Int) > 48
  · rw [if_pos h]
    congr 1
    symm
    rw [Bool.eq_false_iff]
    intro hp
    have := ((Th.pv_iff _ _ l).1 hp).1
    omega
  · rw [if_neg h]
    obtain ⟨b, hb, hb2⟩ := impl_PairsValid_l0 l (by omega) l.length 0 k (by omega) (by omega)
    rw [show ((0 : Nat) : Int) = 0 from rfl] at hb
    rw [hb]
    congr 1
    apply Th.bool_eq
    rw [hb2, Th.pv_iff, Th.pv_steps _ _ z65]
    constructor
    · exact fun h' => ⟨by omega, fun j hj => h' j (by omega) hj⟩
    · exact fun h' j _ hj => h'.2 j hj
theorem impl_PagesValid_l0 (l : List S53) (hl : l.length ≤ 48) : ∀ (d i k : Nat), i + d = l.length → d + 3000 ≤ k → (∀ p ∈ l.take i, Th.okPg S53.f0 l.length p) → impl_PagesValid.l0 k l l (l.length : Int) (i : Int) = some (Th.pgv S65.f0 S65.f1 S53.f0 l)
  | _, _, 0, _, h, _ => by omega
  | 0, i, k + 1, h, hk, ho => by
    rw [List.take_of_length_le (by omega)] at ho
    have hc := Th.cat_le S53.f0 l (fun p hp => (ho p hp).1)
    rw [impl_PagesValid.l0, if_neg (by omega), impl_allPairs_eq l k (by omega) (by omega) (by omega), Option.bind_some, impl_PairsValid_eq _ k (by omega), Option.bind_some]
    congr 1
    apply Th.bool_eq
    rw [Th.pv_iff, Th.pgv_iff]
    exact ⟨fun h => ⟨ho, h⟩, fun h => h.2⟩
  | d + 1, i, k + 1, h, hk, ho => by
    have hi : i < l.length := by omega
    have hm := Th.getD_mem z53 l i hi
    have hw : wrap64 ((i : Int) + 1) = ((i + 1 : Nat) : Int) := by rw [Th.wrap_small (by omega) (by omega)]; omega
    have no : ∀ P : Prop, (Th.PgV S65.f0 S65.f1 S53.f0 l → P) → ¬ P → some false = some (Th.pgv S65.f0 S65.f1 S53.f0 l) := fun P h1 h2 => by
      rw [Th.pgv_no _ _ _ l (fun h => h2 (h1 h))]
    have hs : Th.okPg S53.f0 l.length (l.getD i z53) → impl_PagesValid.l0 k l l (l.length : Int) ((i + 1 : Nat) : Int) = some (Th.pgv S65.f0 S65.f1 S53.f0 l) := by
      intro h2
      refine impl_PagesValid_l0 l hl d (i + 1) k (by omega) (by omega) (fun p hp => ?_)
      rw [List.take_succ_eq_append_getElem hi, ← Th.getD_at z53 l i hi] at hp
      rcases List.mem_append.1 hp with hp | hp
      · exact ho p hp
      · rw [List.mem_singleton.1 hp]; exact h2
    rw [impl_PagesValid.l0, if_pos (by omega), if_pos (by omega), if_pos (by omega), hw, show rd_T53 l (i : Int) = l.getD i z53 from rfl]
    by_cases c0 : (l.length : Int) = 1
    · rw [if_pos c0]
      by_cases c1 : ((l.getD i z53).f0.length : Int) < 1
      · rw [if_pos c1]
        exact no _ (fun h => (h.1 _ hm).2.2) (by omega)
      rw [if_neg c1]
      by_cases c2 : ((l.getD i z53).f0.length : Int) > 4
      · rw [if_pos c2]
        exact no _ (fun h => (h.1 _ hm).1) (by omega)
      rw [if_neg c2]
      exact hs ⟨by omega, fun _ => by omega, by omega⟩
    rw [if_neg c0]
    by_cases c1 : ((l.getD i z53).f0.length : Int) < 2
    · rw [if_pos c1]
      exact no _ (fun h => (h.1 _ hm).2.1) (fun h => by have := h (by omega); omega)
    rw [if_neg c1]
    by_cases c2 : ((l.getD i z53).f0.length : Int) > 4
    · rw [if_pos c2]
      exact no _ (fun h => (h.1 _ hm).1) (by omega)
    rw [if_neg c2]
    exact hs ⟨by omega, fun _ => by omega, by omega⟩
theorem impl_PagesValid_eq (l : List S53) (k : Nat) (hk : 4000 ≤ k) : impl_PagesValid.f k l = some (Th.pgv S65.f0 S65.f1 S53.f0 l) := by
  unfold impl_PagesValid.f
  by_cases h : (l.length : Int) > 48
  · rw [if_pos h, Th.pgv_no _ _ _ l (fun h' => by have := Th.pgv_len _ _ _ l h'; omega)]
  · rw [if_neg h]
    exact impl_PagesValid_l0 l (by omega) l.length 0 k (by omega) (by omega) (by simp)
theorem impl_copyOf_Pair_eq (l : List S65) (hl : l.length ≤ 4294967296) : impl_copyOf_Pair.f l = some l := by
  unfold impl_copyOf_Pair.f
  rw [if_pos (by omega)]
theorem impl_copyPages_l0 (l : List S53) (hl : l.length ≤ 1048576) (hc : (Th.cat S53.f0 l).length ≤ 1048576) : ∀ (d i k : Nat), i + d = l.length → d < k → impl_copyPages.l0 k (l.take i) l (l.length : Int) (i : Int) = some l
  | _, _, 0, _, h => by omega
  | 0, i, k + 1, h, _ => by rw [impl_copyPages.l0, if_neg (by omega), List.take_of_length_le (by omega)]
  | d + 1, i, k + 1, h, hk => by
    have hi : i < l.length := by omega
    have hw : wrap64 ((i : Int) + 1) = ((i + 1 : Nat) : Int) := by rw [Th.wrap_small (by omega) (by omega)]; omega
    have hm := Th.cat_mem S53.f0 l _ (Th.getD_mem z53 l i hi)
    have ih := impl_copyPages_l0 l hl hc d (i + 1) k (by omega) (by omega)
    rw [List.take_succ_eq_append_getElem hi, ← Th.getD_at z53 l i hi] at ih
    rw [impl_copyPages.l0, if_pos (by omega), if_pos (by omega), if_pos (by omega), show rd_T53 l (i : Int) = l.getD i z53 from rfl, impl_copyOf_Pair_eq _ (by omega), Option.bind_some, if_pos (by rw [List.length_take]; omega), hw]
    exact ih
theorem impl_copyPages_eq (l : List S53) (hl : l.length ≤ 1048576) (hc : (Th.cat S53.f0 l).length ≤ 1048576) (k : Nat) (hk : l.length + 2 ≤ k) : impl_copyPages.f k l = some l := by
  unfold impl_copyPages.f
  exact impl_copyPages_l0 l hl hc l.length 0 k (by omega) (by omega)
theorem impl_pageOf_l0 (l : List S53) (s : ByteArray) (h : Th.PgV S65.f0 S65.f1 S53.f0 l) (hs : Th.kv s = true) : ∀ (d i k a : Nat), i + d = l.length → d < k → impl_pageOf.l0 k s (a : Int) l (l.length : Int) (i : Int) = some ((Th.lastPg S65.f0 S53.f0 z65 s (l.drop i) i a : Nat) : Int)
  | _, _, 0, _, _, h => by omega
  | 0, i, k + 1, a, hd, _ => by
    rw [impl_pageOf.l0, if_neg (by omega), List.drop_of_length_le (by omega)]
    rfl
  | d + 1, i, k + 1, a, hd, hk => by
    have hl := Th.pgv_len _ _ _ l h
    have hi : i < l.length := by omega
    have hw : wrap64 ((i : Int) + 1) = ((i + 1 : Nat) : Int) := by rw [Th.wrap_small (by omega) (by omega)]; omega
    have hn := page_ne l h i hi
    have ih := impl_pageOf_l0 l s h hs d (i + 1) k
    rw [impl_pageOf.l0, if_pos (by omega), if_pos (by omega), if_pos (by omega), show rd_T53 l (i : Int) = l.getD i z53 from rfl, if_pos (by omega), show rd_T65 (l.getD i z53).f0 0 = (l.getD i z53).f0.getD 0 z65 from rfl, hw, List.drop_eq_getElem_cons hi, Th.lastPg, ← Th.getD_at z53 l i hi]
    rcases le_cases ((l.getD i z53).f0.getD 0 z65).f0 s hs (page_key l h i hi) with ⟨c1, c2, c3⟩ | ⟨c1, c2⟩
    · rw [if_neg c2, if_neg c3, if_pos c1, ih a (by omega) (by omega)]
    · rw [if_neg c1]
      rcases c2 with c2 | c2
      · rw [if_pos c2, ih i (by omega) (by omega)]
      · rw [if_pos c2, ih i (by omega) (by omega)]
        by_cases c3 : Op.bytesLess ((l.getD i z53).f0.getD 0 z65).f0.toList s.toList = true
        · rw [if_pos c3]
        · rw [if_neg c3]
theorem impl_pageOf_eq (l : List S53) (s : ByteArray) (k : Nat) (h : Th.PgV S65.f0 S65.f1 S53.f0 l) (hs : Th.kv s = true) (hk : 100 ≤ k) : impl_pageOf.f k l s = some ((Th.lastPg S65.f0 S53.f0 z65 s l 0 0 : Nat) : Int) := by
  have hl := Th.pgv_len _ _ _ l h
  have := impl_pageOf_l0 l s h hs l.length 0 k 0 (by omega) (by omega)
  rw [List.drop_zero, show ((0 : Nat) : Int) = 0 from rfl] at this
  unfold impl_pageOf.f
  exact this
theorem impl_pairPlace_neg (a b : ByteArray) : impl_pairPlace.cs a b < 0 ↔ Th.lt a b := by
  unfold impl_pairPlace.cs
  by_cases h : Op.bytesLess a.toList b.toList = true
  · rw [if_pos h]; exact ⟨fun _ => h, fun _ => by omega⟩
  · rw [if_neg h]
    refine ⟨fun h' => ?_, fun h' => absurd h' h⟩
    by_cases e : a.toList = b.toList
    · rw [if_pos e] at h'; omega
    · rw [if_neg e] at h'; omega
theorem impl_pairPlace_zero (a b : ByteArray) : impl_pairPlace.cs a b = 0 ↔ a = b := by
  unfold impl_pairPlace.cs
  by_cases h : Op.bytesLess a.toList b.toList = true
  · rw [if_pos h]
    refine ⟨fun h' => by omega, fun h' => ?_⟩
    subst h'
    rw [Th.bl_irrefl] at h; cases h
  · rw [if_neg h]
    by_cases e : a.toList = b.toList
    · rw [if_pos e]; exact ⟨fun _ => Th.str_ext e, fun _ => rfl⟩
    · rw [if_neg e]; exact ⟨fun h' => by omega, fun h' => absurd (congrArg ByteArray.toList h') e⟩
theorem impl_pairPlace_bs (l : List S65) (s : ByteArray) (ha : Th.Asc S65.f0 l) : ∀ (f lo hi : Nat), hi - lo < f → lo ≤ hi → hi ≤ l.length → (∀ j, j < lo → Th.lt (l.getD j z65).f0 s) → (∀ j, hi ≤ j → j < l.length → ¬ Th.lt (l.getD j z65).f0 s) →
    impl_pairPlace.bs l s f lo hi = some (((Th.place S65.f0 l s : Nat) : Int), Th.foundAt S65.f0 l s)
  | 0, _, _, h, _, _, _, _ => by omega
  | f + 1, lo, hi, hf, h1, h2, hb, hr => by
    rw [impl_pairPlace.bs]
    by_cases c : lo < hi
    · rw [if_pos c, show rd_T65 l (((lo + hi) / 2 : Nat) : Int) = l.getD ((lo + hi) / 2) z65 from rfl]
      by_cases e : Th.lt (l.getD ((lo + hi) / 2) z65).f0 s
      · rw [if_pos ((impl_pairPlace_neg _ _).2 e)]
        refine impl_pairPlace_bs l s ha f _ hi (by omega) (by omega) h2 (fun j hj => ?_) hr
        rcases Nat.lt_or_ge j ((lo + hi) / 2) with h | h
        · exact Th.lt_trans (Th.asc_lt _ z65 l ha j _ h (by omega)) e
        · rw [show j = (lo + hi) / 2 by omega]; exact e
      · rw [if_neg (fun h => e ((impl_pairPlace_neg _ _).1 h))]
        refine impl_pairPlace_bs l s ha f lo _ (by omega) (by omega) (by omega) hb (fun j hj hj2 h => ?_)
        rcases Nat.eq_or_lt_of_le hj with h' | h'
        · rw [← h'] at h; exact e h
        · exact e (Th.lt_trans (Th.asc_lt _ z65 l ha _ j h' hj2) h)
    · have hlh : hi = lo := by omega
      subst hlh
      have hp : Th.place S65.f0 l s = hi := Th.place_unique _ z65 l s ha hi h2 hb (fun h => hr hi (Nat.le_refl _) h)
      rw [if_neg c, Th.foundAt_getD _ z65, hp]
      by_cases d : hi < l.length
      · rw [if_pos d, decide_eq_true d, Bool.true_and, show rd_T65 l (hi : Int) = l.getD hi z65 from rfl]
        congr 2
        apply Th.bool_eq
        rw [decide_eq_true_eq, decide_eq_true_eq, impl_pairPlace_zero]
      · rw [if_neg d, decide_eq_false d, Bool.false_and]
theorem impl_pairPlace_eq (l : List S65) (s : ByteArray) (h : Th.PV S65.f0 S65.f1 l) : impl_pairPlace.f l s = some (((Th.place S65.f0 l s : Nat) : Int), Th.foundAt S65.f0 l s) := by
  have hl := h.1
  unfold impl_pairPlace.f
  rw [if_pos (by omega)]
  exact impl_pairPlace_bs l s h.2.2 _ 0 _ (by omega) (by omega) (by omega) (fun j hj => by omega) (fun j h1 h2 => by omega)
theorem impl_replaced_Pair_eq (l l3 : List S65) (a b : Nat) (h : a + b ≤ l.length) (hl : l.length + l3.length ≤ 4294967296) : impl_replaced_Pair.f l (a : Int) (b : Int) l3 = some (l.take a ++ l3 ++ l.drop (a + b)) := by
  unfold impl_replaced_Pair.f
  rw [if_pos ⟨by omega, by omega, by omega, by omega⟩, Int.toNat_natCast, show ((a : Int) + (b : Int)).toNat = a + b by omega]
theorem impl_PairDrop_eq (l : List S65) (s : ByteArray) (k : Nat) (hk : 3000 ≤ k) : impl_PairDrop.f k l s = some (Th.dropP S65.f0 S65.f1 l s) := by
  unfold impl_PairDrop.f Th.dropP
  rw [impl_PairsValid_eq l k (by omega), Option.bind_some]
  by_cases h : Th.pv S65.f0 S65.f1 l = true
  · have hP := (Th.pv_iff _ _ l).1 h
    have hl := hP.1
    rw [if_pos h, if_pos h, impl_pairPlace_eq l s hP, Option.bind_some]
    have hf := Th.foundAt_getD S65.f0 z65 l s
    cases c : Th.foundAt S65.f0 l s with
    | false => simp [impl_copyOf_Pair_eq l (show l.length ≤ 4294967296 by omega)]
    | true =>
      rw [c] at hf
      have hlt : Th.place S65.f0 l s < l.length := by
        have := hf.symm
        simp only [Bool.and_eq_true, decide_eq_true_eq] at this
        exact this.1
      have := impl_replaced_Pair_eq l [] (Th.place S65.f0 l s) 1 (by omega) (by simp only [List.length_nil]; omega)
      simp only [if_true]
      rw [show ((1 : Nat) : Int) = 1 from rfl] at this
      rw [this, Option.bind_some, List.append_nil]
  · rw [if_neg h, if_neg h]
theorem impl_replaced_Page_eq (l l3 : List S53) (a b : Nat) (h : a + b ≤ l.length) (hl : l.length + l3.length ≤ 4294967296) : impl_replaced_Page.f l (a : Int) (b : Int) l3 = some (l.take a ++ l3 ++ l.drop (a + b)) := by
  unfold impl_replaced_Page.f
  rw [if_pos ⟨by omega, by omega, by omega, by omega⟩, Int.toNat_natCast, show ((a : Int) + (b : Int)).toNat = a + b by omega]
theorem impl_refilled_two (l : List S53) (i : Nat) (y : List S65) (c : Nat) (hl : l.length ≤ 48) (hi : i + 1 < l.length) (hy : y.length ≤ 96) (hc : c ≤ y.length) (h4 : ¬ y.length ≤ 4) : impl_refilled.two l (i : Int) y (c : Int) = some (Th.twoPg S53.mk l i y c) := by
  unfold impl_refilled.two Th.twoPg
  have := impl_replaced_Page_eq l [(⟨y.take c⟩ : S53), ⟨y.drop c⟩] i 2 (by omega) (by simp only [List.length_cons, List.length_nil]; omega)
  rw [show ((2 : Nat) : Int) = 2 from rfl] at this
  rw [if_pos ⟨by omega, by omega⟩, if_neg h4, Int.toNat_natCast, impl_copyOf_Pair_eq _ (by rw [List.length_take]; omega), Option.bind_some, impl_copyOf_Pair_eq _ (by rw [List.length_drop]; omega), Option.bind_some, this]
theorem impl_refilled_fin (l : List S53) (a i : Nat) (hl : l.length ≤ 48) (hp : ∀ p ∈ l, p.f0.length ≤ 48 ∧ 1 ≤ p.f0.length) (hi : i + 1 < l.length) (ha : a < l.length) (h1 : (l.getD a z53).f0.length = 1) (hia : i = a ∨ i + 1 = a) : impl_refilled.fin l (a : Int) (i : Int) = some (Th.joinPg S53.f0 S53.mk z53 l a i) := by
  have p1 := hp _ (Th.getD_mem z53 l i (by omega))
  have p2 := hp _ (Th.getD_mem z53 l (i + 1) (by omega))
  have hn : ((i : Int) + 1) = ((i + 1 : Nat) : Int) := by omega
  unfold impl_refilled.fin
  rw [hn, show rd_T53 l (i : Int) = l.getD i z53 from rfl, show rd_T53 l ((i + 1 : Nat) : Int) = l.getD (i + 1) z53 from rfl, impl_copyOf_Pair_eq _ (by omega), Option.bind_some, if_pos ⟨rfl, by omega, by omega, by omega⟩]
  unfold Th.joinPg
  have hy : ((l.getD i z53).f0 ++ (l.getD (i + 1) z53).f0).length = (l.getD i z53).f0.length + (l.getD (i + 1) z53).f0.length := List.length_append
  by_cases c : ((l.getD i z53).f0 ++ (l.getD (i + 1) z53).f0).length ≤ 4
  · have := impl_replaced_Page_eq l [(⟨(l.getD i z53).f0 ++ (l.getD (i + 1) z53).f0⟩ : S53)] i 2 (by omega) (by simp only [List.length_cons, List.length_nil]; omega)
    rw [show ((2 : Nat) : Int) = 2 from rfl] at this
    unfold Th.twoPg
    rw [if_pos c, if_pos c, this]
  · rw [if_neg c]
    by_cases d : i = a
    · have e : (l.getD i z53).f0.length = 1 := by rw [d]; exact h1
      rw [if_pos (show (i : Int) = (a : Int) by omega), if_pos d, show ((l.getD i z53).f0.length : Int) + 1 = ((2 : Nat) : Int) by omega]
      exact impl_refilled_two l i _ 2 hl hi (by omega) (by omega) c
    · have e : (l.getD (i + 1) z53).f0.length = 1 := by rw [show i + 1 = a by omega]; exact h1
      rw [if_neg (show ¬ (i : Int) = (a : Int) by omega), if_neg d, show ((l.getD i z53).f0.length : Int) - 1 = ((((l.getD i z53).f0 ++ (l.getD (i + 1) z53).f0).length - 2 : Nat) : Int) by omega]
      exact impl_refilled_two l i _ _ hl hi (by omega) (by omega) c
theorem impl_refilled_eq (l : List S53) (a : Nat) (hl : l.length ≤ 48) (h2 : 2 ≤ l.length) (hp : ∀ p ∈ l, p.f0.length ≤ 48 ∧ 1 ≤ p.f0.length) (ha : a < l.length) (h1 : (l.getD a z53).f0.length = 1) : impl_refilled.f l (a : Int) = some (Th.joinPg S53.f0 S53.mk z53 l a (if a + 1 = l.length then a - 1 else a)) := by
  unfold impl_refilled.f
  rw [if_pos ⟨h2, by omega, by omega, by omega⟩]
  by_cases c : a + 1 = l.length
  · rw [if_pos c, if_pos (show (a : Int) + 1 = (l.length : Int) by omega), show (a : Int) - 1 = ((a - 1 : Nat) : Int) by omega]
    exact impl_refilled_fin l a (a - 1) hl hp (by omega) ha h1 (.inr (by omega))
  · rw [if_neg c, if_neg (show ¬ (a : Int) + 1 = (l.length : Int) by omega)]
    exact impl_refilled_fin l a a hl hp (by omega) ha h1 (.inl rfl)
theorem impl_PagesDrop_eq (l : List S53) (s : ByteArray) (k : Nat) (hk : 6000 ≤ k) : impl_PagesDrop.f k l s = some (Th.dropPg S65.f0 S65.f1 S53.f0 S53.mk z65 z53 l s) := by
  unfold impl_PagesDrop.f Th.dropPg
  rw [impl_PagesValid_eq l k (by omega), Option.bind_some]
  by_cases h : Th.pgv S65.f0 S65.f1 S53.f0 l = true
  · rw [if_pos h, impl_KeyValid_eq s _ (by omega), Option.bind_some]
    by_cases hs : Th.kv s = true
    · have hP := (Th.pgv_iff _ _ _ _).1 h
      obtain ⟨g1, g2, g3⟩ := sm_of l hP
      rw [hs, if_neg (by simp), impl_copyPages_eq l (by omega) (by omega) k (by omega), Option.bind_some]
      by_cases hne : l = []
      · rw [if_pos (by rw [hne]; rfl), if_neg (fun h' => h'.2.2 hne), hne]
      · have hn : ¬ l.length = 0 := fun e => hne (List.eq_nil_of_length_eq_zero e)
        have q1 := Th.lastPg_in S65.f0 S53.f0 z65 s l hne
        rw [if_neg hn, impl_pageOf_eq l s k hP hs (by omega), Option.bind_some, if_pos (show Th.pgv S65.f0 S65.f1 S53.f0 l = true ∧ true = true ∧ l ≠ [] from ⟨h, rfl, hne⟩)]
        generalize Th.lastPg S65.f0 S53.f0 z65 s l 0 0 = q at q1 ⊢
        have hq1 := (hP.1 _ (Th.getD_mem z53 l q q1))
        rw [if_pos ⟨by omega, by omega, rfl⟩, show rd_T53 l (q : Int) = l.getD q z53 from rfl, impl_PairDrop_eq _ _ k (by omega), Option.bind_some, Int.toNat_natCast]
        have one := Th.dropP_one S65.f0 S65.f1 (l.getD q z53).f0 s
        cases c : (Th.dropP S65.f0 S65.f1 (l.getD q z53).f0 s).2 with
        | false => rw [if_pos rfl, if_neg (by simp)]
        | true =>
          have o1 := one c
          rw [if_neg (by simp), if_pos rfl]
          generalize (Th.dropP S65.f0 S65.f1 (l.getD q z53).f0 s).1 = x at o1 ⊢
          have gq : (l.set q (⟨x⟩ : S53)).getD q z53 = ⟨x⟩ := by
            rw [List.getD_eq_getElem?_getD, List.getElem?_set_self q1]
            rfl
          have hL : (l.set q (⟨x⟩ : S53)).length = l.length := List.length_set
          unfold impl_PagesDrop.fin Th.mendPg
          by_cases d : l.length = 1
          · have q0 : q = 0 := by omega
            subst q0
            rw [if_pos d, if_pos (hL.trans d), gq]
            by_cases e : x.length = 0
            · rw [if_pos e, if_pos e]
            · rw [if_neg e, if_neg e]
          · rw [if_neg d, if_neg (show ¬ (l.set q (⟨x⟩ : S53)).length = 1 by omega), gq]
            by_cases e : x.length < 2
            · have h2 := hq1.2.1 (by omega)
              rw [if_pos e, if_neg (show ¬ 2 ≤ x.length by omega), impl_refilled_eq (l.set q (⟨x⟩ : S53)) q (by omega) (by omega) (fun p hp => by
                rcases List.mem_or_eq_of_mem_set hp with h | h
                · have h3 := hP.1 p h
                  exact ⟨by have := h3.1; omega, h3.2.2⟩
                · rw [h]; exact ⟨by show x.length ≤ 48; omega, by show 1 ≤ x.length; omega⟩) (by omega) (by rw [gq]; show x.length = 1; omega), Option.bind_some]
            · rw [if_neg e, if_pos (show 2 ≤ x.length by omega)]
    · rw [show Th.kv s = false by simpa using hs, if_pos rfl, if_neg (fun h' => by simp at h')]
  · rw [if_neg h, Option.bind_some, if_pos rfl, if_neg (fun h' => h h'.1)]
theorem laws_eqPairS_l0 (l : List S65) (hl : l.length ≤ 4294967296) : ∀ (d i k : Nat), i + d = l.length → d < k → laws_eqPairS.l0 k l l (i : Int) = some true
  | _, _, 0, _, h => by omega
  | 0, i, k + 1, h, _ => by rw [laws_eqPairS.l0, if_neg (by omega)]
  | d + 1, i, k + 1, h, hk => by
    have ih := laws_eqPairS_l0 l hl d (i + 1) k (by omega) (by omega)
    rw [laws_eqPairS.l0, if_pos (by omega), if_pos (by omega), if_pos (by omega), Th.wrap_small (by omega) (by omega)]
    simp only [laws_eqPair.f, if_true, Option.bind_some]
    exact ih
theorem laws_eqPairS_refl (l : List S65) (hl : l.length ≤ 4294967296) (k : Nat) (hk : l.length + 2 ≤ k) : laws_eqPairS.f k l l = some true := by
  unfold laws_eqPairS.f
  rw [if_pos rfl]
  exact laws_eqPairS_l0 l hl l.length 0 k (by omega) (by omega)
theorem laws_eqPageS_l0 (l : List S53) (hl : l.length ≤ 1048576) (hc : (Th.cat S53.f0 l).length ≤ 1048576) : ∀ (d i k : Nat), i + d = l.length → d + (Th.cat S53.f0 l).length + 2 < k → laws_eqPageS.l0 k l l (i : Int) = some true
  | _, _, 0, _, h => by omega
  | 0, i, k + 1, h, _ => by rw [laws_eqPageS.l0, if_neg (by omega)]
  | d + 1, i, k + 1, h, hk => by
    have hi : i < l.length := by omega
    have hm := Th.cat_mem S53.f0 l _ (Th.getD_mem z53 l i hi)
    have ih := laws_eqPageS_l0 l hl hc d (i + 1) k (by omega) (by omega)
    rw [laws_eqPageS.l0, if_pos (by omega), if_pos (by omega), if_pos (by omega), show rd_T53 l (i : Int) = l.getD i z53 from rfl, Th.wrap_small (by omega) (by omega)]
    unfold laws_eqPage.f
    rw [laws_eqPairS_refl _ (by omega) k (by omega), Option.bind_some, if_pos rfl, Option.bind_some, if_pos rfl]
    exact ih
theorem laws_eqPageS_refl (l : List S53) (hl : l.length ≤ 1048576) (hc : (Th.cat S53.f0 l).length ≤ 1048576) (k : Nat) (hk : l.length + (Th.cat S53.f0 l).length + 5 ≤ k) : laws_eqPageS.f k l l = some true := by
  unfold laws_eqPageS.f
  rw [if_pos rfl]
  exact laws_eqPageS_l0 l hl hc l.length 0 k (by omega) (by omega)
theorem laws_markText_l0 : ∀ (d : Nat) (n : Int) (s : ByteArray), n < (10 : Int) ^ d → s.size + d ≤ 1000 → ∃ r, ∀ k, d < k → laws_markText.l0 k n s = some r
  | 0, n, s, hn, hs => by
    refine ⟨(⟨#[109]⟩ : ByteArray) ++ s, fun k hk => ?_⟩
    obtain ⟨k, rfl⟩ : ∃ m, k = m + 1 := ⟨k - 1, by omega⟩
    rw [Int.pow_zero] at hn
    rw [laws_markText.l0, if_neg (by omega), if_pos (by omega)]
  | d + 1, n, s, hn, hs => by
    by_cases h : n > 0
    · have h10 : n / 10 < (10 : Int) ^ d := by
        rw [Int.pow_succ] at hn
        exact Int.ediv_lt_of_lt_mul (by omega) hn
      have hsz : ∀ y : List Int, (strOfNums y).size = y.length := strOfNums_size
      obtain ⟨r, hr⟩ := laws_markText_l0 d (n / 10) (strOfNums [(wrap64 (48 + Int.tmod n 10)) % 256] ++ s) h10 (by rw [ByteArray.size_append, hsz]; simp only [List.length_cons, List.length_nil]; omega)
      by_cases hb : n ≤ 9223372036854775807
      · refine ⟨r, fun k hk => ?_⟩
        obtain ⟨k, rfl⟩ : ∃ m, k = m + 1 := ⟨k - 1, by omega⟩
        have e3 : wrap64 (Int.tdiv n 10) = n / 10 := by
          rw [Int.tdiv_eq_ediv_of_nonneg (by omega)]
          exact Th.wrap_small (by omega) (by omega)
        rw [laws_markText.l0, if_pos h, Option.bind_some, if_pos (by rw [hsz]; simp only [List.length_cons, List.length_nil]; omega), e3]
        exact hr k (by omega)
      · obtain ⟨r2, hr2⟩ : ∃ r, ∀ k, d < k → laws_markText.l0 k (wrap64 (Int.tdiv n 10)) (strOfNums [(wrap64 (48 + Int.tmod n 10)) % 256] ++ s) = some r := by
          refine laws_markText_l0 d _ _ ?_ (by rw [ByteArray.size_append, hsz]; simp only [List.length_cons, List.length_nil]; omega)
          rw [Int.tdiv_eq_ediv_of_nonneg (by omega)]
          have : wrap64 (n / 10) ≤ n / 10 := by unfold wrap64; omega
          omega
        refine ⟨r2, fun k hk => ?_⟩
        obtain ⟨k, rfl⟩ : ∃ m, k = m + 1 := ⟨k - 1, by omega⟩
        rw [laws_markText.l0, if_pos h, Option.bind_some, if_pos (by rw [hsz]; simp only [List.length_cons, List.length_nil]; omega)]
        exact hr2 k (by omega)
    · refine ⟨(⟨#[109]⟩ : ByteArray) ++ s, fun k hk => ?_⟩
      obtain ⟨k, rfl⟩ : ∃ m, k = m + 1 := ⟨k - 1, by omega⟩
      rw [laws_markText.l0, if_neg h, if_pos (by omega)]
theorem laws_markText_tot (n : Int) (hn : n < 10 ^ 15) : ∃ r, ∀ k, 1000 ≤ k → laws_markText.f k n = some r := by
  unfold laws_markText.f
  by_cases h : n ≤ 0
  · simp only [if_pos h]
    exact ⟨_, fun _ _ => rfl⟩
  · simp only [if_neg h]
    obtain ⟨r, hr⟩ := laws_markText_l0 15 n (⟨#[]⟩ : ByteArray) hn (by show 0 + 15 ≤ 1000; omega)
    exact ⟨r, fun k hk => hr k (by omega)⟩
/-- the text of a mark -/
noncomputable def mt (n : Int) : ByteArray := if h : n < 10 ^ 15 then Classical.choose (laws_markText_tot n h) else Th.mkS []
theorem laws_markText_eq (n : Int) (k : Nat) (hn : n < 1000000000000000) (hk : 1000 ≤ k) : laws_markText.f k n = some (mt n) := by
  have h : n < 10 ^ 15 := hn
  unfold mt
  rw [dif_pos h]
  exact Classical.choose_spec (laws_markText_tot n h) k hk
theorem laws_markPairS_l0 : ∀ (d i : Nat) (l : List S65) (n : Int), i + d = l.length → l.length ≤ 4294967296 → 0 ≤ n → n + 2 * d ≤ 1099511627776 → ∃ l' : List S65, l'.length = l.length ∧ l'.take i = l.take i ∧
    (∀ k, d + 1001 ≤ k → laws_markPairS.l0 k l n (i : Int) = some (n + 2 * d, l')) ∧ (∀ k, d + 1001 ≤ k → laws_heldPairS.l0 k l' n (i : Int) = some (n + 2 * d))
  | 0, i, l, n, h, hl, h0, hn => by
    refine ⟨l, rfl, rfl, fun k hk => ?_, fun k hk => ?_⟩
    · obtain ⟨k, rfl⟩ : ∃ m, k = m + 1 := ⟨k - 1, by omega⟩
      rw [laws_markPairS.l0, if_neg (by omega)]
      simp
    · obtain ⟨k, rfl⟩ : ∃ m, k = m + 1 := ⟨k - 1, by omega⟩
      rw [laws_heldPairS.l0, if_neg (by omega)]
      simp
  | d + 1, i, l, n, h, hl, h0, hn => by
    have hi : i < l.length := by omega
    have hw : wrap64 ((i : Int) + 1) = ((i + 1 : Nat) : Int) := by rw [Th.wrap_small (by omega) (by omega)]; omega
    have hn1 : wrap64 (n + 1) = n + 1 := Th.wrap_small (by omega) (by omega)
    have hn2 : wrap64 (n + 1 + 1) = n + 2 := by rw [Th.wrap_small (by omega) (by omega)]; omega
    obtain ⟨l', h1, h2, h3, h4⟩ := laws_markPairS_l0 d (i + 1) (l.set i ⟨mt n, n + 1⟩) (n + 2) (by rw [List.length_set]; omega) (by rw [List.length_set]; omega) (by omega) (by omega)
    rw [List.length_set] at h1
    rw [Th.take_set_succ _ _ _ hi] at h2
    have hg : l'.getD i z65 = ⟨mt n, n + 1⟩ := by
      rw [← Th.getD_take _ l' i (i + 1) (by omega), h2]
      exact Th.getD_snoc _ _ _ _ (by rw [List.length_take]; omega)
    have e2 : n + 2 + 2 * (d : Int) = n + 2 * ((d + 1 : Nat) : Int) := by omega
    refine ⟨l', h1, ?_, fun k hk => ?_, fun k hk => ?_⟩
    · have := congrArg (List.take i) h2
      rw [List.take_take, Nat.min_eq_left (by omega), List.take_append_of_le_length (by rw [List.length_take]; omega), List.take_take, Nat.min_self] at this
      exact this
    · obtain ⟨k, rfl⟩ : ∃ m, k = m + 1 := ⟨k - 1, by omega⟩
      have hs : (l.set i ⟨mt n, (l.getD i z65).f1⟩).getD i z65 = ⟨mt n, (l.getD i z65).f1⟩ := by
        rw [Th.getD_at _ _ i (by rw [List.length_set]; exact hi), List.getElem_set_self]
      rw [laws_markPairS.l0, if_pos (by omega), laws_markText_eq n k (by omega) (by omega), Option.bind_some, if_pos (by omega), Option.bind_some, hn1, hn2, hw]
      show laws_markPairS.l0 k ((l.set i ⟨mt n, (l.getD i z65).f1⟩).set i ⟨((l.set i ⟨mt n, (l.getD i z65).f1⟩).getD i z65).f0, n + 1⟩) _ _ = _
      rw [hs, List.set_set, h3 k (by omega), e2]
    · obtain ⟨k, rfl⟩ : ∃ m, k = m + 1 := ⟨k - 1, by omega⟩
      rw [laws_heldPairS.l0, if_pos (by omega), if_pos (by omega), laws_markText_eq n k (by omega) (by omega), Option.bind_some, show rd_T65 l' (i : Int) = l'.getD i z65 from rfl, hg, if_pos rfl, hn1, if_pos rfl, hn2, hw, h4 k (by omega), e2]
theorem laws_markPairS_eq (l : List S65) (n : Int) (hl : l.length ≤ 4294967296) (h0 : 0 ≤ n) (hn : n ≤ 8589934592) : ∃ l' : List S65, l'.length = l.length ∧ (∀ k, l.length + 1001 ≤ k → laws_markPairS.f k l n = some (n + 2 * l.length, l')) ∧ (∀ k, l.length + 1001 ≤ k → laws_heldPairS.f k l' n = some (n + 2 * l.length)) := by
  obtain ⟨l', h1, _, h3, h4⟩ := laws_markPairS_l0 l.length 0 l n (by omega) hl h0 (by omega)
  exact ⟨l', h1, h3, h4⟩
theorem laws_markPageS_l0 (C : Nat) (hC : C ≤ 1048576) : ∀ (d i : Nat) (l : List S53) (n : Int), i + d = l.length → l.length ≤ 1048576 → (Th.cat S53.f0 (l.drop i)).length ≤ C → 0 ≤ n → n + 2 * ((Th.cat S53.f0 (l.drop i)).length : Int) ≤ 8589934592 → ∃ l' : List S53, l'.length = l.length ∧ l'.take i = l.take i ∧
    (∀ k, d + C + 1002 ≤ k → laws_markPageS.l0 k l n (i : Int) = some (n + 2 * ((Th.cat S53.f0 (l.drop i)).length : Int), l')) ∧ (∀ k, d + C + 1002 ≤ k → laws_heldPageS.l0 k l' n (i : Int) = some (n + 2 * ((Th.cat S53.f0 (l.drop i)).length : Int)))
  | 0, i, l, n, h, hl, hc, h0, hn => by
    have e : Th.cat S53.f0 (l.drop i) = [] := by rw [List.drop_of_length_le (by omega)]; rfl
    rw [e]
    refine ⟨l, rfl, rfl, fun k hk => ?_, fun k hk => ?_⟩
    · obtain ⟨k, rfl⟩ : ∃ m, k = m + 1 := ⟨k - 1, by omega⟩
      rw [laws_markPageS.l0, if_neg (by omega)]
      simp
    · obtain ⟨k, rfl⟩ : ∃ m, k = m + 1 := ⟨k - 1, by omega⟩
      rw [laws_heldPageS.l0, if_neg (by omega)]
      simp
  | d + 1, i, l, n, h, hl, hc, h0, hn => by
    have hi : i < l.length := by omega
    have hw : wrap64 ((i : Int) + 1) = ((i + 1 : Nat) : Int) := by rw [Th.wrap_small (by omega) (by omega)]; omega
    rw [Th.cat_drop S53.f0 z53 l i hi, List.length_append] at hc hn ⊢
    obtain ⟨p', hp1, hp2, hp3⟩ := laws_markPairS_eq (l.getD i z53).f0 n (by omega) h0 (by omega)
    have hds : (l.set i (⟨p'⟩ : S53)).drop (i + 1) = l.drop (i + 1) := List.drop_set_of_lt (by omega)
    obtain ⟨l', h1, h2, h3, h4⟩ := laws_markPageS_l0 C hC d (i + 1) (l.set i ⟨p'⟩) (n + 2 * ((l.getD i z53).f0.length : Int)) (by rw [List.length_set]; omega) (by rw [List.length_set]; omega) (by rw [hds]; omega) (by omega) (by rw [hds]; omega)
    rw [hds] at h3 h4
    rw [List.length_set] at h1
    rw [Th.take_set_succ _ _ _ hi] at h2
    have hg : l'.getD i z53 = ⟨p'⟩ := by
      rw [← Th.getD_take _ l' i (i + 1) (by omega), h2]
      exact Th.getD_snoc _ _ _ _ (by rw [List.length_take]; omega)
    have e2 : n + 2 * ((l.getD i z53).f0.length : Int) + 2 * ((Th.cat S53.f0 (l.drop (i + 1))).length : Int) = n + 2 * (((l.getD i z53).f0.length + (Th.cat S53.f0 (l.drop (i + 1))).length : Nat) : Int) := by omega
    refine ⟨l', h1, ?_, fun k hk => ?_, fun k hk => ?_⟩
    · have := congrArg (List.take i) h2
      rw [List.take_take, Nat.min_eq_left (by omega), List.take_append_of_le_length (by rw [List.length_take]; omega), List.take_take, Nat.min_self] at this
      exact this
    · obtain ⟨k, rfl⟩ : ∃ m, k = m + 1 := ⟨k - 1, by omega⟩
      rw [laws_markPageS.l0, if_pos (by omega), if_pos (by omega), show rd_T53 l (i : Int) = l.getD i z53 from rfl, hp2 k (by omega), Option.bind_some, hw]
      show laws_markPageS.l0 k (l.set i ⟨p'⟩) _ _ = _
      rw [h3 k (by omega), e2]
    · obtain ⟨k, rfl⟩ : ∃ m, k = m + 1 := ⟨k - 1, by omega⟩
      rw [laws_heldPageS.l0, if_pos (by omega), if_pos (by omega), show rd_T53 l' (i : Int) = l'.getD i z53 from rfl, hg]
      show (laws_heldPairS.f k p' n).bind _ = _
      rw [hp3 k (by omega), Option.bind_some, if_neg (by omega), hw, h4 k (by omega), e2]
theorem laws_markPageS_eq (l : List S53) (hl : l.length ≤ 1048576) (hc : (Th.cat S53.f0 l).length ≤ 1048576) : ∃ l' : List S53, (∀ k, l.length + (Th.cat S53.f0 l).length + 1002 ≤ k → laws_markPageS.f k l 1 = some (1 + 2 * ((Th.cat S53.f0 l).length : Int), l')) ∧ (∀ k, l.length + (Th.cat S53.f0 l).length + 1002 ≤ k → laws_heldPageS.f k l' 1 = some (1 + 2 * ((Th.cat S53.f0 l).length : Int))) := by
  obtain ⟨l', _, _, h3, h4⟩ := laws_markPageS_l0 _ hc l.length 0 l 1 (by omega) hl (by rw [List.drop_zero]; exact Nat.le_refl _) (by omega) (by rw [List.drop_zero]; omega)
  rw [List.drop_zero] at h3 h4
  exact ⟨l', h3, h4⟩
theorem FnExactPagesDrop : laws_FnExactPagesDrop.Pure := by
  intro l s hw _
  obtain ⟨t, ht, hs⟩ := laws_szPageS_tot l hw
  generalize hM : l.length + (Th.cat S47.f0 l).length + 20000 = M
  refine ⟨M, ?_⟩
  unfold laws_FnExactPagesDrop.f
  by_cases hb : (s.size : Int) > 1048576
  · rw [if_pos hb]
  rw [if_neg hb, hs M (by omega), Option.bind_some]
  by_cases h : t < 0
  · rw [if_pos h]
  obtain ⟨hl, hc⟩ := ht (by omega)
  have e1 := laws_toPageS_eq l hl hc M (by omega)
  have e2 := cat_toPg l
  have e3 : (l.map toPg).length = l.length := List.length_map ..
  generalize l.map toPg = A at *
  have eJ := Th.dropPg_small S65.f0 S65.f1 S53.f0 S53.mk (fun _ => rfl) z65 z53 (by show ([] : List S65).length ≤ 48; simp) A s
  have eS := spec_PagesDrop_eq A s M (by omega) (by omega)
  have eI := impl_PagesDrop_eq A s M (by omega)
  generalize Th.dropPg S65.f0 S65.f1 S53.f0 S53.mk z65 z53 A s = J at *
  have jc := Th.small_cat S53.f0 eJ
  have jl := eJ.1
  obtain ⟨A', a2, _⟩ := laws_markPageS_eq A (by omega) (by omega)
  obtain ⟨J', j2, j3⟩ := laws_markPageS_eq J.1 (by omega) (by omega)
  rw [if_neg h, e1, Option.bind_some, eS, Option.bind_some, eI, Option.bind_some, laws_eqPageS_refl J.1 (by omega) (by omega) M (by omega), Option.bind_some, laws_eqPageS_refl A (by omega) (by omega) M (by omega), Option.bind_some, a2 M (by omega), Option.bind_some, j2 M (by omega), Option.bind_some, j3 M (by omega), Option.bind_some, if_pos ⟨rfl, rfl, by simp only []; omega, by omega, rfl, rfl⟩]

end Go.Proofs.Ytengnnhehjcfhaa.Pure
