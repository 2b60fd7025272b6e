-- Cut by a program of this session (wip/prune.py) from words that the kit's print.sh printed: what nothing of this seat uses is left out.
/- Plain laws of sorted lists of pairs that were changed, cut or joined. -/
import Derived.Test.YtengnnhehjcfhaaThC
namespace Go.Proofs.Ytengnnhehjcfhaa.Th
open Go Go.RowKit Go.Proofs.YtengnnhehjcfhaaW.PrintWords
set_option linter.unusedVariables false
set_option linter.unusedSimpArgs false
section
variable {α : Type} (key : α → ByteArray) (val : α → Int)
theorem asc_split (xs ys : List α) (p : α) (h : Asc key (xs ++ p :: ys)) : (∀ q ∈ xs, lt (key q) (key p)) ∧ (∀ q ∈ ys, lt (key p) (key q)) := by
  obtain ⟨h1, h2, h3⟩ := List.pairwise_append.1 h
  exact ⟨fun q hq => h3 q hq p (by simp), (List.pairwise_cons.1 h2).1⟩
theorem place_cut (l : List α) (s : ByteArray) (ha : Asc key l) : ∃ xs ys, l = xs ++ ys ∧ xs.length = place key l s ∧ (∀ q ∈ xs, lt (key q) s) ∧ (∀ q ∈ ys, ¬ lt (key q) s) := by
  have hl := place_le key l s
  refine ⟨l.take (place key l s), l.drop (place key l s), (List.take_append_drop _ _).symm, by rw [List.length_take]; omega, ?_, ?_⟩
  · intro q hq
    obtain ⟨i, hi, rfl⟩ := List.getElem_of_mem hq
    rw [List.length_take] at hi
    have := place_below key (l[i]'(by omega)) l s i (by omega)
    rw [getD_at _ l i (by omega)] at this
    rw [List.getElem_take]
    exact this
  · intro q hq
    obtain ⟨i, hi, rfl⟩ := List.getElem_of_mem hq
    rw [List.length_drop] at hi
    have := place_from key (l[place key l s + i]'(by omega)) l s ha (place key l s + i) (by omega) (by omega)
    rw [getD_at _ l _ (by omega)] at this
    rw [List.getElem_drop]
    exact this
theorem place_app (xs ys : List α) (s : ByteArray) (hx : ∀ q ∈ xs, lt (key q) s) (hy : ∀ q ∈ ys, ¬ lt (key q) s) : place key (xs ++ ys) s = xs.length := by
  induction xs with
  | nil =>
    cases ys with
    | nil => rfl
    | cons y ys => exact place_neg key (hy y (by simp))
  | cons x xs ih =>
    rw [List.cons_append, place_pos key (hx x (by simp)), ih (fun q hq => hx q (by simp [hq]))]
    rfl
theorem found_app (xs ys : List α) (s : ByteArray) (hx : ∀ q ∈ xs, lt (key q) s) (hy : ∀ q ∈ ys, ¬ lt (key q) s) : foundAt key (xs ++ ys) s = match ys with
    | [] => false
    | p :: _ => decide ((key p).toList = s.toList) := by
  unfold foundAt
  rw [place_app key xs ys s hx hy, List.drop_left]
  cases ys <;> rfl
theorem pv_insert (xs ys : List α) (p : α) (hp : okP key val p) (h : PV key val (xs ++ ys)) (hl : xs.length + ys.length < 48) (hx : ∀ q ∈ xs, lt (key q) (key p)) (hy : ∀ q ∈ ys, lt (key p) (key q)) : PV key val (xs ++ p :: ys) := by
  obtain ⟨h1, h2, h3⟩ := h
  obtain ⟨g1, g2, g3⟩ := List.pairwise_append.1 h3
  refine ⟨by rw [List.length_append, List.length_cons]; omega, fun q hq => ?_, List.pairwise_append.2 ⟨g1, List.pairwise_cons.2 ⟨hy, g2⟩, fun a ha b hb => ?_⟩⟩
  · rcases List.mem_append.1 hq with h | h
    · exact h2 q (by simp [h])
    · rcases List.mem_cons.1 h with h | h
      · rw [h]; exact hp
      · exact h2 q (by simp [h])
  · rcases List.mem_cons.1 hb with h | h
    · rw [h]; exact hx a ha
    · exact g3 a ha b h
theorem not_lt_er {a b : ByteArray} (ha : kv a = true) (hb : kv b = true) (h : ¬ lt a b) (hn : ¬ a.toList = b.toList) : lt b a := by
  have a0 := kv0_of_kv ha
  have b0 := kv0_of_kv hb
  have h1 : ¬ er a < er b := fun h' => h ((lt_iff a0 b0).2 h')
  have h2 : er a ≠ er b := fun h' => hn (by rw [er_inj a0 b0 h'])
  exact (lt_iff b0 a0).2 (by omega)
theorem getP_app (xs ys : List α) (p : α) (h : PV key val (xs ++ p :: ys)) : getP key val (xs ++ p :: ys) (key p) = val p := getP_mem key val _ h (by simp)
theorem put_ok (mk : ByteArray → Int → α) (hk : ∀ a b, key (mk a b) = a) (hv : ∀ a b, val (mk a b) = b) (l : List α) (s : ByteArray) (v : Int) (h : (putP key val mk l s v).2 = true) :
    PV key val l ∧ ∃ x, (putP key val mk l s v).1 = x ∧ PV key val x ∧ getP key val x s = v ∧ x.length ≤ l.length + 1 ∧ ∀ p ∈ l, key p ≠ s → getP key val x (key p) = val p := by
  unfold putP at h ⊢
  by_cases c : pv key val l = true ∧ kv s = true ∧ (0 ≤ v ∧ v ≤ 999)
  · rw [if_pos c] at h ⊢
    have hP := (pv_iff key val l).1 c.1
    refine ⟨hP, _, rfl, ?_⟩
    have ok : okP key val (mk s v) := by unfold okP; rw [hk, hv]; exact ⟨c.2.1, c.2.2.1, c.2.2.2⟩
    obtain ⟨xs, ys, rfl, hl, hx, hy⟩ := place_cut key l s hP.2.2
    rw [found_app key xs ys s hx hy, ← hl] at h ⊢
    have fin : ∀ zs : List α, PV key val (xs ++ mk s v :: zs) → zs.length ≤ ys.length → (∀ p ∈ xs ++ ys, key p ≠ s → p ∈ xs ++ zs) → PV key val (xs ++ mk s v :: zs) ∧ getP key val (xs ++ mk s v :: zs) s = v ∧ (xs ++ mk s v :: zs).length ≤ (xs ++ ys).length + 1 ∧ ∀ p ∈ xs ++ ys, key p ≠ s → getP key val (xs ++ mk s v :: zs) (key p) = val p := by
      intro zs hz hzl hm
      have g := getP_app key val xs zs (mk s v) hz
      rw [hk, hv] at g
      refine ⟨hz, g, by rw [List.length_append, List.length_append, List.length_cons]; omega, fun p hp hn => getP_mem key val _ hz ?_⟩
      rcases List.mem_append.1 (hm p hp hn) with h | h <;> simp [h]
    cases ys with
    | nil =>
      simp only [Bool.false_eq_true, if_false] at h ⊢
      rw [List.append_nil] at h hP ⊢
      by_cases g : 48 ≤ xs.length
      · rw [if_pos g] at h; cases h
      · rw [if_neg g, List.take_length, List.drop_length]
        have := fin [] (pv_insert key val xs [] (mk s v) ok (by rw [List.append_nil]; exact hP) (by simp only [List.length_nil]; omega) (fun q hq => by rw [hk]; exact hx q hq) (by simp)) (Nat.le_refl _) (fun p hp _ => hp)
        rw [List.append_nil] at this
        exact this
    | cons y ys =>
      by_cases e : (key y).toList = s.toList
      · have e' := str_ext e
        simp only [decide_eq_true e, if_true] at h ⊢
        rw [List.take_left, List.drop_append, List.drop_of_length_le (by omega), show xs.length + 1 - xs.length = 1 by omega, List.nil_append]
        show PV key val (xs ++ mk s v :: ys) ∧ _
        have ha := asc_split key xs ys y hP.2.2
        refine fin ys (pv_insert key val xs ys (mk s v) ok (pv_sub key val hP (List.Sublist.append (List.Sublist.refl _) (List.sublist_cons_self _ _))) (by have := hP.1; rw [List.length_append, List.length_cons] at this; omega) (fun q hq => by rw [hk]; exact hx q hq) (fun q hq => by rw [hk, ← e']; exact ha.2 q hq)) (by simp) (fun p hp hn => ?_)
        rcases List.mem_append.1 hp with h | h
        · simp [h]
        · rcases List.mem_cons.1 h with h | h
          · rw [h] at hn; exact absurd e' hn
          · simp [h]
      · simp only [decide_eq_false e, Bool.false_eq_true, if_false] at h ⊢
        by_cases g : 48 ≤ (xs ++ y :: ys).length
        · rw [if_pos g] at h; cases h
        · rw [if_neg g, List.take_left, List.drop_left]
          have ha := asc_split key xs ys y hP.2.2
          have hy1 : lt s (key y) := not_lt_er (hP.2.1 y (by simp)).1 c.2.1 (hy y (by simp)) e
          refine fin (y :: ys) (pv_insert key val xs (y :: ys) (mk s v) ok hP (by rw [List.length_append] at g; omega) (fun q hq => by rw [hk]; exact hx q hq) (fun q hq => ?_)) (Nat.le_refl _) (fun p hp _ => hp)
          rw [hk]
          rcases List.mem_cons.1 hq with h | h
          · rw [h]; exact hy1
          · exact lt_trans hy1 (ha.2 q h)
  · rw [if_neg c] at h; cases h
end
end Go.Proofs.Ytengnnhehjcfhaa.Th
