/- Plain laws of sorted lists of pairs that were changed, cut or joined. -/
import Derived.Test.YtmbkffpcbknndaaThC
namespace Go.Proofs.Ytmbkffpcbknndaa.Th
open Go Go.RowKit Go.Proofs.YtmbkffpcbknndaaW.PrintWords
set_option linter.unusedVariables false
set_option linter.unusedSimpArgs false

section
variable {α : Type} (key : α → ByteArray) (val : α → Int)
/-- the value of the last element with a key, or w -/
def foldW (s : ByteArray) : List α → Int → Int
  | [], w => w
  | p :: l, w => if (key p).toList = s.toList then foldW s l (val p) else foldW s l w
theorem foldW_none (s : ByteArray) : ∀ (l : List α) (w : Int), (∀ p ∈ l, key p ≠ s) → foldW key val s l w = w
  | [], _, _ => rfl
  | p :: l, w, h => by
    rw [foldW, if_neg (fun e => h p (by simp) (str_ext e)), foldW_none s l w (fun q hq => h q (by simp [hq]))]
theorem foldW_mid (s : ByteArray) (p : α) (ys : List α) (hp : key p = s) (hy : ∀ q ∈ ys, key q ≠ s) : ∀ (xs : List α) (w : Int), foldW key val s (xs ++ p :: ys) w = val p
  | [], w => by
    show (if (key p).toList = s.toList then foldW key val s ys (val p) else foldW key val s ys w) = val p
    rw [if_pos (by rw [hp]), foldW_none key val s ys _ hy]
  | x :: xs, w => by
    show (if (key x).toList = s.toList then foldW key val s (xs ++ p :: ys) (val x) else foldW key val s (xs ++ p :: ys) w) = val p
    rw [foldW_mid s p ys hp hy xs, foldW_mid s p ys hp hy xs]
    by_cases c : (key x).toList = s.toList
    · rw [if_pos c]
    · rw [if_neg c]
theorem asc_split (xs ys : List α) (p : α) (h : Asc key (xs ++ p :: ys)) : (∀ q ∈ xs, lt (key q) (key p)) ∧ (∀ q ∈ ys, lt (key p) (key q)) := by
  obtain ⟨h1, h2, h3⟩ := List.pairwise_append.1 h
  exact ⟨fun q hq => h3 q hq p (by simp), (List.pairwise_cons.1 h2).1⟩
theorem lt_ne {a b : ByteArray} (h : lt a b) : a ≠ b := fun e => by rw [e] at h; exact lt_irrefl _ h
theorem foldW_get (l : List α) (s : ByteArray) (h : PV key val l) : foldW key val s l (-1) = getP key val l s := by
  by_cases c : ∃ p ∈ l, key p = s
  · obtain ⟨p, hp, rfl⟩ := c
    rw [getP_mem key val l h hp]
    obtain ⟨xs, ys, rfl⟩ := List.append_of_mem hp
    have ha := asc_split key xs ys p h.2.2
    exact foldW_mid key val _ p ys rfl (fun q hq => (lt_ne (ha.2 q hq)).symm) xs _
  · rw [getP_none key val l s h (fun p hp e => c ⟨p, hp, e⟩), foldW_none key val s l _ (fun p hp e => c ⟨p, hp, e⟩)]
/-- where a key is, or would be -/
theorem place_cut (l : List α) (s : ByteArray) (ha : Asc key l) : ∃ xs ys, l = xs ++ ys ∧ xs.length = place key l s ∧ (∀ q ∈ xs, lt (key q) s) ∧ (∀ q ∈ ys, ¬ lt (key q) s) := by
  have hl := place_le key l s
  refine ⟨l.take (place key l s), l.drop (place key l s), (List.take_append_drop _ _).symm, by rw [List.length_take]; omega, ?_, ?_⟩
  · intro q hq
    obtain ⟨i, hi, rfl⟩ := List.getElem_of_mem hq
    rw [List.length_take] at hi
    have := place_below key (l[i]'(by omega)) l s i (by omega)
    rw [getD_at _ l i (by omega)] at this
    rw [List.getElem_take]
    exact this
  · intro q hq
    obtain ⟨i, hi, rfl⟩ := List.getElem_of_mem hq
    rw [List.length_drop] at hi
    have := place_from key (l[place key l s + i]'(by omega)) l s ha (place key l s + i) (by omega) (by omega)
    rw [getD_at _ l _ (by omega)] at this
    rw [List.getElem_drop]
    exact this
theorem place_app (xs ys : List α) (s : ByteArray) (hx : ∀ q ∈ xs, lt (key q) s) (hy : ∀ q ∈ ys, ¬ lt (key q) s) : place key (xs ++ ys) s = xs.length := by
  induction xs with
  | nil =>
    cases ys with
    | nil => rfl
    | cons y ys => exact place_neg key (hy y (by simp))
  | cons x xs ih =>
    rw [List.cons_append, place_pos key (hx x (by simp)), ih (fun q hq => hx q (by simp [hq]))]
    rfl
theorem found_app (xs ys : List α) (s : ByteArray) (hx : ∀ q ∈ xs, lt (key q) s) (hy : ∀ q ∈ ys, ¬ lt (key q) s) : foundAt key (xs ++ ys) s = match ys with
    | [] => false
    | p :: _ => decide ((key p).toList = s.toList) := by
  unfold foundAt
  rw [place_app key xs ys s hx hy, List.drop_left]
  cases ys <;> rfl
/-- what can be put between lists of lesser and greater keys -/
theorem pv_insert (xs ys : List α) (p : α) (hp : okP key val p) (h : PV key val (xs ++ ys)) (hl : xs.length + ys.length < 48) (hx : ∀ q ∈ xs, lt (key q) (key p)) (hy : ∀ q ∈ ys, lt (key p) (key q)) : PV key val (xs ++ p :: ys) := by
  obtain ⟨h1, h2, h3⟩ := h
  obtain ⟨g1, g2, g3⟩ := List.pairwise_append.1 h3
  refine ⟨by rw [List.length_append, List.length_cons]; omega, fun q hq => ?_, List.pairwise_append.2 ⟨g1, List.pairwise_cons.2 ⟨hy, g2⟩, fun a ha b hb => ?_⟩⟩
  · rcases List.mem_append.1 hq with h | h
    · exact h2 q (by simp [h])
    · rcases List.mem_cons.1 h with h | h
      · rw [h]; exact hp
      · exact h2 q (by simp [h])
  · rcases List.mem_cons.1 hb with h | h
    · rw [h]; exact hx a ha
    · exact g3 a ha b h
theorem not_lt_er {a b : ByteArray} (ha : kv a = true) (hb : kv b = true) (h : ¬ lt a b) (hn : ¬ a.toList = b.toList) : lt b a := by
  have a0 := kv0_of_kv ha
  have b0 := kv0_of_kv hb
  have h1 : ¬ er a < er b := fun h' => h ((lt_iff a0 b0).2 h')
  have h2 : er a ≠ er b := fun h' => hn (by rw [er_inj a0 b0 h'])
  exact (lt_iff b0 a0).2 (by omega)
theorem getP_app (xs ys : List α) (p : α) (h : PV key val (xs ++ p :: ys)) : getP key val (xs ++ p :: ys) (key p) = val p := getP_mem key val _ h (by simp)
/-- what PairPut makes -/
theorem put_ok (mk : ByteArray → Int → α) (hk : ∀ a b, key (mk a b) = a) (hv : ∀ a b, val (mk a b) = b) (l : List α) (s : ByteArray) (v : Int) (h : (putP key val mk l s v).2 = true) :
    PV key val l ∧ ∃ x, (putP key val mk l s v).1 = x ∧ PV key val x ∧ getP key val x s = v ∧ x.length ≤ l.length + 1 ∧ ∀ p ∈ l, key p ≠ s → getP key val x (key p) = val p := by
  unfold putP at h ⊢
  by_cases c : pv key val l = true ∧ kv s = true ∧ (0 ≤ v ∧ v ≤ 999)
  · rw [if_pos c] at h ⊢
    have hP := (pv_iff key val l).1 c.1
    refine ⟨hP, _, rfl, ?_⟩
    have ok : okP key val (mk s v) := by unfold okP; rw [hk, hv]; exact ⟨c.2.1, c.2.2.1, c.2.2.2⟩
    obtain ⟨xs, ys, rfl, hl, hx, hy⟩ := place_cut key l s hP.2.2
    rw [found_app key xs ys s hx hy, ← hl] at h ⊢
    have fin : ∀ zs : List α, PV key val (xs ++ mk s v :: zs) → zs.length ≤ ys.length → (∀ p ∈ xs ++ ys, key p ≠ s → p ∈ xs ++ zs) → PV key val (xs ++ mk s v :: zs) ∧ getP key val (xs ++ mk s v :: zs) s = v ∧ (xs ++ mk s v :: zs).length ≤ (xs ++ ys).length + 1 ∧ ∀ p ∈ xs ++ ys, key p ≠ s → getP key val (xs ++ mk s v :: zs) (key p) = val p := by
      intro zs hz hzl hm
      have g := getP_app key val xs zs (mk s v) hz
      rw [hk, hv] at g
      refine ⟨hz, g, by rw [List.length_append, List.length_append, List.length_cons]; omega, fun p hp hn => getP_mem key val _ hz ?_⟩
      rcases List.mem_append.1 (hm p hp hn) with h | h <;> simp [h]
    cases ys with
    | nil =>
      simp only [Bool.false_eq_true, if_false] at h ⊢
      rw [List.append_nil] at h hP ⊢
      by_cases g : 48 ≤ xs.length
      · rw [if_pos g] at h; cases h
      · rw [if_neg g, List.take_length, List.drop_length]
        have := fin [] (pv_insert key val xs [] (mk s v) ok (by rw [List.append_nil]; exact hP) (by simp only [List.length_nil]; omega) (fun q hq => by rw [hk]; exact hx q hq) (by simp)) (Nat.le_refl _) (fun p hp _ => hp)
        rw [List.append_nil] at this
        exact this
    | cons y ys =>
      by_cases e : (key y).toList = s.toList
      · have e' := str_ext e
        simp only [decide_eq_true e, if_true] at h ⊢
        rw [List.take_left, List.drop_append, List.drop_of_length_le (by omega), show xs.length + 1 - xs.length = 1 by omega, List.nil_append]
        show PV key val (xs ++ mk s v :: ys) ∧ _
        have ha := asc_split key xs ys y hP.2.2
        refine fin ys (pv_insert key val xs ys (mk s v) ok (pv_sub key val hP (List.Sublist.append (List.Sublist.refl _) (List.sublist_cons_self _ _))) (by have := hP.1; rw [List.length_append, List.length_cons] at this; omega) (fun q hq => by rw [hk]; exact hx q hq) (fun q hq => by rw [hk, ← e']; exact ha.2 q hq)) (by simp) (fun p hp hn => ?_)
        rcases List.mem_append.1 hp with h | h
        · simp [h]
        · rcases List.mem_cons.1 h with h | h
          · rw [h] at hn; exact absurd e' hn
          · simp [h]
      · simp only [decide_eq_false e, Bool.false_eq_true, if_false] at h ⊢
        by_cases g : 48 ≤ (xs ++ y :: ys).length
        · rw [if_pos g] at h; cases h
        · rw [if_neg g, List.take_left, List.drop_left]
          have ha := asc_split key xs ys y hP.2.2
          have hy1 : lt s (key y) := not_lt_er (hP.2.1 y (by simp)).1 c.2.1 (hy y (by simp)) e
          refine fin (y :: ys) (pv_insert key val xs (y :: ys) (mk s v) ok hP (by rw [List.length_append] at g; omega) (fun q hq => by rw [hk]; exact hx q hq) (fun q hq => ?_)) (Nat.le_refl _) (fun p hp _ => hp)
          rw [hk]
          rcases List.mem_cons.1 hq with h | h
          · rw [h]; exact hy1
          · exact lt_trans hy1 (ha.2 q h)
  · rw [if_neg c] at h; cases h
theorem put_no (mk : ByteArray → Int → α) (l : List α) (s : ByteArray) (v : Int) (h : ¬ (putP key val mk l s v).2 = true) : (putP key val mk l s v).1 = l ∨ (putP key val mk l s v).1 = [] := by
  unfold putP at h ⊢
  by_cases c : pv key val l = true ∧ kv s = true ∧ (0 ≤ v ∧ v ≤ 999)
  · rw [if_pos c] at h ⊢
    by_cases f : foundAt key l s = true
    · rw [if_pos f] at h; exact absurd rfl h
    · rw [if_neg f] at h ⊢
      by_cases g : 48 ≤ l.length
      · rw [if_pos g]; exact .inl rfl
      · rw [if_neg g] at h; exact absurd rfl h
  · rw [if_neg c]; exact .inr rfl
theorem drop_no (l : List α) (s : ByteArray) (h : ¬ (dropP key val l s).2 = true) : (dropP key val l s).1 = l ∨ (dropP key val l s).1 = [] := by
  unfold dropP at h ⊢
  by_cases c : pv key val l = true
  · rw [if_pos c] at h ⊢
    by_cases f : foundAt key l s = true
    · rw [if_pos f] at h; exact absurd rfl h
    · rw [if_neg f]; exact .inl rfl
  · rw [if_neg c]; exact .inr rfl
/-- what PairDrop makes, and that PairPut leads back -/
theorem drop_ok (mk : ByteArray → Int → α) (he : ∀ p, mk (key p) (val p) = p) (l : List α) (s : ByteArray) (h : (dropP key val l s).2 = true) :
    getP key val (dropP key val l s).1 s = -1 ∧ putP key val mk (dropP key val l s).1 s (getP key val l s) = (l, true) := by
  unfold dropP at h ⊢
  by_cases c : pv key val l = true
  · rw [if_pos c] at h ⊢
    have hP := (pv_iff key val l).1 c
    by_cases f : foundAt key l s = true
    · rw [if_pos f]
      obtain ⟨p, hp, rfl⟩ := (foundAt_iff key l s hP.2.2).1 f
      obtain ⟨xs, ys, rfl⟩ := List.append_of_mem hp
      have ha := asc_split key xs ys p hP.2.2
      have hpl : place key (xs ++ p :: ys) (key p) = xs.length := place_app key xs (p :: ys) _ ha.1 (fun q hq => by
        rcases List.mem_cons.1 hq with h | h
        · rw [h]; exact lt_irrefl _
        · exact lt_asymm (ha.2 q h))
      have e1 : (xs ++ p :: ys).take xs.length ++ (xs ++ p :: ys).drop (xs.length + 1) = xs ++ ys := by
        rw [List.take_left, List.drop_append, List.drop_of_length_le (by omega), show xs.length + 1 - xs.length = 1 by omega, List.nil_append]
        rfl
      rw [hpl, getP_app key val xs ys p hP]
      show getP key val ((xs ++ p :: ys).take xs.length ++ (xs ++ p :: ys).drop (xs.length + 1)) (key p) = -1 ∧ putP key val mk ((xs ++ p :: ys).take xs.length ++ (xs ++ p :: ys).drop (xs.length + 1)) (key p) (val p) = (xs ++ p :: ys, true)
      rw [e1]
      have hQ : PV key val (xs ++ ys) := pv_sub key val hP (List.Sublist.append (List.Sublist.refl _) (List.sublist_cons_self _ _))
      have hok := hP.2.1 p (by simp)
      have hys : ∀ q ∈ ys, ¬ lt (key q) (key p) := fun q hq => lt_asymm (ha.2 q hq)
      have hl := hP.1
      rw [List.length_append, List.length_cons] at hl
      refine ⟨getP_none key val _ _ hQ (fun q hq => ?_), ?_⟩
      · rcases List.mem_append.1 hq with h | h
        · exact lt_ne (ha.1 q h)
        · exact (lt_ne (ha.2 q h)).symm
      · have hf : foundAt key (xs ++ ys) (key p) = false := by
          rw [found_app key xs ys _ ha.1 hys]
          cases ys with
          | nil => rfl
          | cons y ys => exact decide_eq_false (fun e => lt_ne (ha.2 y (by simp)) (str_ext e).symm)
        unfold putP
        rw [if_pos ⟨(pv_iff key val _).2 hQ, hok.1, hok.2⟩, hf, if_neg (by simp), if_neg (by rw [List.length_append]; omega), place_app key xs ys _ ha.1 hys, List.take_left, List.drop_left, he]
    · rw [if_neg f] at h; cases h
  · rw [if_neg c] at h; cases h
/-- what is in PairsIn's answer -/
theorem in_mem (l : List α) (lo hi : ByteArray) (h : PV key val l) (p : α) (hp : p ∈ l) : getP key val (inP key val l lo hi) (key p) = if hasI lo hi (key p) = true then val p else -1 := by
  unfold inP
  by_cases c : pv key val l = true ∧ iv lo hi = true
  · rw [if_pos c]
    have hQ : PV key val (l.filter fun p => hasI lo hi (key p)) := pv_sub key val h List.filter_sublist
    by_cases e : hasI lo hi (key p) = true
    · rw [if_pos e]
      exact getP_mem key val _ hQ (List.mem_filter.2 ⟨hp, e⟩)
    · rw [if_neg e]
      refine getP_none key val _ _ hQ (fun q hq hk => e ?_)
      have := (List.mem_filter.1 hq).2
      rw [hk] at this
      exact this
  · rw [if_neg c, if_neg (fun e => c ⟨(pv_iff key val l).2 h, ((hasI_iff _ _ _).1 e).1⟩)]
    exact getP_none key val _ _ (pv_nil key val) (by simp)
theorem in_sub (l : List α) (lo hi : ByteArray) : (inP key val l lo hi).Sublist l := by
  unfold inP
  by_cases c : pv key val l = true ∧ iv lo hi = true
  · rw [if_pos c]; exact List.filter_sublist
  · rw [if_neg c]; exact List.nil_sublist _
theorem scan_sub (l : List α) (lo hi : ByteArray) (m : Int) : (scanP key val l lo hi m).Sublist (inP key val l lo hi) := by
  unfold scanP
  by_cases c : 0 ≤ m ∧ m ≤ 48
  · rw [if_pos c]; exact List.take_sublist _ _
  · rw [if_neg c]; exact List.nil_sublist _
theorem in_pv (l x : List α) (lo hi : ByteArray) (h : x.Sublist (inP key val l lo hi)) : PV key val x ∧ ∀ p ∈ x, hasI lo hi (key p) = true ∧ getP key val l (key p) = val p := by
  unfold inP at h
  by_cases c : pv key val l = true ∧ iv lo hi = true
  · rw [if_pos c] at h
    have hP := (pv_iff key val l).1 c.1
    refine ⟨pv_sub key val hP (h.trans List.filter_sublist), fun p hp => ?_⟩
    have := List.mem_filter.1 (h.subset hp)
    exact ⟨this.2, getP_mem key val l hP this.1⟩
  · rw [if_neg c] at h
    rw [List.sublist_nil.1 h]
    exact ⟨pv_nil key val, by simp⟩
theorem scan_less (l : List α) (lo hi : ByteArray) (m : Int) (h0 : 0 < m) (h : ((scanP key val l lo hi m).length : Int) = m) : scanP key val l lo hi (m - 1) = (scanP key val l lo hi m).take ((scanP key val l lo hi m).length - 1) := by
  unfold scanP at h ⊢
  by_cases c : 0 ≤ m ∧ m ≤ 48
  · rw [if_pos c] at h ⊢
    rw [if_pos (by omega), List.take_take]
    congr 1
    omega
  · rw [if_neg c] at h; simp only [List.length_nil] at h; omega
/-- two lists that can be joined, cut apart again -/
theorem in_parts (a ys : List α) (p : α) (ha : a ≠ []) (h : PV key val (a ++ p :: ys)) : inP key val (a ++ p :: ys) (mkS []) (key p) = a ∧ inP key val (a ++ p :: ys) (key p) (mkS []) = p :: ys := by
  have hs := asc_split key a ys p h.2.2
  have kp := (h.2.1 p (by simp)).1
  have p0 := kv0_of_kv kp
  have n0 := kv0_nil (toList_mkS [])
  have e0 := er_nil (toList_mkS [])
  have ka : ∀ q ∈ a, kv (key q) = true ∧ 1 ≤ er (key q) ∧ er (key q) < er (key p) := fun q hq => by
    have k1 := (h.2.1 q (by simp [hq])).1
    exact ⟨k1, er_pos k1, (lt_iff (kv0_of_kv k1) p0).1 (hs.1 q hq)⟩
  have ky : ∀ q ∈ p :: ys, kv (key q) = true ∧ er (key p) ≤ er (key q) := fun q hq => by
    have k1 := (h.2.1 q (by simp only [List.mem_append]; exact .inr hq)).1
    refine ⟨k1, ?_⟩
    rcases List.mem_cons.1 hq with e | e
    · rw [e]; exact Int.le_refl _
    · have := (lt_iff p0 (kv0_of_kv k1)).1 (hs.2 q e)
      omega
  have pp : 1 < er (key p) := by
    cases a with
    | nil => exact absurd rfl ha
    | cons b a => have := ka b (by simp); omega
  have v1 : iv (mkS []) (key p) = true := (iv_iff _ _).2 ⟨n0, p0, by omega⟩
  have v2 : iv (key p) (mkS []) = true := (iv_iff _ _).2 ⟨p0, n0, by omega⟩
  have hv := (pv_iff key val _).2 h
  unfold inP
  rw [if_pos ⟨hv, v1⟩, if_pos ⟨hv, v2⟩, List.filter_append, List.filter_append]
  have f1 : a.filter (fun q => hasI (mkS []) (key p) (key q)) = a := List.filter_eq_self.2 (fun q hq => by
    have := ka q hq
    exact (hasI_iff _ _ _).2 ⟨v1, this.1, by omega, by omega⟩)
  have f2 : (p :: ys).filter (fun q => hasI (mkS []) (key p) (key q)) = [] := List.filter_eq_nil_iff.2 (fun q hq hh => by
    have := ky q hq
    have := (hasI_iff _ _ _).1 hh
    omega)
  have f3 : a.filter (fun q => hasI (key p) (mkS []) (key q)) = [] := List.filter_eq_nil_iff.2 (fun q hq hh => by
    have := ka q hq
    have := (hasI_iff _ _ _).1 hh
    omega)
  have f4 : (p :: ys).filter (fun q => hasI (key p) (mkS []) (key q)) = p :: ys := List.filter_eq_self.2 (fun q hq => by
    have := ky q hq
    exact (hasI_iff _ _ _).2 ⟨v2, this.1, by omega, by omega⟩)
  rw [f1, f2, f3, f4, List.append_nil, List.nil_append]
  exact ⟨rfl, rfl⟩
theorem pv_twice (p : α) (l : List α) : ¬ PV key val (p :: p :: l) := fun h => lt_irrefl _ ((List.pairwise_cons.1 h.2.2).1 p (by simp))
end
end Go.Proofs.Ytmbkffpcbknndaa.Th
