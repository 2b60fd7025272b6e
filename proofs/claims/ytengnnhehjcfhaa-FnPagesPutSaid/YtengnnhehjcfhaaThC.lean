-- Cut by a program of this session (wip/prune.py) from words that the kit's print.sh printed: what nothing of this seat uses is left out.
/- Plain laws of sorted lists of pairs: no program in sight. 'key' and 'val': how an element's key and value are read. -/
import Derived.Test.YtengnnhehjcfhaaThB
import Derived.Test.YtengnnhehjcfhaaThL
namespace Go.Proofs.Ytengnnhehjcfhaa.Th
open Go Go.RowKit Go.Proofs.YtengnnhehjcfhaaW.PrintWords
set_option linter.unusedVariables false
set_option linter.unusedSimpArgs false
section
variable {α : Type} (key : α → ByteArray) (val : α → Int)
def okP (p : α) : Prop := kv (key p) = true ∧ 0 ≤ val p ∧ val p ≤ 999
instance okP_dec (p : α) : Decidable (okP key val p) := by unfold okP; infer_instance
def Asc (l : List α) : Prop := l.Pairwise fun a b => lt (key a) (key b)
def PV (l : List α) : Prop := l.length ≤ 48 ∧ (∀ p ∈ l, okP key val p) ∧ Asc key l
open Classical in
noncomputable def pv (l : List α) : Bool := decide (PV key val l)
theorem pv_iff (l : List α) : pv key val l = true ↔ PV key val l := by simp [pv]
theorem asc_snoc {l : List α} {a b : α} : Asc key (l ++ [a] ++ [b]) ↔ Asc key (l ++ [a]) ∧ lt (key a) (key b) := by
  unfold Asc
  constructor
  · intro h
    obtain ⟨h1, _, h3⟩ := List.pairwise_append.1 h
    exact ⟨h1, h3 a (by simp) b (by simp)⟩
  · rintro ⟨h1, h2⟩
    refine List.pairwise_append.2 ⟨h1, by simp, ?_⟩
    intro x hx y hy
    rw [List.mem_singleton.1 hy]
    rcases List.mem_append.1 hx with hx | hx
    · exact lt_trans ((List.pairwise_append.1 h1).2.2 x hx a (by simp)) h2
    · rw [List.mem_singleton.1 hx]; exact h2
def stepOk (z : α) (l : List α) (i : Nat) : Prop := okP key val (l.getD i z) ∧ (0 < i → lt (key (l.getD (i - 1) z)) (key (l.getD i z)))
theorem take_ok (z : α) (l : List α) : ∀ i, i ≤ l.length → (∀ j, j < i → stepOk key val z l j) → (∀ p ∈ l.take i, okP key val p) ∧ Asc key (l.take i) := by
  intro i
  induction i with
  | zero => intro _ _; simp [Asc]
  | succ i ih =>
    intro hi h
    obtain ⟨h1, h2⟩ := ih (by omega) (fun j hj => h j (by omega))
    have hs := h i (by omega)
    have hg : l.getD i z = l[i]'(by omega) := by rw [List.getD_eq_getElem?_getD, List.getElem?_eq_getElem (by omega)]; rfl
    have ht : l.take (i + 1) = l.take i ++ [l.getD i z] := by rw [hg]; exact List.take_succ_eq_append_getElem (by omega)
    rw [ht]
    refine ⟨fun p hp => ?_, ?_⟩
    · rcases List.mem_append.1 hp with hp | hp
      · exact h1 p hp
      · rw [List.mem_singleton.1 hp]; exact hs.1
    · rcases Nat.eq_zero_or_pos i with h0 | h0
      · subst h0; simp [Asc]
      · have ht2 : l.take i = l.take (i - 1) ++ [l.getD (i - 1) z] := by
          have hg2 : l.getD (i - 1) z = l[i - 1]'(by omega) := by rw [List.getD_eq_getElem?_getD, List.getElem?_eq_getElem (by omega)]; rfl
          rw [hg2, ← List.take_succ_eq_append_getElem (by omega), show i - 1 + 1 = i by omega]
        rw [ht2] at h2 ⊢
        exact (asc_snoc key).2 ⟨h2, hs.2 h0⟩
theorem asc_lt (z : α) (l : List α) (h : Asc key l) (i j : Nat) (hij : i < j) (hj : j < l.length) : lt (key (l.getD i z)) (key (l.getD j z)) := by
  have := List.pairwise_iff_getElem.1 h i j (by omega) hj hij
  rwa [List.getD_eq_getElem?_getD, List.getD_eq_getElem?_getD, List.getElem?_eq_getElem (by omega), List.getElem?_eq_getElem hj]
theorem pv_steps (z : α) (l : List α) : PV key val l ↔ l.length ≤ 48 ∧ ∀ j, j < l.length → stepOk key val z l j := by
  constructor
  · rintro ⟨h1, h2, h3⟩
    refine ⟨h1, fun j hj => ⟨h2 _ (getD_mem z l j hj), fun h0 => asc_lt key z l h3 _ _ (by omega) hj⟩⟩
  · rintro ⟨h1, h2⟩
    have := take_ok key val z l l.length (Nat.le_refl _) h2
    rw [List.take_length] at this
    exact ⟨h1, this⟩
def place (l : List α) (s : ByteArray) : Nat := (l.takeWhile fun p => Op.bytesLess (key p).toList s.toList).length
theorem place_le (l : List α) (s : ByteArray) : place key l s ≤ l.length := (List.takeWhile_sublist _).length_le
theorem place_nil (s : ByteArray) : place key ([] : List α) s = 0 := rfl
theorem place_pos {a : α} {l : List α} {s : ByteArray} (h : lt (key a) s) : place key (a :: l) s = place key l s + 1 := by
  unfold place
  rw [List.takeWhile_cons_of_pos (p := fun p => Op.bytesLess (key p).toList s.toList) h]
  rfl
theorem place_neg {a : α} {l : List α} {s : ByteArray} (h : ¬ lt (key a) s) : place key (a :: l) s = 0 := by
  unfold place
  rw [List.takeWhile_cons_of_neg (p := fun p => Op.bytesLess (key p).toList s.toList) h]
  rfl
theorem place_below (z : α) : ∀ (l : List α) (s : ByteArray) (i : Nat), i < place key l s → lt (key (l.getD i z)) s
  | [], s, i, h => by simp [place_nil] at h
  | a :: l, s, i, h => by
    by_cases e : lt (key a) s
    · rw [place_pos key e] at h
      cases i with
      | zero => exact e
      | succ i => rw [List.getD_cons_succ]; exact place_below z l s i (by omega)
    · rw [place_neg key e] at h; omega
theorem place_at (z : α) : ∀ (l : List α) (s : ByteArray), place key l s < l.length → ¬ lt (key (l.getD (place key l s) z)) s
  | [], s, h => by simp at h
  | a :: l, s, h => by
    by_cases e : lt (key a) s
    · rw [place_pos key e] at h ⊢
      rw [List.getD_cons_succ]
      exact place_at z l s (by simpa using h)
    · rw [place_neg key e]; exact e
theorem place_from (z : α) (l : List α) (s : ByteArray) (ha : Asc key l) (i : Nat) (h1 : place key l s ≤ i) (h2 : i < l.length) : ¬ lt (key (l.getD i z)) s := by
  have h0 := place_at key z l s (by omega)
  rcases Nat.eq_or_lt_of_le h1 with e | e
  · rw [← e]; exact h0
  · intro h
    exact h0 (lt_trans (asc_lt key z l ha _ _ e h2) h)
theorem place_unique (z : α) (l : List α) (s : ByteArray) (ha : Asc key l) (i : Nat) (hi : i ≤ l.length) (h1 : ∀ j, j < i → lt (key (l.getD j z)) s) (h2 : i < l.length → ¬ lt (key (l.getD i z)) s) : place key l s = i := by
  rcases Nat.lt_trichotomy (place key l s) i with h | h | h
  · exact absurd (h1 _ h) (place_at key z l s (by omega))
  · exact h
  · have := place_le key l s
    exact absurd (place_below key z l s i h) (h2 (by omega))
def foundAt (l : List α) (s : ByteArray) : Bool := match l.drop (place key l s) with
  | [] => false
  | p :: _ => decide ((key p).toList = s.toList)
theorem foundAt_getD (z : α) (l : List α) (s : ByteArray) : foundAt key l s = (decide (place key l s < l.length) && decide (key (l.getD (place key l s) z) = s)) := by
  unfold foundAt
  by_cases h : place key l s < l.length
  · rw [List.drop_eq_getElem_cons h, List.getD_eq_getElem?_getD, List.getElem?_eq_getElem h, decide_eq_true h, Bool.true_and]
    simp only [Option.getD_some]
    apply bool_eq
    rw [decide_eq_true_eq, decide_eq_true_eq, str_eq_iff]
  · rw [List.drop_of_length_le (by omega), decide_eq_false h, Bool.false_and]
theorem foundAt_iff (l : List α) (s : ByteArray) (ha : Asc key l) : foundAt key l s = true ↔ ∃ p ∈ l, key p = s := by
  constructor
  · intro h
    unfold foundAt at h
    generalize hd : l.drop (place key l s) = m at h
    cases m with
    | nil => cases h
    | cons p m =>
      exact ⟨p, List.mem_of_mem_drop (i := place key l s) (by rw [hd]; simp), str_ext (by simpa using h)⟩
  · rintro ⟨p, hp, rfl⟩
    obtain ⟨i, hi, rfl⟩ := List.getElem_of_mem hp
    have hg : ∀ j (hj : j < l.length), l.getD j (l[i]'hi) = l[j]'hj := fun j hj => by rw [List.getD_eq_getElem?_getD, List.getElem?_eq_getElem hj]; rfl
    have : place key l (key (l[i]'hi)) = i := by
      refine place_unique key (l[i]'hi) l _ ha i (by omega) (fun j hj => ?_) (fun _ => ?_)
      · have := asc_lt key (l[i]'hi) l ha j i hj hi
        rwa [hg i hi] at this
      · rw [hg i hi]; exact lt_irrefl _
    rw [foundAt_getD key (l[i]'hi), this, hg i hi]
    simp [hi]
noncomputable def getP (l : List α) (s : ByteArray) : Int := if pv key val l = true then (match l.drop (place key l s) with
  | [] => -1
  | p :: _ => if (key p).toList = s.toList then val p else -1) else -1
theorem getP_getD (z : α) (l : List α) (s : ByteArray) (h : pv key val l = true) : getP key val l s = if foundAt key l s = true then val (l.getD (place key l s) z) else -1 := by
  unfold getP foundAt
  rw [if_pos h]
  by_cases hl : place key l s < l.length
  · rw [List.drop_eq_getElem_cons hl, List.getD_eq_getElem?_getD, List.getElem?_eq_getElem hl]
    simp only [Option.getD_some, decide_eq_true_eq]
  · rw [List.drop_of_length_le (by omega)]
    simp
theorem place_of_mem (z : α) (l : List α) (ha : Asc key l) {p : α} (hp : p ∈ l) : place key l (key p) < l.length ∧ l.getD (place key l (key p)) z = p := by
  obtain ⟨i, hi, rfl⟩ := List.getElem_of_mem hp
  have hg : ∀ j (hj : j < l.length), l.getD j z = l[j]'hj := fun j hj => by rw [List.getD_eq_getElem?_getD, List.getElem?_eq_getElem hj]; rfl
  have : place key l (key (l[i]'hi)) = i := by
    refine place_unique key z l _ ha i (by omega) (fun j hj => ?_) (fun _ => ?_)
    · have := asc_lt key z l ha j i hj hi
      rwa [hg i hi] at this
    · rw [hg i hi]; exact lt_irrefl _
  rw [this, hg i hi]
  exact ⟨hi, rfl⟩
theorem getP_mem (l : List α) (h : PV key val l) {p : α} (hp : p ∈ l) : getP key val l (key p) = val p := by
  obtain ⟨h1, h2⟩ := place_of_mem key p l h.2.2 hp
  rw [getP_getD key val p l _ ((pv_iff key val l).2 h), if_pos ((foundAt_iff key l _ h.2.2).2 ⟨p, hp, rfl⟩), h2]
theorem getP_none (l : List α) (s : ByteArray) (h : PV key val l) (hn : ∀ p ∈ l, key p ≠ s) : getP key val l s = -1 := by
  cases l with
  | nil => unfold getP; simp
  | cons a l =>
    rw [getP_getD key val a _ _ ((pv_iff key val _).2 h), if_neg]
    intro hf
    obtain ⟨p, hp, he⟩ := (foundAt_iff key _ s h.2.2).1 hf
    exact hn p hp he
noncomputable def putP (mk : ByteArray → Int → α) (l : List α) (s : ByteArray) (v : Int) : List α × Bool :=
  if pv key val l = true ∧ kv s = true ∧ (0 ≤ v ∧ v ≤ 999) then
    (if foundAt key l s = true then (l.take (place key l s) ++ mk s v :: l.drop (place key l s + 1), true)
     else if 48 ≤ l.length then (l, false) else (l.take (place key l s) ++ mk s v :: l.drop (place key l s), true)) else ([], false)
noncomputable def dropP (l : List α) (s : ByteArray) : List α × Bool :=
  if pv key val l = true then (if foundAt key l s = true then (l.take (place key l s) ++ l.drop (place key l s + 1), true) else (l, false)) else ([], false)
theorem pv_append {a b : List α} (h : PV key val (a ++ b)) : PV key val a ∧ PV key val b := by
  obtain ⟨h1, h2, h3⟩ := h
  rw [List.length_append] at h1
  obtain ⟨h4, h5, _⟩ := List.pairwise_append.1 h3
  exact ⟨⟨by omega, fun p hp => h2 p (List.mem_append_left _ hp), h4⟩, ⟨by omega, fun p hp => h2 p (List.mem_append_right _ hp), h5⟩⟩
theorem pv_sub {a b : List α} (h : PV key val b) (hs : a.Sublist b) : PV key val a :=
  ⟨Nat.le_trans hs.length_le h.1, fun p hp => h.2.1 p (hs.subset hp), h.2.2.sublist hs⟩
theorem dropP_len (l : List α) (s : ByteArray) : (dropP key val l s).1.length ≤ 48 := by
  unfold dropP
  by_cases h : pv key val l = true
  · have := ((pv_iff key val _).1 h).1
    rw [if_pos h]
    by_cases f : foundAt key l s = true
    · rw [if_pos f, List.length_append, List.length_take, List.length_drop]; omega
    · rw [if_neg f]; exact this
  · rw [if_neg h]; simp
theorem putP_len (mk : ByteArray → Int → α) (l : List α) (s : ByteArray) (v : Int) : (putP key val mk l s v).1.length ≤ 50 := by
  unfold putP
  by_cases h : pv key val l = true ∧ kv s = true ∧ (0 ≤ v ∧ v ≤ 999)
  · have := ((pv_iff key val _).1 h.1).1
    rw [if_pos h]
    by_cases f : foundAt key l s = true
    · rw [if_pos f, List.length_append, List.length_cons, List.length_take, List.length_drop]; omega
    · rw [if_neg f]
      by_cases g : 48 ≤ l.length
      · rw [if_pos g]; simp only; omega
      · rw [if_neg g, List.length_append, List.length_cons, List.length_take, List.length_drop]; omega
  · rw [if_neg h]; simp
end
end Go.Proofs.Ytengnnhehjcfhaa.Th
