-- Cut by a program of this session (wip/prune.py) from words that the kit's print.sh printed: what nothing of this seat uses is left out.
/- Plain laws of pages: lists of lists of pairs. 'ps': how a page's pairs are read. -/
import Derived.Test.YtengnnhehjcfhaaThC
namespace Go.Proofs.Ytengnnhehjcfhaa.Th
open Go Go.RowKit Go.Proofs.YtengnnhehjcfhaaW.PrintWords
set_option linter.unusedVariables false
set_option linter.unusedSimpArgs false
section
variable {α β : Type} (key : α → ByteArray) (val : α → Int) (ps : β → List α)
def cat : List β → List α
  | [] => []
  | p :: l => ps p ++ cat l
theorem cat_append : ∀ (a b : List β), cat ps (a ++ b) = cat ps a ++ cat ps b
  | [], b => rfl
  | p :: a, b => by
    show ps p ++ cat ps (a ++ b) = ps p ++ cat ps a ++ cat ps b
    rw [cat_append a b, List.append_assoc]
theorem cat_snoc (a : List β) (p : β) : cat ps (a ++ [p]) = cat ps a ++ ps p := by
  rw [cat_append]
  show cat ps a ++ (ps p ++ []) = _
  rw [List.append_nil]
theorem cat_take (z : β) (l : List β) (i : Nat) (h : i < l.length) : cat ps (l.take (i + 1)) = cat ps (l.take i) ++ ps (l.getD i z) := by
  rw [List.take_succ_eq_append_getElem h, cat_snoc, getD_at z l i h]
theorem cat_drop (z : β) (l : List β) (i : Nat) (h : i < l.length) : cat ps (l.drop i) = ps (l.getD i z) ++ cat ps (l.drop (i + 1)) := by
  rw [List.drop_eq_getElem_cons h, getD_at z l i h]
  rfl
theorem cat_le : ∀ (l : List β), (∀ p ∈ l, (ps p).length ≤ 4) → (cat ps l).length ≤ 4 * l.length
  | [], _ => Nat.le_refl _
  | p :: l, h => by
    have := cat_le l (fun q hq => h q (by simp [hq]))
    have := h p (by simp)
    show (ps p ++ cat ps l).length ≤ 4 * (l.length + 1)
    rw [List.length_append]
    omega
theorem cat_mem : ∀ (l : List β) (p : β), p ∈ l → (ps p).length ≤ (cat ps l).length
  | [], p, h => by simp at h
  | q :: l, p, h => by
    show (ps p).length ≤ (ps q ++ cat ps l).length
    rw [List.length_append]
    rcases List.mem_cons.1 h with e | h
    · rw [e]; omega
    · have := cat_mem l p h; omega
theorem cat_len_take (l : List β) (i : Nat) : (cat ps (l.take i)).length ≤ (cat ps l).length := by
  have h : cat ps l = cat ps (l.take i) ++ cat ps (l.drop i) := by rw [← cat_append, List.take_append_drop]
  rw [h, List.length_append]
  omega
def okPg (n : Nat) (p : β) : Prop := (ps p).length ≤ 4 ∧ (1 < n → 2 ≤ (ps p).length) ∧ 1 ≤ (ps p).length
instance okPg_dec (n : Nat) (p : β) : Decidable (okPg ps n p) := by unfold okPg; infer_instance
def PgV (l : List β) : Prop := (∀ p ∈ l, okPg ps l.length p) ∧ PV key val (cat ps l)
open Classical in
noncomputable def pgv (l : List β) : Bool := decide (PgV key val ps l)
theorem pgv_iff (l : List β) : pgv key val ps l = true ↔ PgV key val ps l := by simp [pgv]
theorem pgv_no (l : List β) (h : ¬ PgV key val ps l) : pgv key val ps l = false := by
  rw [Bool.eq_false_iff]
  exact fun h' => h ((pgv_iff _ _ _ _).1 h')
theorem cat_ge : ∀ (l : List β), (∀ p ∈ l, 1 ≤ (ps p).length) → l.length ≤ (cat ps l).length
  | [], _ => Nat.le_refl _
  | p :: l, h => by
    have := cat_ge l (fun q hq => h q (by simp [hq]))
    have := h p (by simp)
    show l.length + 1 ≤ (ps p ++ cat ps l).length
    rw [List.length_append]
    omega
theorem pgv_len (l : List β) (h : PgV key val ps l) : l.length ≤ 48 := Nat.le_trans (cat_ge ps l (fun p hp => (h.1 p hp).2.2)) h.2.1
noncomputable def listPg (l : List β) : List α := if pgv key val ps l = true then cat ps l else []
theorem listPg_len (l : List β) : (listPg key val ps l).length ≤ 48 := by
  unfold listPg
  by_cases h : pgv key val ps l = true
  · rw [if_pos h]; exact ((pgv_iff _ _ _ _).1 h).2.1
  · rw [if_neg h]; simp
def lastPg (z : α) (s : ByteArray) : List β → Nat → Nat → Nat
  | [], _, a => a
  | p :: l, i, a => lastPg z s l (i + 1) (if Op.bytesLess s.toList (key ((ps p).getD 0 z)).toList = true then a else i)
noncomputable def findPg (z : α) (l : List β) (s : ByteArray) : Int := if pgv key val ps l = true ∧ kv s = true ∧ l ≠ [] then (lastPg key ps z s l 0 0 : Nat) else -1
theorem lastPg_lt (z : α) (s : ByteArray) : ∀ (l : List β) (i a : Nat), lastPg key ps z s l i a = a ∨ (i ≤ lastPg key ps z s l i a ∧ lastPg key ps z s l i a < i + l.length)
  | [], i, a => .inl rfl
  | p :: l, i, a => by
    rw [lastPg]
    rcases lastPg_lt z s l (i + 1) (if Op.bytesLess s.toList (key ((ps p).getD 0 z)).toList = true then a else i) with h | h
    · rw [h]
      by_cases c : Op.bytesLess s.toList (key ((ps p).getD 0 z)).toList = true
      · rw [if_pos c]; exact .inl rfl
      · rw [if_neg c]; right; rw [List.length_cons]; omega
    · right; rw [List.length_cons]; omega
theorem mem_cat (z : β) : ∀ (l : List β) (p : α), p ∈ cat ps l ↔ ∃ j, j < l.length ∧ p ∈ ps (l.getD j z)
  | [], p => by simp [cat]
  | q :: l, p => by
    show p ∈ ps q ++ cat ps l ↔ _
    rw [List.mem_append, mem_cat z l p]
    constructor
    · rintro (h | ⟨j, h1, h2⟩)
      · exact ⟨0, by simp, h⟩
      · exact ⟨j + 1, by rw [List.length_cons]; omega, h2⟩
    · rintro ⟨j, h1, h2⟩
      cases j with
      | zero => exact .inl h2
      | succ j => exact .inr ⟨j, by rw [List.length_cons] at h1; omega, h2⟩
theorem page_lt (z : β) (l : List β) (h : Asc key (cat ps l)) (j j' : Nat) (hj : j < j') (hj' : j' < l.length) (p p' : α) (hp : p ∈ ps (l.getD j z)) (hp' : p' ∈ ps (l.getD j' z)) : lt (key p) (key p') := by
  have e : cat ps l = cat ps (l.take j) ++ cat ps (l.drop j) := by rw [← cat_append, List.take_append_drop]
  rw [e, cat_drop ps z l j (by omega)] at h
  have h1 := (List.pairwise_append.1 h).2.1
  refine (List.pairwise_append.1 h1).2.2 p hp p' ((mem_cat ps z _ p').2 ⟨j' - (j + 1), by rw [List.length_drop]; omega, ?_⟩)
  rw [List.getD_eq_getElem?_getD, List.getElem?_drop, show j + 1 + (j' - (j + 1)) = j' by omega, ← List.getD_eq_getElem?_getD]
  exact hp'
theorem page_asc (z : β) (l : List β) (h : PV key val (cat ps l)) (j : Nat) (hj : j < l.length) : PV key val (ps (l.getD j z)) := by
  have e : cat ps l = cat ps (l.take j) ++ cat ps (l.drop j) := by rw [← cat_append, List.take_append_drop]
  rw [e, cat_drop ps z l j hj] at h
  exact (pv_append key val (pv_append key val h).2).1
theorem first_le (zp : α) (x : List α) (h : Asc key x) (p : α) (hp : p ∈ x) : ¬ lt (key p) (key (x.getD 0 zp)) := by
  cases x with
  | nil => simp at hp
  | cons a x =>
    show ¬ lt (key p) (key a)
    rcases List.mem_cons.1 hp with e | hp
    · rw [e]; exact lt_irrefl _
    · exact lt_asymm ((List.pairwise_cons.1 h).1 p hp)
theorem lastPg_spec (zp : α) (z : β) (s : ByteArray) : ∀ (l : List β) (i a : Nat), (lastPg key ps zp s l i a = a ∧ ∀ j, j < l.length → lt s (key ((ps (l.getD j z)).getD 0 zp))) ∨ (∃ j, j < l.length ∧ lastPg key ps zp s l i a = i + j ∧ ¬ lt s (key ((ps (l.getD j z)).getD 0 zp)) ∧ ∀ j', j < j' → j' < l.length → lt s (key ((ps (l.getD j' z)).getD 0 zp)))
  | [], i, a => .inl ⟨rfl, fun j h => by simp at h⟩
  | p :: l, i, a => by
    rw [lastPg]
    rcases lastPg_spec zp z s l (i + 1) (if Op.bytesLess s.toList (key ((ps p).getD 0 zp)).toList = true then a else i) with ⟨h1, h2⟩ | ⟨j, h1, h2, h3, h4⟩
    · by_cases c : Op.bytesLess s.toList (key ((ps p).getD 0 zp)).toList = true
      · rw [if_pos c] at h1 ⊢
        left
        refine ⟨h1, fun j hj => ?_⟩
        cases j with
        | zero => exact c
        | succ j => exact h2 j (by rw [List.length_cons] at hj; omega)
      · rw [if_neg c] at h1 ⊢
        right
        refine ⟨0, by simp, h1, c, fun j' h5 h6 => ?_⟩
        cases j' with
        | zero => omega
        | succ j => exact h2 j (by rw [List.length_cons] at h6; omega)
    · right
      refine ⟨j + 1, by rw [List.length_cons]; omega, by rw [h2]; omega, h3, fun j' h5 h6 => ?_⟩
      cases j' with
      | zero => omega
      | succ j' => exact h4 j' (by omega) (by rw [List.length_cons] at h6; omega)
theorem find_get (zp : α) (z : β) (l : List β) (s : ByteArray) (h : PgV key val ps l) (hs : kv s = true) (hn : l ≠ []) : getP key val (ps (l.getD (lastPg key ps zp s l 0 0) z)) s = getP key val (cat ps l) s := by
  have hP := h.2
  have h0 : 0 < l.length := List.length_pos_iff.2 hn
  have hq : lastPg key ps zp s l 0 0 < l.length := by
    rcases lastPg_lt key ps zp s l 0 0 with h2 | h2 <;> omega
  have hQ := page_asc key val ps z l hP _ hq
  by_cases c : ∃ p ∈ cat ps l, key p = s
  · obtain ⟨p, hp, rfl⟩ := c
    rw [getP_mem key val _ hP hp]
    obtain ⟨j, hj, hpj⟩ := (mem_cat ps z l p).1 hp
    have hf : ¬ lt (key p) (key ((ps (l.getD j z)).getD 0 zp)) := first_le key zp _ (page_asc key val ps z l hP j hj).2.2 p hpj
    have e : lastPg key ps zp (key p) l 0 0 = j := by
      rcases lastPg_spec key ps zp z (key p) l 0 0 with ⟨h1, h2⟩ | ⟨q, h1, h2, h3, h4⟩
      · exact absurd (h2 j hj) hf
      · rw [h2, Nat.zero_add]
        rcases Nat.lt_trichotomy q j with g | g | g
        · exact absurd (h4 j g hj) hf
        · exact g
        · have hne := (h.1 _ (getD_mem z l q h1)).2.2
          have hm := getD_mem zp (ps (l.getD q z)) 0 (by omega)
          exact absurd (page_lt key ps z l hP.2.2 j q g h1 p _ hpj hm) h3
    rw [e]
    exact getP_mem key val _ (page_asc key val ps z l hP j hj) hpj
  · rw [getP_none key val _ s hP (fun p hp e => c ⟨p, hp, e⟩)]
    exact getP_none key val _ s hQ (fun p hp e => c ⟨p, (mem_cat ps z l p).2 ⟨_, hq, hp⟩, e⟩)
def chunk (mk : List α → β) : Nat → List α → List β
  | 0, _ => []
  | k + 1, l => if l.length = 0 then [] else if l.length ≤ 4 then [mk l] else if l.length = 5 then [mk (l.take 3), mk (l.drop 3)] else mk (l.take 4) :: chunk mk k (l.drop 4)
noncomputable def ofPg (mk : List α → β) (l : List α) : List β := if pv key val l = true then chunk mk l.length l else []
variable (mk : List α → β) (hmk : ∀ l, ps (mk l) = l)
include hmk in
theorem chunk_cat : ∀ (k : Nat) (l : List α), l.length ≤ k → cat ps (chunk mk k l) = l
  | 0, l, h => by rw [List.eq_nil_of_length_eq_zero (Nat.le_zero.1 h)]; rfl
  | k + 1, l, h => by
    rw [chunk]
    by_cases c0 : l.length = 0
    · rw [if_pos c0, List.eq_nil_of_length_eq_zero c0]; rfl
    rw [if_neg c0]
    by_cases c1 : l.length ≤ 4
    · rw [if_pos c1]; simp [cat, hmk]
    rw [if_neg c1]
    by_cases c2 : l.length = 5
    · rw [if_pos c2]; simp [cat, hmk]
    rw [if_neg c2]
    show ps (mk (l.take 4)) ++ cat ps (chunk mk k (l.drop 4)) = l
    rw [hmk, chunk_cat k (l.drop 4) (by rw [List.length_drop]; omega), List.take_append_drop]
include hmk in
theorem chunk_ok : ∀ (k : Nat) (l : List α), l.length ≤ k → (∀ p ∈ chunk mk k l, (ps p).length ≤ 4 ∧ 1 ≤ (ps p).length) ∧ (2 ≤ l.length → ∀ p ∈ chunk mk k l, 2 ≤ (ps p).length) ∧ (chunk mk k l).length = (l.length + 3) / 4
  | 0, l, h => by
    have e := List.eq_nil_of_length_eq_zero (Nat.le_zero.1 h)
    subst e
    exact ⟨by simp [chunk], by simp [chunk], by simp [chunk]⟩
  | k + 1, l, h => by
    rw [chunk]
    by_cases c0 : l.length = 0
    · rw [if_pos c0]; exact ⟨by simp, by simp, by simp only [List.length_nil]; omega⟩
    rw [if_neg c0]
    by_cases c1 : l.length ≤ 4
    · rw [if_pos c1]
      refine ⟨fun p hp => ?_, fun h2 p hp => ?_, by simp only [List.length_cons, List.length_nil]; omega⟩
      · rw [List.mem_singleton.1 hp, hmk]; omega
      · rw [List.mem_singleton.1 hp, hmk]; exact h2
    rw [if_neg c1]
    by_cases c2 : l.length = 5
    · rw [if_pos c2]
      have e : ∀ p ∈ [mk (l.take 3), mk (l.drop 3)], (ps p).length = 3 ∨ (ps p).length = 2 := by
        intro p hp
        rcases List.mem_cons.1 hp with e | hp
        · rw [e, hmk, List.length_take]; left; omega
        · rw [List.mem_singleton.1 hp, hmk, List.length_drop]; right; omega
      exact ⟨fun p hp => by have := e p hp; omega, fun _ p hp => by have := e p hp; omega, by simp only [List.length_cons, List.length_nil]; omega⟩
    rw [if_neg c2]
    obtain ⟨h1, h2, h3⟩ := chunk_ok k (l.drop 4) (by rw [List.length_drop]; omega)
    rw [List.length_drop] at h2 h3
    have e : (ps (mk (l.take 4))).length = 4 := by rw [hmk, List.length_take]; omega
    refine ⟨fun p hp => ?_, fun _ p hp => ?_, by rw [List.length_cons, h3]; omega⟩
    · rcases List.mem_cons.1 hp with e' | hp
      · rw [e']; omega
      · exact h1 p hp
    · rcases List.mem_cons.1 hp with e' | hp
      · rw [e']; omega
      · exact h2 (by omega) p hp
include hmk in
theorem of_ok (l : List α) (h : PV key val l) : PgV key val ps (chunk mk l.length l) ∧ cat ps (chunk mk l.length l) = l ∧ (chunk mk l.length l).length = (l.length + 3) / 4 := by
  obtain ⟨h1, h2, h3⟩ := chunk_ok ps mk hmk l.length l (Nat.le_refl _)
  have h4 := chunk_cat ps mk hmk l.length l (Nat.le_refl _)
  refine ⟨⟨fun p hp => ⟨(h1 p hp).1, fun hn => h2 (by omega) p hp, (h1 p hp).2⟩, by rw [h4]; exact h⟩, h4, h3⟩
end
end Go.Proofs.Ytengnnhehjcfhaa.Th
