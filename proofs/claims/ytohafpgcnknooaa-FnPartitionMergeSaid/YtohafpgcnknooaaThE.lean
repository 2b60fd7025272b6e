/- Plain laws of partitions that are made of their bounds: found, split and merged. -/
import Derived.Test.YtohafpgcnknooaaThD
namespace Go.Proofs.Ytohafpgcnknooaa.Th
open Go Go.RowKit Go.Proofs.YtohafpgcnknooaaW.PrintWords
set_option linter.unusedVariables false
set_option linter.unusedSimpArgs false

/-- bounds that ascend, all of them above m -/
def asc : Int → List ByteArray → Prop
  | _, [] => True
  | m, b :: bs => kv b = true ∧ m < er b ∧ asc (er b) bs
/-- a lower bound's rank, at least 1 -/
def mx1 (e : Int) : Int := if e < 1 then 1 else e
/-- the last one of bounds, or p -/
def lastB : ByteArray → List ByteArray → ByteArray
  | p, [] => p
  | _, x :: xs => lastB x xs
/-- the first one of bounds, or none -/
def headB : List ByteArray → ByteArray
  | [] => mkS []
  | y :: _ => y
theorem asc_mono : ∀ (bs : List ByteArray) (m n : Int), n ≤ m → asc m bs → asc n bs
  | [], _, _, _, _ => trivial
  | b :: bs, m, n, h, ⟨h1, h2, h3⟩ => ⟨h1, by omega, h3⟩
theorem asc_all : ∀ (bs : List ByteArray) (m : Int), asc m bs → ∀ b ∈ bs, kv b = true ∧ m < er b
  | [], _, _, b, hb => by simp at hb
  | c :: bs, m, ⟨h1, h2, h3⟩, b, hb => by
    rcases List.mem_cons.1 hb with e | hb
    · rw [e]; exact ⟨h1, h2⟩
    · have := asc_all bs _ h3 b hb
      exact ⟨this.1, by omega⟩
theorem asc_left : ∀ (xs ys : List ByteArray) (m : Int), asc m (xs ++ ys) → asc m xs
  | [], _, _, _ => trivial
  | x :: xs, ys, m, ⟨h1, h2, h3⟩ => ⟨h1, h2, asc_left xs ys _ h3⟩
theorem asc_right : ∀ (xs ys : List ByteArray) (m : Int), asc m (xs ++ ys) → asc m ys
  | [], _, _, h => h
  | x :: xs, ys, m, ⟨h1, h2, h3⟩ => asc_mono ys _ _ (by omega) (asc_right xs ys _ h3)
theorem asc_insert (s : ByteArray) (hs : kv s = true) (ys : List ByteArray) (hy : ∀ b ∈ ys, er s < er b) : ∀ (xs : List ByteArray) (m : Int), m < er s → (∀ b ∈ xs, er b < er s) → asc m (xs ++ ys) → asc m (xs ++ s :: ys)
  | [], m, hm, _, h => ⟨hs, hm, by
      cases ys with
      | nil => trivial
      | cons y ys => exact ⟨h.1, hy y (by simp), h.2.2⟩⟩
  | x :: xs, m, hm, hx, ⟨h1, h2, h3⟩ => ⟨h1, h2, asc_insert s hs ys hy xs _ (hx x (by simp)) (fun b hb => hx b (by simp [hb])) h3⟩
theorem asc_erase (s : ByteArray) (ys : List ByteArray) : ∀ (xs : List ByteArray) (m : Int), asc m (xs ++ s :: ys) → asc m (xs ++ ys)
  | [], m, ⟨_, h2, h3⟩ => asc_mono _ _ _ (by omega) h3
  | x :: xs, m, ⟨h1, h2, h3⟩ => ⟨h1, h2, asc_erase s ys xs _ h3⟩
theorem asc_mid (s : ByteArray) (ys : List ByteArray) : ∀ (xs : List ByteArray) (m : Int), asc m (xs ++ s :: ys) → (∀ b ∈ xs, er b < er s) ∧ (∀ b ∈ ys, er s < er b) ∧ kv s = true ∧ m < er s
  | [], m, ⟨h1, h2, h3⟩ => ⟨by simp, fun b hb => (asc_all _ _ h3 b hb).2, h1, h2⟩
  | x :: xs, m, ⟨h1, h2, h3⟩ => by
    obtain ⟨g1, g2, g3, g4⟩ := asc_mid s ys xs _ h3
    refine ⟨fun b hb => ?_, g2, g3, by omega⟩
    rcases List.mem_cons.1 hb with e | hb
    · rw [e]; exact g4
    · exact g1 b hb
theorem asc_last : ∀ (xs : List ByteArray) (p : ByteArray) (m : Int), asc m xs → ∀ b ∈ xs, er b ≤ er (lastB p xs)
  | [], _, _, _, b, hb => by simp at hb
  | [x], _, _, _, b, hb => by rw [List.mem_singleton.1 hb]; exact Int.le_refl _
  | x :: y :: xs, p, m, ⟨h1, h2, h3⟩, b, hb => by
    have ih := asc_last (y :: xs) x _ h3
    rcases List.mem_cons.1 hb with e | hb
    · have := ih y (by simp)
      have := h3.2.1
      rw [e]
      show er x ≤ er (lastB x (y :: xs))
      omega
    · exact ih b hb
theorem asc_step (z : ByteArray) : ∀ (bs : List ByteArray) (m : Int), asc m bs → ∀ i, i + 1 < bs.length → kv (bs.getD i z) = true ∧ kv (bs.getD (i + 1) z) = true ∧ er (bs.getD i z) < er (bs.getD (i + 1) z)
  | [], _, _, i, h => by simp at h
  | [_], _, _, i, h => by simp at h
  | x :: y :: xs, m, ⟨h1, h2, h3⟩, 0, _ => ⟨h1, h3.1, h3.2.1⟩
  | x :: y :: xs, m, ⟨h1, h2, h3⟩, i + 1, h => asc_step z (y :: xs) _ h3 i (by simpa using h)
/-- bounds up to a rank, and those above it -/
theorem asc_cut (e : Int) : ∀ (bs : List ByteArray) (m : Int), asc m bs → ∃ xs ys, bs = xs ++ ys ∧ (∀ b ∈ xs, er b ≤ e) ∧ (∀ b ∈ ys, e < er b)
  | [], _, _ => ⟨[], [], rfl, by simp, by simp⟩
  | b :: bs, m, ⟨h1, h2, h3⟩ => by
    by_cases c : er b ≤ e
    · obtain ⟨xs, ys, g1, g2, g3⟩ := asc_cut e bs _ h3
      refine ⟨b :: xs, ys, by rw [g1]; rfl, fun x hx => ?_, g3⟩
      rcases List.mem_cons.1 hx with e | hx
      · rw [e]; exact c
      · exact g2 x hx
    · refine ⟨[], b :: bs, rfl, by simp, fun x hx => ?_⟩
      rcases List.mem_cons.1 hx with e | hx
      · rw [e]; omega
      · have := (asc_all _ _ h3 x hx).2
        omega
theorem list_cut {β : Type} (l : List β) (n : Nat) (h : n < l.length) : ∃ xs b ys, l = xs ++ b :: ys ∧ xs.length = n :=
  ⟨l.take n, l[n]'h, l.drop (n + 1), by rw [← List.drop_eq_getElem_cons h, List.take_append_drop], by rw [List.length_take]; omega⟩
section
variable {α : Type} (lo hi : α → ByteArray) (mk : ByteArray → ByteArray → α)
theorem parts_first (z : α) (p : ByteArray) (bs : List ByteArray) : (parts mk p bs).getD 0 z = mk p (headB bs) := by cases bs <;> rfl
theorem parts_ne (p : ByteArray) (bs : List ByteArray) : parts mk p bs ≠ [] := by
  intro h
  have := parts_len mk bs p
  rw [h] at this
  simp at this
theorem split_parts (s : ByteArray) (ys : List ByteArray) : ∀ (xs : List ByteArray) (p : ByteArray), (parts mk p (xs ++ ys)).take xs.length ++ mk (lastB p xs) s :: mk s (headB ys) :: (parts mk p (xs ++ ys)).drop (xs.length + 1) = parts mk p (xs ++ s :: ys)
  | [], p => by cases ys <;> simp [parts, lastB, headB]
  | x :: xs, p => by
    have ih := split_parts s ys xs x
    simp only [List.cons_append, parts, List.length_cons, List.take_succ_cons, List.drop_succ_cons, lastB]
    rw [ih]
theorem merge_parts (b : ByteArray) (ys : List ByteArray) : ∀ (xs : List ByteArray) (p : ByteArray), (parts mk p (xs ++ b :: ys)).take xs.length ++ mk (lastB p xs) (headB ys) :: (parts mk p (xs ++ b :: ys)).drop (xs.length + 2) = parts mk p (xs ++ ys)
  | [], p => by cases ys <;> simp [parts, lastB, headB]
  | x :: xs, p => by
    have ih := merge_parts b ys xs x
    simp only [List.cons_append, parts, List.length_cons, List.take_succ_cons, List.drop_succ_cons, lastB]
    rw [ih]
theorem parts_at (z : α) (ys : List ByteArray) : ∀ (xs : List ByteArray) (p : ByteArray), (parts mk p (xs ++ ys)).getD xs.length z = mk (lastB p xs) (headB ys)
  | [], p => parts_first mk z p ys
  | x :: xs, p => parts_at z ys xs x
variable (hlo : ∀ a b, lo (mk a b) = a) (hhi : ∀ a b, hi (mk a b) = b)
include hlo in
theorem parts_lows : ∀ (bs : List ByteArray) (p : ByteArray), (parts mk p bs).map lo = p :: bs
  | [], p => by simp [parts, hlo]
  | b :: bs, p => by rw [parts, List.map_cons, hlo, parts_lows bs b]
include hlo in
theorem parts_bounds (bs : List ByteArray) (p : ByteArray) : ((parts mk p bs).drop 1).map lo = bs := by
  rw [List.map_drop, parts_lows lo mk hlo]
  rfl
include hhi in
theorem parts_last (z : α) : ∀ (bs : List ByteArray) (p : ByteArray), hi ((parts mk p bs).getD bs.length z) = mkS []
  | [], p => by simp [parts, hhi]
  | b :: bs, p => parts_last z bs b
/-- what is asked of bounds behind a lower bound -/
def pok : ByteArray → List ByteArray → Prop
  | p, [] => iv p (mkS []) = true
  | p, b :: bs => iv p b = true ∧ er b ≠ 0 ∧ pok b bs
theorem pok_iff : ∀ (bs : List ByteArray) (p : ByteArray), pok p bs ↔ kv0 p ∧ asc (mx1 (er p)) bs
  | [], p => by
    show iv p (mkS []) = true ↔ kv0 p ∧ True
    rw [iv_iff, er_nil (toList_mkS [])]
    exact ⟨fun h => ⟨h.1, trivial⟩, fun h => ⟨h.1, kv0_nil (toList_mkS []), .inl rfl⟩⟩
  | b :: bs, p => by
    show iv p b = true ∧ er b ≠ 0 ∧ pok b bs ↔ kv0 p ∧ kv b = true ∧ mx1 (er p) < er b ∧ asc (er b) bs
    rw [pok_iff bs b, iv_iff, kv_iff]
    constructor
    · rintro ⟨⟨h1, h2, h3⟩, h4, _, h6⟩
      have e : mx1 (er b) = er b := by unfold mx1; rw [if_neg (by omega)]
      rw [e] at h6
      refine ⟨h1, ⟨h2, by omega⟩, ?_, h6⟩
      unfold mx1
      by_cases c : er p < 1
      · rw [if_pos c]; omega
      · rw [if_neg c]; omega
    · rintro ⟨h1, ⟨h2, h3⟩, h4, h5⟩
      have h6 : er p < er b ∧ 1 < er b := by
        unfold mx1 at h4
        by_cases c : er p < 1
        · rw [if_pos c] at h4; omega
        · rw [if_neg c] at h4; omega
      have e : mx1 (er b) = er b := by unfold mx1; rw [if_neg (by omega)]
      rw [e]
      exact ⟨⟨h1, h2, .inr h6⟩, by omega, h2, h5⟩
include hlo hhi in
theorem steps_parts (z : α) : ∀ (bs : List ByteArray) (p : ByteArray), (∀ j, j < (parts mk p bs).length → stepI lo hi z (parts mk p bs) j) ↔ pok p bs
  | [], p => by
    show (∀ j, j < 1 → stepI lo hi z [mk p (mkS [])] j) ↔ iv p (mkS []) = true
    constructor
    · intro h
      have := (h 0 (by omega)).1
      simpa [hlo, hhi] using this
    · intro h j hj
      obtain rfl : j = 0 := by omega
      exact ⟨by simpa [hlo, hhi] using h, fun h => absurd h (Nat.lt_irrefl 0)⟩
  | b :: bs, p => by
    have ih := steps_parts z bs b
    have hl := parts_len mk bs b
    have h0 : (parts mk b bs).getD 0 z = mk b (headB bs) := parts_first mk z b bs
    show (∀ j, j < (mk p b :: parts mk b bs).length → stepI lo hi z (mk p b :: parts mk b bs) j) ↔ iv p b = true ∧ er b ≠ 0 ∧ pok b bs
    rw [← ih, List.length_cons]
    constructor
    · intro h
      have s0 := (h 0 (by omega)).1
      have s1 := (h 1 (by omega)).2 (by omega)
      have a1 := (joinI_ok _ _ _ _).1 s1
      refine ⟨by simpa [hlo, hhi] using s0, by simpa [hhi] using a1.2.2.1, fun j hj => ?_⟩
      have sj := h (j + 1) (by omega)
      refine ⟨by simpa using sj.1, fun hp => ?_⟩
      have := sj.2 (by omega)
      unfold adj at this ⊢
      obtain ⟨j, rfl⟩ : ∃ m, j = m + 1 := ⟨j - 1, by omega⟩
      simpa using this
    · rintro ⟨h1, h2, h3⟩ j hj
      cases j with
      | zero => exact ⟨by simpa [hlo, hhi] using h1, fun h => absurd h (Nat.lt_irrefl 0)⟩
      | succ j =>
        have sj := h3 j (by omega)
        refine ⟨by simpa using sj.1, fun _ => ?_⟩
        cases j with
        | zero =>
          have s1 := sj.1
          rw [h0, hlo, hhi] at s1
          refine (joinI_ok _ _ _ _).2 ?_
          rw [List.getD_cons_succ, h0, hlo, hhi]
          show iv (lo (mk p b)) (hi (mk p b)) = true ∧ iv b (headB bs) = true ∧ er (hi (mk p b)) ≠ 0 ∧ hi (mk p b) = b
          rw [hlo, hhi]
          exact ⟨h1, s1, h2, rfl⟩
        | succ j =>
          have := sj.2 (by omega)
          unfold adj at this ⊢
          simpa using this
include hlo hhi in
theorem ptv_parts (z : α) (bs : List ByteArray) : PtV lo hi z (parts mk (mkS []) bs) ↔ bs.length ≤ 5 ∧ asc 1 bs := by
  have e : mx1 (er (mkS [])) = 1 := by rw [er_nil (toList_mkS [])]; rfl
  have hp := (steps_parts lo hi mk hlo hhi z bs (mkS [])).trans (pok_iff bs (mkS []))
  rw [e] at hp
  have hl := parts_len mk bs (mkS [])
  unfold PtV
  rw [hp]
  constructor
  · rintro ⟨h1, _, _, h4⟩
    exact ⟨by omega, h4.2⟩
  · rintro ⟨h1, h2⟩
    refine ⟨by omega, ?_, ?_, kv0_nil (toList_mkS []), h2⟩
    · rw [parts_first, hlo]; exact toList_mkS []
    · rw [hl, show bs.length + 1 - 1 = bs.length by omega, parts_last hi mk hhi]; exact toList_mkS []
variable (heta : ∀ x, mk (lo x) (hi x) = x)
include heta in
theorem eq_parts (z : α) : ∀ (l : List α), l ≠ [] → (∀ j, j + 1 < l.length → hi (l.getD j z) = lo (l.getD (j + 1) z)) → (hi (l.getD (l.length - 1) z)).toList = [] → l = parts mk (lo (l.getD 0 z)) ((l.drop 1).map lo)
  | [], h, _, _ => absurd rfl h
  | [a], _, _, h => by
    have h' : hi a = mkS [] := str_ext (by rw [toList_mkS]; exact h)
    show [a] = [mk (lo a) (mkS [])]
    rw [← h', heta]
  | a :: b :: l, _, h, hl => by
    have ih := eq_parts z (b :: l) (by simp) (fun j hj => by have := h (j + 1) (by simpa using hj); simpa using this) (by simpa using hl)
    have h0 := h 0 (by simp)
    have h0' : hi a = lo b := h0
    show a :: b :: l = mk (lo a) (lo b) :: parts mk (lo b) (l.map lo)
    rw [← h0', heta, h0']
    congr 1
include hlo hhi heta in
/-- a partition is made of its bounds -/
theorem ptv_made (z : α) (l : List α) (h : PtV lo hi z l) : ∃ bs, bs.length ≤ 5 ∧ asc 1 bs ∧ l = parts mk (mkS []) bs := by
  have hne : l ≠ [] := by
    intro e
    have := h.1.1
    rw [e] at this
    simp at this
  have e := eq_parts lo hi mk heta z l hne (fun j hj => by
    have := (joinI_ok _ _ _ _).1 ((h.2.2.2 (j + 1) hj).2 (by omega))
    rw [show j + 1 - 1 = j by omega] at this
    exact this.2.2.2) h.2.2.1
  have e0 : lo (l.getD 0 z) = mkS [] := str_ext (by rw [toList_mkS]; exact h.2.1)
  rw [e0] at e
  generalize (l.drop 1).map lo = bs at e
  rw [e] at h
  have := (ptv_parts lo hi mk hlo hhi z bs).1 h
  exact ⟨bs, this.1, this.2, e⟩
include hlo hhi in
/-- of the intervals between bounds just one has a key -/
theorem has_parts (z : α) (s : ByteArray) (hs : kv s = true) (ys : List ByteArray) (hy : ∀ b ∈ ys, er s < er b) : ∀ (xs : List ByteArray) (p : ByteArray), kv0 p → er p ≤ er s → asc (mx1 (er p)) (xs ++ ys) → (∀ b ∈ xs, er b ≤ er s) → ∀ i, i ≤ xs.length + ys.length → hasI (lo ((parts mk p (xs ++ ys)).getD i z)) (hi ((parts mk p (xs ++ ys)).getD i z)) s = decide (i = xs.length)
  | x :: xs, p, hp, hps, ha, hx, 0, _ => by
    show hasI (lo (mk p x)) (hi (mk p x)) s = false
    rw [hlo, hhi, Bool.eq_false_iff]
    intro hh
    have := (hasI_iff _ _ _).1 hh
    have := hx x (by simp)
    have := er_pos ha.1
    omega
  | x :: xs, p, hp, hps, ha, hx, i + 1, h => by
    have hxx := er_pos ha.1
    have e : mx1 (er x) = er x := by unfold mx1; rw [if_neg (by omega)]
    have ih := has_parts z s hs ys hy xs x (kv0_of_kv ha.1) (hx x (by simp)) (by rw [e]; exact ha.2.2) (fun b hb => hx b (by simp [hb])) i (by rw [List.length_cons] at h; omega)
    show hasI (lo ((parts mk x (xs ++ ys)).getD i z)) (hi ((parts mk x (xs ++ ys)).getD i z)) s = decide (i + 1 = xs.length + 1)
    rw [ih]
    apply bool_eq
    simp
  | [], p, hp, hps, ha, hx, 0, _ => by
    rw [List.nil_append, parts_first, hlo, hhi]
    refine (hasI_iff _ _ _).2 ?_
    cases ys with
    | nil => exact ⟨(iv_iff _ _).2 ⟨hp, kv0_nil (toList_mkS []), .inl (er_nil (toList_mkS []))⟩, hs, hps, .inl (er_nil (toList_mkS []))⟩
    | cons y ys =>
      have h1 := hy y (by simp)
      have h2 := er_pos hs
      exact ⟨(iv_iff _ _).2 ⟨hp, kv0_of_kv ha.1, .inr (show er p < er y ∧ 1 < er y by omega)⟩, hs, hps, .inr h1⟩
  | [], p, hp, hps, ha, hx, i + 1, h => by
    cases ys with
    | nil => simp at h
    | cons y ys =>
      show hasI (lo ((parts mk y ys).getD i z)) (hi ((parts mk y ys).getD i z)) s = false
      have hm : lo ((parts mk y ys).getD i z) ∈ y :: ys := by
        rw [← parts_lows lo mk hlo ys y]
        refine List.mem_map_of_mem (getD_mem z _ i ?_)
        rw [parts_len]
        simp only [List.length_cons, List.length_nil] at h
        omega
      rw [Bool.eq_false_iff]
      intro hh
      have h1 := (hasI_iff _ _ _).1 hh
      have h2 := hy _ hm
      omega
theorem fi_at (z : α) (s : ByteArray) (q : Nat) : ∀ (l : List α) (n : Nat), q < l.length → (∀ i, i < l.length → hasI (lo (l.getD i z)) (hi (l.getD i z)) s = decide (i = q)) → fi lo hi s l n = ((n + q : Nat) : Int) := by
  induction q with
  | zero =>
    intro l n hq h
    cases l with
    | nil => simp at hq
    | cons a l =>
      have := h 0 (by simp)
      rw [fi, if_pos (by simpa using this)]
      rfl
  | succ q ih =>
    intro l n hq h
    cases l with
    | nil => simp at hq
    | cons a l =>
      have h0 := h 0 (by simp)
      have := ih l (n + 1) (by simpa using hq) (fun i hi => by
        have := h (i + 1) (by simpa using hi)
        simpa using this)
      rw [fi, if_neg (by
        intro hh
        have h0' : hasI (lo a) (hi a) s = decide (0 = q + 1) := h0
        rw [hh] at h0'
        simp at h0'), this]
      congr 1
      omega
include hlo hhi in
/-- where a key is in a partition -/
theorem find_parts (z : α) (s : ByteArray) (hs : kv s = true) (xs ys : List ByteArray) (hl : (xs ++ ys).length ≤ 5) (ha : asc 1 (xs ++ ys)) (hx : ∀ b ∈ xs, er b ≤ er s) (hy : ∀ b ∈ ys, er s < er b) : findI lo hi z (parts mk (mkS []) (xs ++ ys)) s = (xs.length : Int) ∧ ∀ i, i < (parts mk (mkS []) (xs ++ ys)).length → hasI (lo ((parts mk (mkS []) (xs ++ ys)).getD i z)) (hi ((parts mk (mkS []) (xs ++ ys)).getD i z)) s = decide (i = xs.length) := by
  have e : mx1 (er (mkS [])) = 1 := by rw [er_nil (toList_mkS [])]; rfl
  have e0 := er_nil (toList_mkS [])
  have hp := er_pos hs
  have hll := parts_len mk (xs ++ ys) (mkS [])
  have h := has_parts lo hi mk hlo hhi z s hs ys hy xs (mkS []) (kv0_nil (toList_mkS [])) (by omega) (by rw [e]; exact ha) hx
  rw [List.length_append] at hll hl
  have h' : ∀ i, i < (parts mk (mkS []) (xs ++ ys)).length → hasI (lo ((parts mk (mkS []) (xs ++ ys)).getD i z)) (hi ((parts mk (mkS []) (xs ++ ys)).getD i z)) s = decide (i = xs.length) := fun i hi' => h i (by omega)
  refine ⟨?_, h'⟩
  unfold findI
  rw [if_pos ((ptv_iff _ _ _ _).2 ((ptv_parts lo hi mk hlo hhi z _).2 ⟨by rw [List.length_append]; omega, ha⟩)), fi_at lo hi z s xs.length _ 0 (by omega) h', Nat.zero_add]
include hlo hhi in
theorem of_parts (z : α) (bs : List ByteArray) (hl : bs.length ≤ 5) (ha : asc 1 bs) : ofI lo hi z mk bs = (parts mk (mkS []) bs, true) := by
  unfold ofI
  rw [if_pos ((ptv_iff _ _ _ _).2 ((ptv_parts lo hi mk hlo hhi z _).2 ⟨hl, ha⟩))]
include hlo hhi in
theorem bounds_parts (z : α) (bs : List ByteArray) (hl : bs.length ≤ 5) (ha : asc 1 bs) : boundsI lo hi z (parts mk (mkS []) bs) = bs := by
  unfold boundsI
  rw [if_pos ((ptv_iff _ _ _ _).2 ((ptv_parts lo hi mk hlo hhi z _).2 ⟨hl, ha⟩)), parts_bounds lo mk hlo]
end
theorem lastB_cases : ∀ (xs : List ByteArray) (p : ByteArray), lastB p xs = p ∨ lastB p xs ∈ xs
  | [], p => .inl rfl
  | x :: xs, p => by
    rcases lastB_cases xs x with h | h
    · right; show lastB x xs ∈ x :: xs; rw [h]; simp
    · right; exact List.mem_cons_of_mem _ h
theorem headB_cases (ys : List ByteArray) : headB ys = mkS [] ∨ headB ys ∈ ys := by
  cases ys with
  | nil => exact .inl rfl
  | cons y ys => right; show y ∈ y :: ys; simp
section
variable {α : Type} (lo hi : α → ByteArray) (mk : ByteArray → ByteArray → α)
theorem parts_next (z : α) (b : ByteArray) (ys : List ByteArray) : ∀ (xs : List ByteArray) (p : ByteArray), (parts mk p (xs ++ b :: ys)).getD (xs.length + 1) z = mk b (headB ys)
  | [], p => parts_first mk z b ys
  | x :: xs, p => parts_next z b ys xs x
variable (hlo : ∀ a b, lo (mk a b) = a) (hhi : ∀ a b, hi (mk a b) = b)
include hlo hhi in
theorem splitI_at (z : α) (s : ByteArray) (hs : kv s = true) (xs ys : List ByteArray) (hl : (xs ++ ys).length ≤ 5) (ha : asc 1 (xs ++ ys)) (hx : ∀ b ∈ xs, er b ≤ er s) (hy : ∀ b ∈ ys, er s < er b) : splitI lo hi z mk (parts mk (mkS []) (xs ++ ys)) s = if iv (lastB (mkS []) xs) s = true ∧ iv s (headB ys) = true ∧ xs.length + ys.length < 5 then (parts mk (mkS []) (xs ++ s :: ys), true) else (parts mk (mkS []) (xs ++ ys), false) := by
  obtain ⟨hf, hh⟩ := find_parts lo hi mk hlo hhi z s hs xs ys hl ha hx hy
  have h1 := hh xs.length (by rw [parts_len, List.length_append]; omega)
  rw [parts_at mk z ys xs, hlo, hhi, decide_eq_true rfl] at h1
  have h2 := ((hasI_iff _ _ _).1 h1).1
  unfold splitI
  rw [hf, if_neg (by omega), Int.toNat_natCast, parts_at mk z ys xs, hlo, hhi, parts_len, List.length_append]
  by_cases c : iv (lastB (mkS []) xs) s = true ∧ iv s (headB ys) = true
  · have e : cutI (lastB (mkS []) xs) (headB ys) s = (lastB (mkS []) xs, s, s, headB ys, true) := by unfold cutI; rw [if_pos ⟨h2, hs, c.1, c.2⟩]
    rw [e]
    dsimp only
    by_cases d : xs.length + ys.length < 5
    · rw [if_pos ⟨rfl, by omega⟩, if_pos ⟨c.1, c.2, d⟩, split_parts]
    · rw [if_neg (fun h => d (by omega)), if_neg (fun h => d h.2.2)]
  · have e : cutI (lastB (mkS []) xs) (headB ys) s = (mkS [], mkS [], mkS [], mkS [], false) := by unfold cutI; rw [if_neg (fun h => c ⟨h.2.2.1, h.2.2.2⟩)]
    rw [e]
    dsimp only
    rw [if_neg (fun h => by cases h.1), if_neg (fun h => c ⟨h.1, h.2.1⟩)]
include hlo hhi in
theorem split_back (z : α) (s : ByteArray) (xs ys : List ByteArray) (hl : (xs ++ s :: ys).length ≤ 5) (ha : asc 1 (xs ++ s :: ys)) : splitI lo hi z mk (parts mk (mkS []) (xs ++ ys)) s = (parts mk (mkS []) (xs ++ s :: ys), true) := by
  obtain ⟨h1, h2, h3, h4⟩ := asc_mid s ys xs 1 ha
  rw [List.length_append, List.length_cons] at hl
  have hb := asc_erase s ys xs 1 ha
  rw [splitI_at lo hi mk hlo hhi z s h3 xs ys (by rw [List.length_append]; omega) hb (fun b hb => by have := h1 b hb; omega) h2, if_pos]
  have n0 := kv0_nil (toList_mkS [])
  have e0 := er_nil (toList_mkS [])
  have s0 := kv0_of_kv h3
  refine ⟨(iv_iff _ _).2 ?_, (iv_iff _ _).2 ?_, by omega⟩
  · rcases lastB_cases xs (mkS []) with e | e
    · rw [e]; exact ⟨n0, s0, by omega⟩
    · have := (asc_all _ _ (asc_left xs ys 1 hb) _ e).1
      have := h1 _ e
      exact ⟨kv0_of_kv (by assumption), s0, by omega⟩
  · rcases headB_cases ys with e | e
    · rw [e]; exact ⟨s0, n0, by omega⟩
    · have := (asc_all _ _ (asc_right xs ys 1 hb) _ e).1
      have := h2 _ e
      exact ⟨s0, kv0_of_kv (by assumption), by omega⟩
include hlo hhi in
theorem mergeI_at (z : α) (b : ByteArray) (xs ys : List ByteArray) (hl : (xs ++ b :: ys).length ≤ 5) (ha : asc 1 (xs ++ b :: ys)) : mergeI lo hi z mk (parts mk (mkS []) (xs ++ b :: ys)) (xs.length : Int) = (parts mk (mkS []) (xs ++ ys), true) := by
  unfold mergeI
  rw [if_pos ((ptv_iff _ _ _ _).2 ((ptv_parts lo hi mk hlo hhi z _).2 ⟨hl, ha⟩)), parts_len, List.length_append, List.length_cons, if_pos ⟨by omega, by omega⟩, Int.toNat_natCast, parts_at mk z (b :: ys) xs, parts_next mk z b ys xs, hlo, hhi, merge_parts]
variable (heta : ∀ x, mk (lo x) (hi x) = x)
include hlo hhi heta in
theorem find_some (z : α) (s : ByteArray) (l : List α) (h : PtV lo hi z l) : ∃ xs ys, l = parts mk (mkS []) (xs ++ ys) ∧ asc 1 (xs ++ ys) ∧ (xs ++ ys).length ≤ 5 ∧ (∀ b ∈ xs, er b ≤ er s) ∧ (∀ b ∈ ys, er s < er b) := by
  obtain ⟨bs, h1, h2, h3⟩ := ptv_made lo hi mk hlo hhi heta z l h
  obtain ⟨xs, ys, rfl, h4, h5⟩ := asc_cut (er s) bs 1 h2
  exact ⟨xs, ys, h3, h2, h1, h4, h5⟩
include hlo hhi heta in
theorem split_ok (z : α) (s : ByteArray) (l : List α) (h : (splitI lo hi z mk l s).2 = true) : ∃ xs ys, l = parts mk (mkS []) (xs ++ ys) ∧ (splitI lo hi z mk l s).1 = parts mk (mkS []) (xs ++ s :: ys) ∧ (xs ++ s :: ys).length ≤ 5 ∧ asc 1 (xs ++ s :: ys) := by
  have hr := findI_range lo hi z l s
  by_cases f : findI lo hi z l s < 0
  · unfold splitI at h
    rw [if_pos f] at h; cases h
  obtain ⟨hv, _, _⟩ : ptv lo hi z l = true ∧ 0 ≤ findI lo hi z l s ∧ findI lo hi z l s < l.length := by
    rcases hr with e | e
    · omega
    · exact e
  have hs : kv s = true := by
    rcases hb : kv s with _ | _
    · exfalso
      have := fi_none lo hi s hb l 0
      unfold findI at f
      rw [if_pos hv, this] at f
      omega
    · rfl
  obtain ⟨xs, ys, rfl, ha, hl, hx, hy⟩ := find_some lo hi mk hlo hhi heta z s l ((ptv_iff _ _ _ _).1 hv)
  have e := splitI_at lo hi mk hlo hhi z s hs xs ys hl ha hx hy
  rw [List.length_append] at hl
  rw [e] at h ⊢
  by_cases c : iv (lastB (mkS []) xs) s = true ∧ iv s (headB ys) = true ∧ xs.length + ys.length < 5
  · have i1 := (iv_iff _ _).1 c.1
    have hp := er_pos hs
    refine ⟨xs, ys, rfl, by rw [if_pos c], by rw [List.length_append, List.length_cons]; omega, asc_insert s hs ys hy xs 1 (by omega) (fun b hb => ?_) ha⟩
    have := asc_last xs (mkS []) 1 (asc_left xs ys 1 ha) b hb
    omega
  · rw [if_neg c] at h; cases h
include hlo hhi heta in
theorem merge_ok (z : α) (l : List α) (n : Int) (h : (mergeI lo hi z mk l n).2 = true) : ∃ xs b ys, l = parts mk (mkS []) (xs ++ b :: ys) ∧ n = (xs.length : Int) ∧ (mergeI lo hi z mk l n).1 = parts mk (mkS []) (xs ++ ys) ∧ (xs ++ b :: ys).length ≤ 5 ∧ asc 1 (xs ++ b :: ys) := by
  by_cases hv : ptv lo hi z l = true
  · by_cases c : 0 ≤ n ∧ n ≤ (l.length : Int) - 2
    · obtain ⟨bs, h1, h2, rfl⟩ := ptv_made lo hi mk hlo hhi heta z l ((ptv_iff _ _ _ _).1 hv)
      rw [parts_len] at c
      obtain ⟨xs, b, ys, rfl, hn⟩ := list_cut bs n.toNat (by omega)
      obtain rfl : n = (xs.length : Int) := by omega
      exact ⟨xs, b, ys, rfl, rfl, by rw [mergeI_at lo hi mk hlo hhi z b xs ys h1 h2], h1, h2⟩
    · unfold mergeI at h
      rw [if_pos hv, if_neg c] at h; cases h
  · unfold mergeI at h
    rw [if_neg hv] at h; cases h
theorem split_no (z : α) (s : ByteArray) (l : List α) (h : ¬ (splitI lo hi z mk l s).2 = true) : (splitI lo hi z mk l s).1 = l ∨ (splitI lo hi z mk l s).1 = [] := by
  unfold splitI at h ⊢
  by_cases f : findI lo hi z l s < 0
  · rw [if_pos f]; exact .inr rfl
  · rw [if_neg f] at h ⊢
    by_cases g : (cutI (lo (l.getD (findI lo hi z l s).toNat z)) (hi (l.getD (findI lo hi z l s).toNat z)) s).2.2.2.2 = true ∧ l.length < 6
    · rw [if_pos g] at h; exact absurd rfl h
    · rw [if_neg g]; exact .inl rfl
theorem merge_no (z : α) (l : List α) (n : Int) (h : ¬ (mergeI lo hi z mk l n).2 = true) : (mergeI lo hi z mk l n).1 = l ∨ (mergeI lo hi z mk l n).1 = [] := by
  unfold mergeI at h ⊢
  by_cases f : ptv lo hi z l = true
  · rw [if_pos f] at h ⊢
    by_cases c : 0 ≤ n ∧ n ≤ (l.length : Int) - 2
    · rw [if_pos c] at h; exact absurd rfl h
    · rw [if_neg c]; exact .inl rfl
  · rw [if_neg f]; exact .inr rfl
theorem ptv_drop (z : α) (l : List α) (h : PtV lo hi z l) : ¬ PtV lo hi z (l.drop 1) := by
  intro h2
  have hl : (l.drop 1).length = l.length - 1 := List.length_drop ..
  have h3 := h2.1
  have h4 := (joinI_ok _ _ _ _).1 ((h.2.2.2 1 (by omega)).2 (by omega))
  have h5 := h2.2.1
  have e : (l.drop 1).getD 0 z = l.getD 1 z := by
    rw [List.getD_eq_getElem?_getD, List.getD_eq_getElem?_getD, List.getElem?_drop]
  rw [e, ← h4.2.2.2] at h5
  exact h4.2.2.1 (er_nil h5)
theorem ptv_snoc (z x : α) (l : List α) (h : PtV lo hi z l) : ¬ PtV lo hi z (l ++ [x]) := by
  intro h2
  have h1 := h.1
  have h4 := (joinI_ok _ _ _ _).1 ((h2.2.2.2 l.length (by rw [List.length_append]; simp)).2 (by omega))
  have e : (l ++ [x]).getD (l.length - 1) z = l.getD (l.length - 1) z := by
    rw [List.getD_eq_getElem?_getD, List.getD_eq_getElem?_getD, List.getElem?_append_left (by omega)]
  rw [e] at h4
  exact h4.2.2.1 (er_nil h.2.2.1)
theorem ptv_nil (z : α) : ¬ PtV lo hi z ([] : List α) := fun h => by have := h.1.1; simp at this
end
end Go.Proofs.Ytohafpgcnknooaa.Th
