/- Plain laws of the common part of two intervals. -/
import Derived.Test.YtgpffbijmohfjaaThB
namespace Go.Proofs.Ytgpffbijmohfjaa.Th
open Go Go.RowKit Go.Proofs.YtgpffbijmohfjaaW.PrintWords
set_option linter.unusedVariables false
set_option linter.unusedSimpArgs false

theorem mxI_er {a b : ByteArray} (ha : kv0 a) (hb : kv0 b) : er a ≤ er (mxI a b) ∧ er b ≤ er (mxI a b) ∧ (er (mxI a b) = er a ∨ er (mxI a b) = er b) := by
  rw [(mx_er ha hb).2]
  by_cases c : er a < er b
  · rw [if_pos c]; omega
  · rw [if_neg c]; omega
theorem mnI_er {a b : ByteArray} (ha : kv0 a) (hb : kv0 b) : (er a = 0 ∧ er (mnI a b) = er b) ∨ (er a ≠ 0 ∧ er b = 0 ∧ er (mnI a b) = er a) ∨ (er a ≠ 0 ∧ er b ≠ 0 ∧ er b < er a ∧ er (mnI a b) = er b) ∨ (er a ≠ 0 ∧ er b ≠ 0 ∧ ¬ er b < er a ∧ er (mnI a b) = er a) := by
  rw [(mn_er ha hb).2]
  by_cases c1 : er a = 0
  · rw [if_pos c1]; omega
  · rw [if_neg c1]
    by_cases c2 : er b = 0
    · rw [if_pos c2]; omega
    · rw [if_neg c2]
      by_cases c3 : er b < er a
      · rw [if_pos c3]; omega
      · rw [if_neg c3]; omega
theorem mxI_comm {a b : ByteArray} (ha : kv0 a) (hb : kv0 b) : mxI a b = mxI b a := by
  have h1 := mxI_er ha hb
  have h2 := mxI_er hb ha
  exact er_inj (mx_er ha hb).1 (mx_er hb ha).1 (by omega)
theorem mnI_comm {a b : ByteArray} (ha : kv0 a) (hb : kv0 b) : mnI a b = mnI b a := by
  have h1 := mnI_er ha hb
  have h2 := mnI_er hb ha
  exact er_inj (mn_er ha hb).1 (mn_er hb ha).1 (by omega)
theorem meet_comm (s t u v : ByteArray) : meetI u v s t = meetI s t u v := by
  unfold meetI
  by_cases c : iv s t = true ∧ iv u v = true
  · have i1 := (iv_iff _ _).1 c.1
    have i2 := (iv_iff _ _).1 c.2
    rw [mxI_comm i2.1 i1.1, mnI_comm i2.2.1 i1.2.1]
    by_cases d : iv (mxI s u) (mnI t v) = true
    · rw [if_pos ⟨c.2, c.1, d⟩, if_pos ⟨c.1, c.2, d⟩]
    · rw [if_neg (fun h => d h.2.2), if_neg (fun h => d h.2.2)]
  · rw [if_neg (fun h => c ⟨h.2.1, h.1⟩), if_neg (fun h => c ⟨h.1, h.2.1⟩)]
theorem meet_has (s t u v x : ByteArray) (h : (meetI s t u v).2.2 = true) : hasI (meetI s t u v).1 (meetI s t u v).2.1 x = (hasI s t x && hasI u v x) := by
  unfold meetI at h ⊢
  by_cases c : iv s t = true ∧ iv u v = true ∧ iv (mxI s u) (mnI t v) = true
  · rw [if_pos c]
    show hasI (mxI s u) (mnI t v) x = _
    obtain ⟨c1, c2, c3⟩ := c
    have i1 := (iv_iff _ _).1 c1
    have i2 := (iv_iff _ _).1 c2
    have h1 := mxI_er i1.1 i2.1
    have h2 := mnI_er i1.2.1 i2.2.1
    have r1 := (er_range i1.2.1).1
    have r2 := (er_range i2.2.1).1
    apply bool_eq
    rw [Bool.and_eq_true, hasI_iff, hasI_iff, hasI_iff]
    constructor
    · rintro ⟨_, g1, g2, g3⟩
      exact ⟨⟨c1, g1, by omega, by omega⟩, c2, g1, by omega, by omega⟩
    · rintro ⟨⟨_, g1, g2, g3⟩, _, _, g4, g5⟩
      exact ⟨c3, g1, by omega, by omega⟩
  · rw [if_neg c] at h
    cases h
theorem meet_no (s t u v x : ByteArray) (h : (meetI s t u v).2.2 = false) : (hasI s t x && hasI u v x) = false := by
  rw [Bool.eq_false_iff]
  intro hh
  rw [Bool.and_eq_true, hasI_iff, hasI_iff] at hh
  obtain ⟨⟨c1, g1, g2, g3⟩, c2, _, g4, g5⟩ := hh
  have i1 := (iv_iff _ _).1 c1
  have i2 := (iv_iff _ _).1 c2
  have h1 := mxI_er i1.1 i2.1
  have h2 := mnI_er i1.2.1 i2.2.1
  have r1 := (er_range i1.2.1).1
  have r2 := (er_range i2.2.1).1
  have hp := er_pos g1
  have c3 : iv (mxI s u) (mnI t v) = true := (iv_iff _ _).2 ⟨(mx_er i1.1 i2.1).1, (mn_er i1.2.1 i2.2.1).1, by omega⟩
  unfold meetI at h
  rw [if_pos ⟨c1, c2, c3⟩] at h
  cases h
end Go.Proofs.Ytgpffbijmohfjaa.Th
