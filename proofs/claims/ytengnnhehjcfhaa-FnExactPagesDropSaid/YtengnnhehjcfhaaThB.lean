/- Plain laws of intervals of keys: no program in sight. -/
import Derived.Test.YtengnnhehjcfhaaThA
namespace Go.Proofs.Ytengnnhehjcfhaa.Th
open Go Go.RowKit Go.Proofs.YtengnnhehjcfhaaW.PrintWords
set_option linter.unusedVariables false
set_option linter.unusedSimpArgs false

instance okL_dec (l : List UInt8) (d : Nat) : Decidable (okL l d) := by unfold okL; infer_instance
instance kv0_dec (s : ByteArray) : Decidable (kv0 s) := okL_dec _ _
def aK : ByteArray := mkS [97]
theorem aK_toList : aK.toList = [97] := toList_mkS _
theorem aK_kv : kv aK = true := by unfold kv; rw [aK_toList]; rfl
theorem aK_er : er aK = 1 := by unfold er; rw [aK_toList]; rfl
theorem kv0_iff (s : ByteArray) : kv0 s ↔ s.toList = [] ∨ kv s = true := by
  constructor
  · intro h
    by_cases e : s.toList = []
    · exact .inl e
    · exact .inr (kv_of_kv0 h e)
  · rintro (h | h)
    · exact kv0_nil h
    · exact kv0_of_kv h
theorem kv_nil {s : ByteArray} (h : s.toList = []) : kv s = false := by unfold kv; rw [h]; rfl
theorem kv_iff (s : ByteArray) : kv s = true ↔ kv0 s ∧ 1 ≤ er s := by
  constructor
  · intro h; exact ⟨kv0_of_kv h, er_pos h⟩
  · rintro ⟨h, h1⟩
    exact kv_of_kv0 h (fun e => by have := er_nil e; omega)
/-- IntervalValid -/
def iv (lo hi : ByteArray) : Bool := decide (kv0 lo ∧ kv0 hi ∧ (er hi = 0 ∨ (er lo < er hi ∧ 1 < er hi)))
theorem iv_iff (lo hi : ByteArray) : iv lo hi = true ↔ kv0 lo ∧ kv0 hi ∧ (er hi = 0 ∨ (er lo < er hi ∧ 1 < er hi)) := by simp [iv]
theorem er_a (s : ByteArray) (h : kv0 s) : s.toList = [97] ↔ er s = 1 := by
  constructor
  · intro e; unfold er; rw [e]; rfl
  · intro e
    rw [er_inj h (kv0_of_kv aK_kv) (by rw [e, aK_er]), aK_toList]
/-- IntervalHas -/
def hasI (lo hi key : ByteArray) : Bool := decide (iv lo hi = true ∧ kv key = true ∧ er lo ≤ er key ∧ (er hi = 0 ∨ er key < er hi))
theorem hasI_iff (lo hi key : ByteArray) : hasI lo hi key = true ↔ iv lo hi = true ∧ kv key = true ∧ er lo ≤ er key ∧ (er hi = 0 ∨ er key < er hi) := by simp [hasI]
/-- IntervalJoin -/
def joinI (l1 h1 l2 h2 : ByteArray) : ByteArray × ByteArray × Bool := if iv l1 h1 = true ∧ iv l2 h2 = true ∧ er h1 ≠ 0 ∧ h1 = l2 then (l1, h2, true) else (mkS [], mkS [], false)
/-- IntervalCut -/
def cutI (lo hi key : ByteArray) : ByteArray × ByteArray × ByteArray × ByteArray × Bool := if iv lo hi = true ∧ kv key = true ∧ iv lo key = true ∧ iv key hi = true then (lo, key, key, hi, true) else (mkS [], mkS [], mkS [], mkS [], false)
/-- the greater one of two lower bounds -/
def mxI (a b : ByteArray) : ByteArray := if lt a b then b else a
/-- the lesser one of two upper bounds -/
def mnI (a b : ByteArray) : ByteArray := if a.toList = [] then b else if b.toList = [] then a else if lt b a then b else a
/-- IntervalMeet -/
def meetI (l1 h1 l2 h2 : ByteArray) : ByteArray × ByteArray × Bool := if iv l1 h1 = true ∧ iv l2 h2 = true ∧ iv (mxI l1 l2) (mnI h1 h2) = true then (mxI l1 l2, mnI h1 h2, true) else (mkS [], mkS [], false)
theorem mx_er {a b : ByteArray} (ha : kv0 a) (hb : kv0 b) : kv0 (mxI a b) ∧ er (mxI a b) = if er a < er b then er b else er a := by
  unfold mxI
  by_cases h : lt a b
  · rw [if_pos h, if_pos ((lt_iff ha hb).1 h)]; exact ⟨hb, rfl⟩
  · rw [if_neg h, if_neg (fun h' => h ((lt_iff ha hb).2 h'))]; exact ⟨ha, rfl⟩
theorem mn_er {a b : ByteArray} (ha : kv0 a) (hb : kv0 b) : kv0 (mnI a b) ∧ er (mnI a b) = if er a = 0 then er b else if er b = 0 then er a else if er b < er a then er b else er a := by
  unfold mnI
  by_cases h1 : a.toList = []
  · rw [if_pos h1, if_pos (er_nil h1)]; exact ⟨hb, rfl⟩
  · rw [if_neg h1, if_neg (fun e => h1 ((er_eq_zero ha).1 e))]
    by_cases h2 : b.toList = []
    · rw [if_pos h2, if_pos (er_nil h2)]; exact ⟨ha, rfl⟩
    · rw [if_neg h2, if_neg (fun e => h2 ((er_eq_zero hb).1 e))]
      by_cases h : lt b a
      · rw [if_pos h, if_pos ((lt_iff hb ha).1 h)]; exact ⟨hb, rfl⟩
      · rw [if_neg h, if_neg (fun h' => h ((lt_iff hb ha).2 h'))]; exact ⟨ha, rfl⟩
theorem bool_eq {a b : Bool} (h : a = true ↔ b = true) : a = b := by cases a <;> cases b <;> simp_all
end Go.Proofs.Ytengnnhehjcfhaa.Th
