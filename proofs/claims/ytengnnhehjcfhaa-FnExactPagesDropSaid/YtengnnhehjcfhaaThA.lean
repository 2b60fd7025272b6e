/- Plain laws of strings, keys and their ranks: no program in sight. -/
import Derived.Test.YtengnnhehjcfhaaWWords
import Derived.Test.YtengnnhehjcfhaaWMore
import Derived.Lib.Strings
import Derived.Lib.Bytealg
import Derived.Lib.MinMaxS
import Derived.Sort.Walk0
namespace Go.Proofs.Ytengnnhehjcfhaa.Th
open Go Go.RowKit Go.Proofs.YtengnnhehjcfhaaW.PrintWords
set_option linter.unusedVariables false
set_option linter.unusedSimpArgs false

/-! ### 1. strings as lists of bytes -/
def mkS (l : List UInt8) : ByteArray := ⟨l.toArray⟩
theorem toList_mkS (l : List UInt8) : (mkS l).toList = l := by rw [Lib.toList_data]; rfl
theorem mkS_toList (s : ByteArray) : mkS s.toList = s := by rw [Lib.toList_data]; cases s; simp [mkS]
theorem mkS_surj (s : ByteArray) : ∃ l, s = mkS l := ⟨s.toList, (mkS_toList s).symm⟩
theorem size_mkS (l : List UInt8) : (mkS l).size = l.length := by simp [mkS, ByteArray.size]
theorem size_toList (s : ByteArray) : s.size = s.toList.length := by rw [Lib.toList_data, Array.length_toList]; rfl
theorem str_ext {a b : ByteArray} (h : a.toList = b.toList) : a = b := by rw [← mkS_toList a, ← mkS_toList b, h]
theorem str_eq_iff {a b : ByteArray} : a = b ↔ a.toList = b.toList := ⟨fun h => by rw [h], str_ext⟩
theorem mkS_nil : (⟨#[]⟩ : ByteArray) = mkS [] := rfl
theorem empty_toList : (⟨#[]⟩ : ByteArray).toList = [] := toList_mkS []
theorem bt_mkS (l : List UInt8) (i : Nat) (h : i < l.length) : bt (mkS l) (i : Int) = ((l[i]'h).toNat : Int) := by
  have h' : i < (mkS l).size := by rw [size_mkS]; exact h
  rw [← bt_at (mkS l) (i : Int) (by simpa using h')]
  rfl
theorem bt_zero (c : UInt8) (l : List UInt8) : bt (mkS (c :: l)) 0 = (c.toNat : Int) := bt_mkS (c :: l) 0 (by simp)
theorem extract_mkS (l : List UInt8) (a b : Nat) : (mkS l).extract a b = mkS ((l.take b).drop a) := by
  apply str_ext
  rw [Lib.toList_data, Lib.toList_data]
  simp [mkS, List.extract_eq_take_drop, List.drop_take]
theorem append_mkS (a b : List UInt8) : mkS a ++ mkS b = mkS (a ++ b) := by
  apply str_ext
  rw [Lib.toList_data, Lib.toList_data, ByteArray.data_append]
  simp [mkS]

/-! ### 2. the order of strings -/
abbrev lt (a b : ByteArray) : Prop := Op.bytesLess a.toList b.toList = true
theorem bl_irrefl : ∀ (a : List UInt8), Op.bytesLess a a = false
  | [] => rfl
  | c :: a => by
    rw [Op.bytesLess, bl_irrefl a]
    simp [UInt8.lt_irrefl]
theorem bl_trans : ∀ (a b c : List UInt8), Op.bytesLess a b = true → Op.bytesLess b c = true → Op.bytesLess a c = true
  | [], [], c, h, _ => by simp [Op.bytesLess] at h
  | [], y :: b, [], _, h => by simp [Op.bytesLess] at h
  | [], y :: b, z :: c, _, _ => rfl
  | x :: a, [], c, h, _ => by simp [Op.bytesLess] at h
  | x :: a, y :: b, [], _, h => by simp [Op.bytesLess] at h
  | x :: a, y :: b, z :: c, h1, h2 => by
    simp only [Op.bytesLess, Bool.or_eq_true, Bool.and_eq_true, decide_eq_true_eq, beq_iff_eq] at h1 h2 ⊢
    rcases h1 with h1 | ⟨h1, h1'⟩ <;> rcases h2 with h2 | ⟨h2, h2'⟩
    · exact .inl (UInt8.lt_trans h1 h2)
    · subst h2; exact .inl h1
    · subst h1; exact .inl h2
    · subst h1; subst h2; exact .inr ⟨rfl, bl_trans a b c h1' h2'⟩
theorem bl_total : ∀ (a b : List UInt8), Op.bytesLess a b = false → Op.bytesLess b a = false → a = b
  | [], [], _, _ => rfl
  | [], y :: b, h, _ => by simp [Op.bytesLess] at h
  | x :: a, [], _, h => by simp [Op.bytesLess] at h
  | x :: a, y :: b, h1, h2 => by
    simp only [Op.bytesLess, Bool.or_eq_false_iff, Bool.and_eq_false_iff, decide_eq_false_iff_not, beq_eq_false_iff_ne] at h1 h2
    have e : x = y := by
      rcases UInt8.lt_or_lt_of_ne (a := x) (b := y) with h
      by_cases e : x = y
      · exact e
      · rcases h e with h | h
        · exact absurd h h1.1
        · exact absurd h h2.1
    subst e
    rw [bl_total a b (by simpa using h1.2) (by simpa using h2.2)]
theorem lt_irrefl (a : ByteArray) : ¬ lt a a := by simp [lt, bl_irrefl]
theorem lt_trans {a b c : ByteArray} (h1 : lt a b) (h2 : lt b c) : lt a c := bl_trans _ _ _ h1 h2
theorem lt_asymm {a b : ByteArray} (h1 : lt a b) (h2 : lt b a) : False := lt_irrefl a (lt_trans h1 h2)
theorem lt_total {a b : ByteArray} (h1 : ¬ lt a b) (h2 : ¬ lt b a) : a = b := str_ext (bl_total _ _ (by simpa [lt] using h1) (by simpa [lt] using h2))
theorem not_lt_trans {a b c : ByteArray} (h1 : ¬ lt b a) (h2 : ¬ lt c b) : ¬ lt c a := by
  intro h
  by_cases e : lt a b
  · exact h2 (lt_trans h e)
  · have := lt_total e h1
    subst this
    exact h2 h
theorem lt_of_lt_of_not {a b c : ByteArray} (h1 : lt a b) (h2 : ¬ lt c b) : lt a c := by
  by_cases e : lt b c
  · exact lt_trans h1 e
  · have := lt_total e h2
    subst this
    exact h1
theorem lt_of_not_of_lt {a b c : ByteArray} (h1 : ¬ lt b a) (h2 : lt b c) : lt a c := by
  by_cases e : lt a b
  · exact lt_trans e h2
  · have := lt_total e h1
    subst this
    exact h2
theorem compare_eq : ∀ (a b : List UInt8), Lib.compareBytes a b = if Op.bytesLess a b = true then -1 else if Op.bytesLess b a = true then 1 else 0
  | [], [] => rfl
  | [], _ :: _ => rfl
  | _ :: _, [] => rfl
  | x :: a, y :: b => by
    rw [Lib.compareBytes, compare_eq a b, Op.bytesLess, Op.bytesLess]
    by_cases h1 : x < y
    · simp [h1]
    · by_cases h2 : y < x
      · have hne : x ≠ y := fun e => by subst e; exact h1 h2
        simp [h1, h2, hne]
      · have e : x = y := UInt8.le_antisymm (UInt8.not_lt.1 h2) (UInt8.not_lt.1 h1)
        subst e
        simp [h1]

/-! ### 3. keys and their ranks -/
def letter (c : UInt8) : Bool := decide (97 ≤ (c.toNat : Int)) && decide ((c.toNat : Int) ≤ 122)
def kvL (l : List UInt8) : Bool := decide (1 ≤ l.length) && decide (l.length ≤ 4) && l.all letter
/-- a valid key -/
def kv (s : ByteArray) : Bool := kvL s.toList
def wt : Nat → Int
  | 1 => 18279
  | 2 => 703
  | 3 => 27
  | _ => 1
/-- how many strings of letters, the empty one included, come before the string whose first letter stands at depth d -/
def erL : List UInt8 → Nat → Int
  | [], _ => 0
  | c :: l, d => 1 + ((c.toNat : Int) - 97) * wt d + erL l (d + 1)
/-- a key's rank and one; 0 for the empty string -/
def er (s : ByteArray) : Int := erL s.toList 1
theorem wt_pos (d : Nat) : 1 ≤ wt d := by unfold wt; split <;> omega
theorem letter_iff (c : UInt8) : letter c = true ↔ 97 ≤ (c.toNat : Int) ∧ (c.toNat : Int) ≤ 122 := by simp [letter]
theorem wt_4 : wt 4 = 1 := rfl
/-- a string of letters, not longer than what remains -/
def okL (l : List UInt8) (d : Nat) : Prop := l.length + d ≤ 5 ∧ 1 ≤ d ∧ l.all letter = true
theorem okL_tail {c : UInt8} {l : List UInt8} {d : Nat} (h : okL (c :: l) d) : okL l (d + 1) ∧ 97 ≤ (c.toNat : Int) ∧ (c.toNat : Int) ≤ 122 ∧ d ≤ 4 := by
  obtain ⟨h1, h2, h3⟩ := h
  simp only [List.all_cons, Bool.and_eq_true, List.length_cons] at h1 h3
  exact ⟨⟨by omega, by omega, h3.2⟩, ((letter_iff c).1 h3.1).1, ((letter_iff c).1 h3.1).2, by omega⟩
theorem erL_range : ∀ (l : List UInt8) (d : Nat), okL l d → 0 ≤ erL l d ∧ erL l d ≤ 26 * wt d
  | [], d, h => by have := wt_pos d; simp only [erL]; omega
  | c :: l, d, h => by
    obtain ⟨h1, h2, h3, h4⟩ := okL_tail h
    have ih := erL_range l (d + 1) h1
    have hd : d = 1 ∨ d = 2 ∨ d = 3 ∨ d = 4 := by have := h.2.1; omega
    simp only [erL]
    rcases hd with rfl | rfl | rfl | rfl
    · simp only [wt] at ih ⊢; omega
    · simp only [wt] at ih ⊢; omega
    · simp only [wt] at ih ⊢; omega
    · have hl : l = [] := by have := h1.1; exact List.eq_nil_of_length_eq_zero (by omega)
      subst hl
      simp only [wt, erL] at ih ⊢; omega
theorem erL_rest (l : List UInt8) (d : Nat) (h : okL l (d + 1)) (h1 : 1 ≤ d) (h4 : d ≤ 4) : 0 ≤ erL l (d + 1) ∧ erL l (d + 1) < wt d := by
  have ih := erL_range l (d + 1) h
  have hd : d = 1 ∨ d = 2 ∨ d = 3 ∨ d = 4 := by omega
  rcases hd with rfl | rfl | rfl | rfl
  · simp only [wt] at ih ⊢; omega
  · simp only [wt] at ih ⊢; omega
  · simp only [wt] at ih ⊢; omega
  · have hl : l = [] := by have := h.1; exact List.eq_nil_of_length_eq_zero (by omega)
    subst hl
    simp only [wt, erL] at ih ⊢; omega
theorem mul_step {x y w p q : Int} (h : x < y) (hw : 1 ≤ w) (hp : p < w) (hq : 0 ≤ q) : (x - 97) * w + p < (y - 97) * w + q := by
  have : (y - 97) * w = (x - 97) * w + (y - x) * w := by rw [← Int.add_mul]; congr 1; omega
  have h2 : w ≤ (y - x) * w := by
    have := Int.mul_le_mul_of_nonneg_right (show (1 : Int) ≤ y - x by omega) (show (0 : Int) ≤ w by omega)
    omega
  omega
theorem bl_iff : ∀ (a b : List UInt8) (d : Nat), okL a d → okL b d → (Op.bytesLess a b = true ↔ erL a d < erL b d)
  | [], [], d, _, _ => by simp [Op.bytesLess, erL]
  | [], y :: b, d, _, hb => by
    obtain ⟨h1, h2, h3, h4⟩ := okL_tail hb
    have ih := erL_rest b d h1 hb.2.1 h4
    have hm : 0 ≤ ((y.toNat : Int) - 97) * wt d := Int.mul_nonneg (by omega) (by have := wt_pos d; omega)
    simp only [Op.bytesLess, erL, true_iff]
    omega
  | x :: a, [], d, ha, _ => by
    obtain ⟨h1, h2, h3, h4⟩ := okL_tail ha
    have ih := erL_rest a d h1 ha.2.1 h4
    have hm : 0 ≤ ((x.toNat : Int) - 97) * wt d := Int.mul_nonneg (by omega) (by have := wt_pos d; omega)
    simp only [Op.bytesLess, erL, Bool.false_eq_true, false_iff]
    omega
  | x :: a, y :: b, d, ha, hb => by
    obtain ⟨a1, a2, a3, a4⟩ := okL_tail ha
    obtain ⟨b1, b2, b3, b4⟩ := okL_tail hb
    have ra := erL_rest a d a1 ha.2.1 a4
    have rb := erL_rest b d b1 hb.2.1 b4
    have hw := wt_pos d
    simp only [Op.bytesLess, Bool.or_eq_true, Bool.and_eq_true, decide_eq_true_eq, beq_iff_eq, erL]
    have hlt : x < y ↔ (x.toNat : Int) < (y.toNat : Int) := by rw [UInt8.lt_iff_toNat_lt]; omega
    have heq : x = y ↔ (x.toNat : Int) = (y.toNat : Int) := by rw [← UInt8.toNat_inj]; omega
    rw [hlt, heq, bl_iff a b (d + 1) a1 b1]
    rcases Int.lt_trichotomy (x.toNat : Int) (y.toNat : Int) with h | h | h
    · have := mul_step h hw ra.2 rb.1
      constructor
      · intro _; omega
      · intro _; exact .inl h
    · rw [h]
      constructor
      · rintro (h' | ⟨_, h'⟩) <;> omega
      · intro h'; exact .inr ⟨rfl, by omega⟩
    · have := mul_step h hw rb.2 ra.1
      constructor
      · rintro (h' | ⟨h', _⟩) <;> omega
      · intro h'; omega
theorem kvL_iff (l : List UInt8) : kvL l = true ↔ l ≠ [] ∧ okL l 1 := by
  unfold kvL okL
  cases l with
  | nil => simp
  | cons c l => simp [Nat.succ_le_succ_iff]
/-- empty, or a valid key -/
def kv0 (s : ByteArray) : Prop := okL s.toList 1
theorem kv0_of_kv {s : ByteArray} (h : kv s = true) : kv0 s := ((kvL_iff _).1 h).2
theorem kv_ne {s : ByteArray} (h : kv s = true) : s.toList ≠ [] := ((kvL_iff _).1 h).1
theorem kv_of_kv0 {s : ByteArray} (h : kv0 s) (hn : s.toList ≠ []) : kv s = true := (kvL_iff _).2 ⟨hn, h⟩
theorem kv0_nil {s : ByteArray} (h : s.toList = []) : kv0 s := by unfold kv0; rw [h]; exact ⟨by simp, by omega, rfl⟩
theorem lt_iff {a b : ByteArray} (ha : kv0 a) (hb : kv0 b) : lt a b ↔ er a < er b := bl_iff _ _ 1 ha hb
theorem er_inj {a b : ByteArray} (ha : kv0 a) (hb : kv0 b) (h : er a = er b) : a = b :=
  lt_total (by rw [lt_iff ha hb]; omega) (by rw [lt_iff hb ha]; omega)
theorem er_nil {s : ByteArray} (h : s.toList = []) : er s = 0 := by unfold er; rw [h]; rfl
theorem er_range {s : ByteArray} (h : kv0 s) : 0 ≤ er s ∧ er s ≤ 475254 := by have := erL_range _ 1 h; simpa [er, wt] using this
theorem er_pos {s : ByteArray} (h : kv s = true) : 1 ≤ er s := by
  have h0 := kv0_of_kv h
  have hn := kv_ne h
  rcases Int.lt_or_le 0 (er s) with h1 | h1
  · omega
  · exfalso
    have := er_range h0
    have e : s = mkS [] := er_inj h0 (kv0_nil (toList_mkS [])) (by rw [er_nil (toList_mkS [])]; omega)
    rw [e, toList_mkS] at hn
    exact hn rfl
theorem er_eq_zero {s : ByteArray} (h : kv0 s) : er s = 0 ↔ s.toList = [] := by
  constructor
  · intro e
    by_cases hn : s.toList = []
    · exact hn
    · have := er_pos (kv_of_kv0 h hn); omega
  · exact er_nil

/-! ### 4. the key of a rank -/
/-- the letter whose place in the alphabet is n -/
def chr (n : Int) : UInt8 := (97 + n).toNat.toUInt8
theorem chr_toNat {n : Int} (h0 : 0 ≤ n) (h1 : n < 26) : ((chr n).toNat : Int) = 97 + n := by
  unfold chr
  rw [UInt8.toNat_ofNat']
  omega
/-- the string before which n strings come, the empty one included -/
def keyL : Nat → Int → Nat → List UInt8
  | 0, _, _ => []
  | f + 1, n, d => if n = 0 then [] else chr ((n - 1) / wt d) :: keyL f ((n - 1) % wt d) (d + 1)
theorem keyL_ok : ∀ (f : Nat) (n : Int) (d : Nat), 1 ≤ d → f + d = 5 → 0 ≤ n → n ≤ 26 * wt d → (f = 0 → n = 0) → okL (keyL f n d) d ∧ erL (keyL f n d) d = n
  | 0, n, d, h1, hf, h0, hn, hz => by
    refine ⟨⟨by simp [keyL]; try omega, h1, rfl⟩, ?_⟩
    rw [hz rfl]
    rfl
  | f + 1, n, d, h1, hf, h0, hn, _ => by
    unfold keyL
    by_cases hz : n = 0
    · rw [if_pos hz]
      exact ⟨⟨by simp only [List.length_nil]; omega, h1, rfl⟩, by rw [hz]; rfl⟩
    · rw [if_neg hz]
      have hw := wt_pos d
      have hd : d = 1 ∨ d = 2 ∨ d = 3 ∨ d = 4 := by omega
      have hq : 0 ≤ (n - 1) / wt d ∧ (n - 1) / wt d < 26 := by
        rcases hd with rfl | rfl | rfl | rfl <;> simp only [wt] at hn ⊢ <;> omega
      have hr : 0 ≤ (n - 1) % wt d ∧ (n - 1) % wt d ≤ 26 * wt (d + 1) ∧ (f = 0 → (n - 1) % wt d = 0) := by
        rcases hd with rfl | rfl | rfl | rfl <;> simp only [wt] at hn ⊢ <;> omega
      obtain ⟨ih1, ih2⟩ := keyL_ok f ((n - 1) % wt d) (d + 1) (by omega) (by omega) hr.1 hr.2.1 hr.2.2
      have hc := chr_toNat hq.1 hq.2
      refine ⟨⟨?_, h1, ?_⟩, ?_⟩
      · have := ih1.1
        simp only [List.length_cons]
        omega
      · rw [List.all_cons, ih1.2.2, Bool.and_true, letter_iff]
        omega
      · simp only [erL, ih2, hc]
        have := Int.mul_ediv_add_emod (n - 1) (wt d)
        rw [show (97 + (n - 1) / wt d - 97) = (n - 1) / wt d by omega, Int.mul_comm]
        omega
theorem div_facts {n : Int} {d : Nat} (h1 : 1 ≤ d) (h4 : d ≤ 4) (h0 : 0 ≤ n) (hn : n + 1 ≤ 26 * wt d) :
    0 ≤ n / wt d ∧ n / wt d < 26 ∧ 0 ≤ n % wt d ∧ n % wt d < wt d ∧ n ≤ 475253 ∧ wt d ≤ 18279 ∧ (d = 4 → n % wt d = 0) ∧ (d ≤ 3 → wt d = 1 + 26 * wt (d + 1)) := by
  have hd : d = 1 ∨ d = 2 ∨ d = 3 ∨ d = 4 := by omega
  rcases hd with rfl | rfl | rfl | rfl <;> simp only [wt] at hn ⊢ <;> omega
/-- the key whose rank and one is n -/
def keyOf (n : Int) : ByteArray := mkS (keyL 4 n 1)
theorem keyOf_ok {n : Int} (h0 : 0 ≤ n) (h1 : n ≤ 475254) : kv0 (keyOf n) ∧ er (keyOf n) = n := by
  have := keyL_ok 4 n 1 (by omega) (by omega) h0 (by simpa [wt] using h1) (by omega)
  unfold kv0 er keyOf
  rw [toList_mkS]
  exact this
theorem keyOf_kv {n : Int} (h0 : 1 ≤ n) (h1 : n ≤ 475254) : kv (keyOf n) = true := by
  obtain ⟨h2, h3⟩ := keyOf_ok (n := n) (by omega) h1
  exact kv_of_kv0 h2 (fun e => by have := er_nil e; omega)
theorem keyOf_er {s : ByteArray} (h : kv0 s) : keyOf (er s) = s := by
  have h1 := er_range h
  obtain ⟨h2, h3⟩ := keyOf_ok h1.1 h1.2
  exact er_inj h2 h h3

/-! ### 5. the next key -/
/-- of a string's bytes, the last one first: the z's at its end fall away, the letter before them goes one on -/
def sibR : List UInt8 → List UInt8
  | [] => []
  | c :: r => if (c.toNat : Int) = 122 then sibR r else (c.toNat + 1).toUInt8 :: r
theorem erL_append : ∀ (a b : List UInt8) (d : Nat), erL (a ++ b) d = erL a d + erL b (d + a.length)
  | [], b, d => by simp [erL]
  | c :: a, b, d => by
    simp only [List.cons_append, erL, erL_append a b (d + 1), List.length_cons]
    rw [show d + 1 + a.length = d + (a.length + 1) by omega]
    omega
theorem erL_zs (m d : Nat) (h : m + d = 5) (h2 : 2 ≤ d) : erL (List.replicate m 122) d = wt (d - 1) - 1 := by
  have hd : (d = 2 ∧ m = 3) ∨ (d = 3 ∧ m = 2) ∨ (d = 4 ∧ m = 1) ∨ (d = 5 ∧ m = 0) := by omega
  rcases hd with ⟨rfl, rfl⟩ | ⟨rfl, rfl⟩ | ⟨rfl, rfl⟩ | ⟨rfl, rfl⟩ <;> rfl
theorem sibR_ok : ∀ (r : List UInt8) (m : Nat), r.length + m = 4 → r.all letter = true →
    (sibR r = [] ∧ erL (r.reverse ++ List.replicate m 122) 1 = 475254) ∨
    (okL (sibR r).reverse 1 ∧ sibR r ≠ [] ∧ erL (sibR r).reverse 1 = erL (r.reverse ++ List.replicate m 122) 1 + 1)
  | [], m, h, _ => by
    have : m = 4 := by simpa using h
    subst this
    exact .inl ⟨rfl, rfl⟩
  | c :: r, m, h, ha => by
    simp only [List.all_cons, Bool.and_eq_true, List.length_cons] at ha h
    have hc := (letter_iff c).1 ha.1
    unfold sibR
    by_cases hz : (c.toNat : Int) = 122
    · rw [if_pos hz]
      have hcz : c = 122 := by rw [← UInt8.toNat_inj]; show c.toNat = 122; omega
      subst hcz
      have ih := sibR_ok r (m + 1) (by omega) ha.2
      rw [List.replicate_succ] at ih
      simpa [List.reverse_cons, List.append_assoc] using ih
    · rw [if_neg hz]
      right
      have hn : (((c.toNat + 1).toUInt8).toNat : Int) = (c.toNat : Int) + 1 := by
        rw [UInt8.toNat_ofNat']
        omega
      refine ⟨⟨by simp; omega, by omega, ?_⟩, by simp, ?_⟩
      · rw [List.reverse_cons, List.all_append, List.all_reverse, ha.2]
        simp only [List.all_cons, List.all_nil, Bool.and_true, Bool.true_and, letter_iff]
        omega
      · rw [List.reverse_cons, List.reverse_cons, List.append_assoc, erL_append, erL_append, List.length_reverse]
        simp only [List.cons_append, List.nil_append, erL, hn]
        have hzs := erL_zs m (1 + r.length + 1) (by omega) (by omega)
        rw [hzs, show 1 + r.length + 1 - 1 = 1 + r.length by omega]
        have : ((c.toNat : Int) + 1 - 97) * wt (1 + r.length) = ((c.toNat : Int) - 97) * wt (1 + r.length) + wt (1 + r.length) := by
          rw [show (c.toNat : Int) + 1 - 97 = ((c.toNat : Int) - 97) + 1 by omega, Int.add_mul, Int.one_mul]
        omega
/-- the next valid key -/
def knext (s : ByteArray) : ByteArray := if kv s = true then (if er s = 475254 then mkS [] else keyOf (er s + 1)) else mkS []
theorem knext_short {s : ByteArray} (h : kv s = true) (h4 : s.toList.length < 4) : mkS (s.toList ++ [97]) = knext s := by
  have h0 := kv0_of_kv h
  have hk : kv0 (mkS (s.toList ++ [97])) := by
    unfold kv0
    rw [toList_mkS]
    refine ⟨by simp; omega, by omega, ?_⟩
    rw [List.all_append, h0.2.2]
    rfl
  have he : er (mkS (s.toList ++ [97])) = er s + 1 := by
    unfold er
    rw [toList_mkS, erL_append]
    simp only [erL]
    have : ((97 : UInt8).toNat : Int) = 97 := rfl
    rw [this]
    omega
  have h1 := er_range hk
  unfold knext
  rw [if_pos h, if_neg (by omega), ← he, keyOf_er hk]
theorem knext_long {s : ByteArray} (h : kv s = true) (h4 : s.toList.length = 4) : mkS (sibR s.toList.reverse).reverse = knext s := by
  have h0 := kv0_of_kv h
  have h1 := er_range h0
  have := sibR_ok s.toList.reverse 0 (by simpa using h4) (by rw [List.all_reverse]; exact h0.2.2)
  simp only [List.reverse_reverse, List.replicate_zero, List.append_nil] at this
  unfold knext
  rw [if_pos h]
  rcases this with ⟨e1, e2⟩ | ⟨e1, e2, e3⟩
  · rw [e1, if_pos (by unfold er; exact e2)]
    rfl
  · have hk : kv0 (mkS (sibR s.toList.reverse).reverse) := by unfold kv0; rw [toList_mkS]; exact e1
    have he : er (mkS (sibR s.toList.reverse).reverse) = er s + 1 := by unfold er; rw [toList_mkS]; exact e3
    have h2 := er_range hk
    rw [if_neg (by omega), ← he, keyOf_er hk]

/-- KeyOrder -/
def kord (a b : ByteArray) : Int := if kv a = true ∧ kv b = true then (if lt a b then -1 else if lt b a then 1 else 0) else 2
/-- KeyRank -/
def krank (s : ByteArray) : Int := if kv s = true then er s - 1 else -1
/-- KeyAt -/
def kat (n : Int) : ByteArray := if 0 ≤ n ∧ n ≤ 475253 then keyOf (n + 1) else mkS []
theorem wrap_small {x : Int} (h0 : -9223372036854775808 ≤ x) (h1 : x ≤ 9223372036854775807) : wrap64 x = x := by unfold wrap64; omega
theorem encode_small (n : Nat) (h : n < 128) : Utf8.encode (n : Int) = mkS [n.toUInt8] := by
  unfold Utf8.encode Utf8.valid
  have h1 : (0 : Int) ≤ (n : Int) := by omega
  have h2 : (n : Int) < 55296 := by omega
  simp [h1, h2, show n < 128 from h]
  rfl
theorem strOfNums_one (n : Nat) : strOfNums [(n : Int)] = mkS [n.toUInt8] := by
  apply str_ext
  rw [toList_mkS]
  rw [Lib.toList_data]
  simp [strOfNums]

/-! ### 6. the greater and the lesser of two strings -/
theorem maxS_eq (a b : ByteArray) : Lib.maxS a b = if lt a b then b else a := by
  unfold Lib.maxS
  by_cases h : lt a b
  · rw [if_pos h, if_pos]
    have := h
    rw [lt, bytesLess_eq, Lib.toList_data, Lib.toList_data] at this
    simpa using this
  · rw [if_neg h, if_neg]
    intro h'
    apply h
    rw [lt, bytesLess_eq, Lib.toList_data, Lib.toList_data]
    simpa using h'
theorem minS_eq (a b : ByteArray) : Lib.minS a b = if lt b a then b else a := by
  unfold Lib.minS
  by_cases h : a.data.toList < b.data.toList
  · have h1 : lt a b := by rw [lt, bytesLess_eq, Lib.toList_data, Lib.toList_data]; simpa using h
    rw [if_pos (.inl h), if_neg (fun h2 => lt_asymm h1 h2)]
  · by_cases e : a.data.toList = b.data.toList
    · rw [if_pos (.inr e)]
      have : a = b := str_ext (by rw [Lib.toList_data, Lib.toList_data, e])
      subst this
      rw [if_neg (lt_irrefl a)]
    · rw [if_neg (by rintro (h' | h') <;> contradiction), if_pos]
      have h1 : ¬ lt a b := by rw [lt, bytesLess_eq, Lib.toList_data, Lib.toList_data]; simpa using h
      rcases Classical.em (lt b a) with h2 | h2
      · exact h2
      · have := lt_total h1 h2
        subst this
        exact absurd rfl e
/-! ### steps of a printed function -/
theorem bind_to {α β : Type} {x : Option α} {v : α} {f : α → Option β} {r : Option β} (h : x = some v) (h2 : f v = r) : x.bind f = r := by rw [h]; exact h2
theorem ite_t {α : Type} {c : Prop} [Decidable c] {x y r : α} (h : c) (h2 : x = r) : (if c then x else y) = r := by rw [if_pos h]; exact h2
theorem ite_f {α : Type} {c : Prop} [Decidable c] {x y r : α} (h : ¬ c) (h2 : y = r) : (if c then x else y) = r := by rw [if_neg h]; exact h2
theorem bne_no (b : Bool) : ¬ ((b != b) = true) := by simp
theorem ft_no : ¬ (false = true) := by simp
end Go.Proofs.Ytengnnhehjcfhaa.Th
