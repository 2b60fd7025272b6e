-- Cut by a program of this session (wip/prune.py) from words that the kit's print.sh printed: what nothing of this seat uses is left out.
/- Plain laws of strings, keys and their ranks: no program in sight. -/
import Derived.Test.YtengnnhehjcfhaaWWords
import Derived.Test.YtengnnhehjcfhaaWMore
import Derived.Lib.Strings
import Derived.Lib.Bytealg
import Derived.Lib.MinMaxS
import Derived.Sort.Walk0
namespace Go.Proofs.Ytengnnhehjcfhaa.Th
open Go Go.RowKit Go.Proofs.YtengnnhehjcfhaaW.PrintWords
set_option linter.unusedVariables false
set_option linter.unusedSimpArgs false
def mkS (l : List UInt8) : ByteArray := ⟨l.toArray⟩
theorem toList_mkS (l : List UInt8) : (mkS l).toList = l := by rw [Lib.toList_data]; rfl
theorem mkS_toList (s : ByteArray) : mkS s.toList = s := by rw [Lib.toList_data]; cases s; simp [mkS]
theorem mkS_surj (s : ByteArray) : ∃ l, s = mkS l := ⟨s.toList, (mkS_toList s).symm⟩
theorem size_mkS (l : List UInt8) : (mkS l).size = l.length := by simp [mkS, ByteArray.size]
theorem str_ext {a b : ByteArray} (h : a.toList = b.toList) : a = b := by rw [← mkS_toList a, ← mkS_toList b, h]
theorem str_eq_iff {a b : ByteArray} : a = b ↔ a.toList = b.toList := ⟨fun h => by rw [h], str_ext⟩
theorem mkS_nil : (⟨#[]⟩ : ByteArray) = mkS [] := rfl
theorem bt_mkS (l : List UInt8) (i : Nat) (h : i < l.length) : bt (mkS l) (i : Int) = ((l[i]'h).toNat : Int) := by
  have h' : i < (mkS l).size := by rw [size_mkS]; exact h
  rw [← bt_at (mkS l) (i : Int) (by simpa using h')]
  rfl
theorem bt_zero (c : UInt8) (l : List UInt8) : bt (mkS (c :: l)) 0 = (c.toNat : Int) := bt_mkS (c :: l) 0 (by simp)
theorem extract_mkS (l : List UInt8) (a b : Nat) : (mkS l).extract a b = mkS ((l.take b).drop a) := by
  apply str_ext
  rw [Lib.toList_data, Lib.toList_data]
  simp [mkS, List.extract_eq_take_drop, List.drop_take]
theorem append_mkS (a b : List UInt8) : mkS a ++ mkS b = mkS (a ++ b) := by
  apply str_ext
  rw [Lib.toList_data, Lib.toList_data, ByteArray.data_append]
  simp [mkS]
abbrev lt (a b : ByteArray) : Prop := Op.bytesLess a.toList b.toList = true
theorem bl_irrefl : ∀ (a : List UInt8), Op.bytesLess a a = false
  | [] => rfl
  | c :: a => by
    rw [Op.bytesLess, bl_irrefl a]
    simp [UInt8.lt_irrefl]
theorem bl_trans : ∀ (a b c : List UInt8), Op.bytesLess a b = true → Op.bytesLess b c = true → Op.bytesLess a c = true
  | [], [], c, h, _ => by simp [Op.bytesLess] at h
  | [], y :: b, [], _, h => by simp [Op.bytesLess] at h
  | [], y :: b, z :: c, _, _ => rfl
  | x :: a, [], c, h, _ => by simp [Op.bytesLess] at h
  | x :: a, y :: b, [], _, h => by simp [Op.bytesLess] at h
  | x :: a, y :: b, z :: c, h1, h2 => by
    simp only [Op.bytesLess, Bool.or_eq_true, Bool.and_eq_true, decide_eq_true_eq, beq_iff_eq] at h1 h2 ⊢
    rcases h1 with h1 | ⟨h1, h1'⟩ <;> rcases h2 with h2 | ⟨h2, h2'⟩
    · exact .inl (UInt8.lt_trans h1 h2)
    · subst h2; exact .inl h1
    · subst h1; exact .inl h2
    · subst h1; subst h2; exact .inr ⟨rfl, bl_trans a b c h1' h2'⟩
theorem bl_total : ∀ (a b : List UInt8), Op.bytesLess a b = false → Op.bytesLess b a = false → a = b
  | [], [], _, _ => rfl
  | [], y :: b, h, _ => by simp [Op.bytesLess] at h
  | x :: a, [], _, h => by simp [Op.bytesLess] at h
  | x :: a, y :: b, h1, h2 => by
    simp only [Op.bytesLess, Bool.or_eq_false_iff, Bool.and_eq_false_iff, decide_eq_false_iff_not, beq_eq_false_iff_ne] at h1 h2
    have e : x = y := by
      rcases UInt8.lt_or_lt_of_ne (a := x) (b := y) with h
      by_cases e : x = y
      · exact e
      · rcases h e with h | h
        · exact absurd h h1.1
        · exact absurd h h2.1
    subst e
    rw [bl_total a b (by simpa using h1.2) (by simpa using h2.2)]
theorem lt_irrefl (a : ByteArray) : ¬ lt a a := by simp [lt, bl_irrefl]
theorem lt_trans {a b c : ByteArray} (h1 : lt a b) (h2 : lt b c) : lt a c := bl_trans _ _ _ h1 h2
theorem lt_asymm {a b : ByteArray} (h1 : lt a b) (h2 : lt b a) : False := lt_irrefl a (lt_trans h1 h2)
theorem lt_total {a b : ByteArray} (h1 : ¬ lt a b) (h2 : ¬ lt b a) : a = b := str_ext (bl_total _ _ (by simpa [lt] using h1) (by simpa [lt] using h2))
theorem lt_of_lt_of_not {a b c : ByteArray} (h1 : lt a b) (h2 : ¬ lt c b) : lt a c := by
  by_cases e : lt b c
  · exact lt_trans h1 e
  · have := lt_total e h2
    subst this
    exact h1
def letter (c : UInt8) : Bool := decide (97 ≤ (c.toNat : Int)) && decide ((c.toNat : Int) ≤ 122)
def kvL (l : List UInt8) : Bool := decide (1 ≤ l.length) && decide (l.length ≤ 4) && l.all letter
def kv (s : ByteArray) : Bool := kvL s.toList
def wt : Nat → Int
  | 1 => 18279
  | 2 => 703
  | 3 => 27
  | _ => 1
def erL : List UInt8 → Nat → Int
  | [], _ => 0
  | c :: l, d => 1 + ((c.toNat : Int) - 97) * wt d + erL l (d + 1)
def er (s : ByteArray) : Int := erL s.toList 1
theorem wt_pos (d : Nat) : 1 ≤ wt d := by unfold wt; split <;> omega
theorem letter_iff (c : UInt8) : letter c = true ↔ 97 ≤ (c.toNat : Int) ∧ (c.toNat : Int) ≤ 122 := by simp [letter]
def okL (l : List UInt8) (d : Nat) : Prop := l.length + d ≤ 5 ∧ 1 ≤ d ∧ l.all letter = true
theorem okL_tail {c : UInt8} {l : List UInt8} {d : Nat} (h : okL (c :: l) d) : okL l (d + 1) ∧ 97 ≤ (c.toNat : Int) ∧ (c.toNat : Int) ≤ 122 ∧ d ≤ 4 := by
  obtain ⟨h1, h2, h3⟩ := h
  simp only [List.all_cons, Bool.and_eq_true, List.length_cons] at h1 h3
  exact ⟨⟨by omega, by omega, h3.2⟩, ((letter_iff c).1 h3.1).1, ((letter_iff c).1 h3.1).2, by omega⟩
theorem erL_range : ∀ (l : List UInt8) (d : Nat), okL l d → 0 ≤ erL l d ∧ erL l d ≤ 26 * wt d
  | [], d, h => by have := wt_pos d; simp only [erL]; omega
  | c :: l, d, h => by
    obtain ⟨h1, h2, h3, h4⟩ := okL_tail h
    have ih := erL_range l (d + 1) h1
    have hd : d = 1 ∨ d = 2 ∨ d = 3 ∨ d = 4 := by have := h.2.1; omega
    simp only [erL]
    rcases hd with rfl | rfl | rfl | rfl
    · simp only [wt] at ih ⊢; omega
    · simp only [wt] at ih ⊢; omega
    · simp only [wt] at ih ⊢; omega
    · have hl : l = [] := by have := h1.1; exact List.eq_nil_of_length_eq_zero (by omega)
      subst hl
      simp only [wt, erL] at ih ⊢; omega
theorem erL_rest (l : List UInt8) (d : Nat) (h : okL l (d + 1)) (h1 : 1 ≤ d) (h4 : d ≤ 4) : 0 ≤ erL l (d + 1) ∧ erL l (d + 1) < wt d := by
  have ih := erL_range l (d + 1) h
  have hd : d = 1 ∨ d = 2 ∨ d = 3 ∨ d = 4 := by omega
  rcases hd with rfl | rfl | rfl | rfl
  · simp only [wt] at ih ⊢; omega
  · simp only [wt] at ih ⊢; omega
  · simp only [wt] at ih ⊢; omega
  · have hl : l = [] := by have := h.1; exact List.eq_nil_of_length_eq_zero (by omega)
    subst hl
    simp only [wt, erL] at ih ⊢; omega
theorem mul_step {x y w p q : Int} (h : x < y) (hw : 1 ≤ w) (hp : p < w) (hq : 0 ≤ q) : (x - 97) * w + p < (y - 97) * w + q := by
  have : (y - 97) * w = (x - 97) * w + (y - x) * w := by rw [← Int.add_mul]; congr 1; omega
  have h2 : w ≤ (y - x) * w := by
    have := Int.mul_le_mul_of_nonneg_right (show (1 : Int) ≤ y - x by omega) (show (0 : Int) ≤ w by omega)
    omega
  omega
theorem bl_iff : ∀ (a b : List UInt8) (d : Nat), okL a d → okL b d → (Op.bytesLess a b = true ↔ erL a d < erL b d)
  | [], [], d, _, _ => by simp [Op.bytesLess, erL]
  | [], y :: b, d, _, hb => by
    obtain ⟨h1, h2, h3, h4⟩ := okL_tail hb
    have ih := erL_rest b d h1 hb.2.1 h4
    have hm : 0 ≤ ((y.toNat : Int) - 97) * wt d := Int.mul_nonneg (by omega) (by have := wt_pos d; omega)
    simp only [Op.bytesLess, erL, true_iff]
    omega
  | x :: a, [], d, ha, _ => by
    obtain ⟨h1, h2, h3, h4⟩ := okL_tail ha
    have ih := erL_rest a d h1 ha.2.1 h4
    have hm : 0 ≤ ((x.toNat : Int) - 97) * wt d := Int.mul_nonneg (by omega) (by have := wt_pos d; omega)
    simp only [Op.bytesLess, erL, Bool.false_eq_true, false_iff]
    omega
  | x :: a, y :: b, d, ha, hb => by
    obtain ⟨a1, a2, a3, a4⟩ := okL_tail ha
    obtain ⟨b1, b2, b3, b4⟩ := okL_tail hb
    have ra := erL_rest a d a1 ha.2.1 a4
    have rb := erL_rest b d b1 hb.2.1 b4
    have hw := wt_pos d
    simp only [Op.bytesLess, Bool.or_eq_true, Bool.and_eq_true, decide_eq_true_eq, beq_iff_eq, erL]
    have hlt : x < y ↔ (x.toNat : Int) < (y.toNat : Int) := by rw [UInt8.lt_iff_toNat_lt]; omega
    have heq : x = y ↔ (x.toNat : Int) = (y.toNat : Int) := by rw [← UInt8.toNat_inj]; omega
    rw [hlt, heq, bl_iff a b (d + 1) a1 b1]
    rcases Int.lt_trichotomy (x.toNat : Int) (y.toNat : Int) with h | h | h
    · have := mul_step h hw ra.2 rb.1
      constructor
      · intro _; omega
      · intro _; exact .inl h
    · rw [h]
      constructor
      · rintro (h' | ⟨_, h'⟩) <;> omega
      · intro h'; exact .inr ⟨rfl, by omega⟩
    · have := mul_step h hw rb.2 ra.1
      constructor
      · rintro (h' | ⟨h', _⟩) <;> omega
      · intro h'; omega
theorem kvL_iff (l : List UInt8) : kvL l = true ↔ l ≠ [] ∧ okL l 1 := by
  unfold kvL okL
  cases l with
  | nil => simp
  | cons c l => simp [Nat.succ_le_succ_iff]
def kv0 (s : ByteArray) : Prop := okL s.toList 1
theorem kv0_of_kv {s : ByteArray} (h : kv s = true) : kv0 s := ((kvL_iff _).1 h).2
theorem lt_iff {a b : ByteArray} (ha : kv0 a) (hb : kv0 b) : lt a b ↔ er a < er b := bl_iff _ _ 1 ha hb
theorem er_inj {a b : ByteArray} (ha : kv0 a) (hb : kv0 b) (h : er a = er b) : a = b :=
  lt_total (by rw [lt_iff ha hb]; omega) (by rw [lt_iff hb ha]; omega)
theorem er_range {s : ByteArray} (h : kv0 s) : 0 ≤ er s ∧ er s ≤ 475254 := by have := erL_range _ 1 h; simpa [er, wt] using this
def chr (n : Int) : UInt8 := (97 + n).toNat.toUInt8
def keyL : Nat → Int → Nat → List UInt8
  | 0, _, _ => []
  | f + 1, n, d => if n = 0 then [] else chr ((n - 1) / wt d) :: keyL f ((n - 1) % wt d) (d + 1)
theorem div_facts {n : Int} {d : Nat} (h1 : 1 ≤ d) (h4 : d ≤ 4) (h0 : 0 ≤ n) (hn : n + 1 ≤ 26 * wt d) :
    0 ≤ n / wt d ∧ n / wt d < 26 ∧ 0 ≤ n % wt d ∧ n % wt d < wt d ∧ n ≤ 475253 ∧ wt d ≤ 18279 ∧ (d = 4 → n % wt d = 0) ∧ (d ≤ 3 → wt d = 1 + 26 * wt (d + 1)) := by
  have hd : d = 1 ∨ d = 2 ∨ d = 3 ∨ d = 4 := by omega
  rcases hd with rfl | rfl | rfl | rfl <;> simp only [wt] at hn ⊢ <;> omega
def keyOf (n : Int) : ByteArray := mkS (keyL 4 n 1)
def krank (s : ByteArray) : Int := if kv s = true then er s - 1 else -1
def kat (n : Int) : ByteArray := if 0 ≤ n ∧ n ≤ 475253 then keyOf (n + 1) else mkS []
theorem wrap_small {x : Int} (h0 : -9223372036854775808 ≤ x) (h1 : x ≤ 9223372036854775807) : wrap64 x = x := by unfold wrap64; omega
theorem strOfNums_one (n : Nat) : strOfNums [(n : Int)] = mkS [n.toUInt8] := by
  apply str_ext
  rw [toList_mkS]
  rw [Lib.toList_data]
  simp [strOfNums]
end Go.Proofs.Ytengnnhehjcfhaa.Th
