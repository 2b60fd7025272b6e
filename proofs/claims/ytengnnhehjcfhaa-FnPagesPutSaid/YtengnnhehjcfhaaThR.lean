-- Cut by a program of this session (wip/prune.py) from words that the kit's print.sh printed: what nothing of this seat uses is left out.
/- Plain laws of what the draws compute: no program in sight. -/
import Derived.Test.YtengnnhehjcfhaaThA
import Derived.Test.YtengnnhehjcfhaaThL
import Derived.Laws.BitsAllLaws
namespace Go.Proofs.Ytengnnhehjcfhaa.Th
open Go Go.RowKit Go.Proofs.YtengnnhehjcfhaaW.PrintWords
set_option linter.unusedVariables false
set_option linter.unusedSimpArgs false
theorem xor_nat (a b : Nat) (ha : a < 9223372036854775808) (hb : b < 9223372036854775808) : Go.bits .xor .i64 (a : Int) (b : Int) = ((a ^^^ b : Nat) : Int) := by
  have hx : a ^^^ b < 2 ^ 63 := Nat.xor_lt_two_pow (by omega) (by omega)
  show IntKind.i64.wrap ((BitVec.ofInt 64 (a : Int) ^^^ BitVec.ofInt 64 (b : Int)).toNat : Int) = _
  rw [BitVec.toNat_xor, ofInt_u64 a (by omega), ofInt_u64 b (by omega), IntKind.wrap_i64]
  omega
theorem xor_nonneg (a b : Int) (h1 : 0 ≤ a) (h2 : a < 9223372036854775808) (h3 : 0 ≤ b) (h4 : b < 9223372036854775808) : 0 ≤ Go.bits .xor .i64 a b := by
  obtain ⟨A, rfl⟩ := Int.eq_ofNat_of_zero_le h1
  obtain ⟨B, rfl⟩ := Int.eq_ofNat_of_zero_le h3
  rw [xor_nat A B (by omega) (by omega)]
  omega
theorem pick_val (A B p D : Int) (hA : 0 ≤ A ∧ A ≤ 255) (hB : 0 ≤ B ∧ B ≤ 255) (hp : 0 ≤ p ∧ p ≤ 1000000000) (hD : 0 ≤ D ∧ D ≤ 1000000000) :
    0 ≤ Go.bits .xor .i64 (wrap64 ((wrap64 ((wrap64 ((wrap64 ((wrap64 A) * 131)) + (wrap64 ((wrap64 B) * 1117)))) + (wrap64 (p * 29)))) + (wrap64 ((wrap64 D) * 53)))) (wrap64 (Int.tdiv (wrap64 ((wrap64 ((wrap64 ((wrap64 ((wrap64 A) * 131)) + (wrap64 ((wrap64 B) * 1117)))) + (wrap64 (p * 29)))) + (wrap64 ((wrap64 D) * 53)))) 64)) := by
  have e : wrap64 ((wrap64 ((wrap64 ((wrap64 ((wrap64 A) * 131)) + (wrap64 ((wrap64 B) * 1117)))) + (wrap64 (p * 29)))) + (wrap64 ((wrap64 D) * 53))) = A * 131 + B * 1117 + p * 29 + D * 53 := by
    simp (disch := omega) only [wrap_small]
  rw [e]
  have h0 : 0 ≤ A * 131 + B * 1117 + p * 29 + D * 53 ∧ A * 131 + B * 1117 + p * 29 + D * 53 ≤ 1000000000000 := by omega
  generalize A * 131 + B * 1117 + p * 29 + D * 53 = T at h0
  rw [Int.tdiv_eq_ediv_of_nonneg h0.1, wrap_small (by omega) (by omega)]
  exact xor_nonneg _ _ (by omega) (by omega) (by omega) (by omega)
theorem u8_range {x : Int} (h : (Lit.int .u8 x).wf = true) : 0 ≤ x ∧ x ≤ 255 := by
  simp [Lit.wf, IntKind.min, IntKind.max, IntKind.signed, IntKind.bits, IntKind.wrap] at h
  omega
theorem rd_u8 (xs : List Int) (hx : ∀ x ∈ xs, 0 ≤ x ∧ x ≤ 255) (i : Int) : 0 ≤ rd xs i ∧ rd xs i ≤ 255 := by
  show 0 ≤ xs.getD i.toNat 0 ∧ xs.getD i.toNat 0 ≤ 255
  by_cases h : i.toNat < xs.length
  · exact hx _ (getD_mem 0 xs _ h)
  · rw [List.getD_eq_getElem?_getD, List.getElem?_eq_none (by omega)]
    exact ⟨by simp, by simp⟩
theorem rdOf_small (L : List ByteArray) (n : Nat) (h : ∀ s ∈ L, s.size ≤ n) (i : Int) : (rdOf ByteArray.empty L i).size ≤ n := by
  show (L.getD i.toNat ByteArray.empty).size ≤ n
  by_cases hi : i.toNat < L.length
  · exact h _ (getD_mem _ L _ hi)
  · rw [List.getD_eq_getElem?_getD, List.getElem?_eq_none (by omega)]
    exact Nat.zero_le _
end Go.Proofs.Ytengnnhehjcfhaa.Th
