/- How a law's argument that reads as data (a struct, a slice of structs) is told as a plain value. No program in sight. -/
import Derived.Test.YtengnnhehjcfhaaWWords
import Derived.Deep.Slices
import Derived.Deep.Fields
import Derived.ChangeSame
import Derived.Lib.SmallJoins
import Derived.WideShapes
import Derived.SizedLaws
import Derived.WalkKit
import Derived.ProofKit
namespace Go.Proofs.Ytengnnhehjcfhaa.Th
open Go Go.RowKit Go.ChangeShapes Go.WideShapes Go.Deep Go.Proofs.YtengnnhehjcfhaaW.PrintWords
set_option linter.unusedVariables false
section
variable {H : Type} (enc : TypeId × Value → H) (P : Program) (w : World) (base : Nat) (spare : Nat → Bool) (held : Bool)
/-- What reads as data of type t is told by d, and meets wf. -/
def Opens {α : Type} (d : Kd α) (wf : α → Prop) (t : TypeId) : Prop :=
  ∀ (fuel : Nat) (cs : List Value) (x : DataW H × List MemPlace), DataW.trod enc P w base spare held fuel t cs = some x → ∃ a : α, d.K w a cs ∧ wf a
end
section
variable {H : Type} {enc : TypeId × Value → H} {P : Program} {w : World} {base : Nat} {spare : Nat → Bool} {held : Bool} {t e : TypeId}
theorem opens_int {k : IntKind} (ht : P.underlying t = some (.int k)) : Opens enc P w base spare held (Kd.int k) (fun n => (Lit.int k n).wf = true) t := by
  intro fuel cs x h
  obtain ⟨n, rfl, _, hn⟩ := DataW.trod_int ht h
  exact ⟨n, rfl, hn⟩
theorem opens_string (ht : P.underlying t = some .string) : Opens enc P w base spare held Kd.string (fun s => s.size ≤ maxLen) t := by
  intro fuel cs x h
  obtain ⟨n, rfl, _, hn⟩ := DataW.trod_string ht h
  exact ⟨n, rfl, hn⟩
theorem opens_iso {α β : Type} {d : Kd α} {wf : α → Prop} (f : β → α) (g : α → β) (hfg : ∀ a, f (g a) = a) (h : Opens enc P w base spare held d wf t) : Opens enc P w base spare held (Kd.iso d f) (fun b => wf (f b)) t := by
  intro fuel cs x hx
  obtain ⟨a, ha, hw⟩ := h fuel cs x hx
  refine ⟨g a, ?_, ?_⟩
  · show d.K w (f (g a)) cs
    rw [hfg]; exact ha
  · show wf (f (g a))
    rw [hfg]; exact hw
theorem opens_one {α : Type} {d : Kd α} {wf : α → Prop} {f0 : Field} (hs : P.underlying t = some (.struct #[f0])) (ho : f0.offset = 0) (hc : P.cellsOf f0.type = P.cellsOf t) (h : Opens enc P w base spare held d wf f0.type) : Opens enc P w base spare held d wf t := by
  intro fuel cs x hx
  obtain ⟨xs, n, _, _, hl, hlen, hg⟩ := DataW.trod_struct hs hx
  have h0 := hg 0 f0 rfl
  rw [ho, hc, List.drop_zero, ← hl, List.take_length] at h0
  have hx0 : xs[0]? = some (xs[0]'(by rw [hlen]; simp)) := List.getElem?_eq_getElem _
  exact h n cs _ (h0.trans hx0)
theorem opens_pair {α β : Type} {d0 : Kd α} {d1 : Kd β} {wf0 : α → Prop} {wf1 : β → Prop} {f0 f1 : Field} {c : Nat} (hs : P.underlying t = some (.struct #[f0, f1])) (ho0 : f0.offset = 0) (hc0 : P.cellsOf f0.type = c) (ho1 : f1.offset = c) (hC : P.cellsOf t = c + P.cellsOf f1.type)
    (h0 : Opens enc P w base spare held d0 wf0 f0.type) (h1 : Opens enc P w base spare held d1 wf1 f1.type) : Opens enc P w base spare held (Kd.pair d0 d1) (fun x => wf0 x.1 ∧ wf1 x.2) t := by
  intro fuel cs x hx
  obtain ⟨xs, n, _, _, hl, hlen, hg⟩ := DataW.trod_struct hs hx
  have g0 := hg 0 f0 rfl
  have g1 := hg 1 f1 rfl
  rw [ho0, hc0, List.drop_zero] at g0
  rw [ho1] at g1
  have hd : (cs.drop c).take (P.cellsOf f1.type) = cs.drop c := List.take_of_length_le (by rw [List.length_drop, hl, hC]; omega)
  rw [hd] at g1
  have hx0 : xs[0]? = some (xs[0]'(by rw [hlen]; simp)) := List.getElem?_eq_getElem _
  have hx1 : xs[1]? = some (xs[1]'(by rw [hlen]; simp)) := List.getElem?_eq_getElem _
  obtain ⟨a, ha, wa⟩ := h0 n _ _ (g0.trans hx0)
  obtain ⟨b, hb, wb⟩ := h1 n _ _ (g1.trans hx1)
  exact ⟨(a, b), ⟨_, _, (List.take_append_drop c cs).symm, ha, hb⟩, wa, wb⟩
theorem opens_slice {α : Type} {d : Kd α} {wf : α → Prop} (ht : P.underlying t = some (.slice e)) (hC : P.cellsOf e = d.sz) (h : Opens enc P w base spare held d wf e) :
    Opens enc P w base spare held (Kd.slice e d) (fun l => l.length ≤ maxLen ∧ ∀ a ∈ l, wf a) t := by
  intro fuel cs x hx
  rcases open_slice ht hx with ⟨rfl, _⟩ | ⟨a, len, cap, m, n, D, Pl, rfl, _, hl, hm, hmm, _, hi⟩
  · exact ⟨[], ⟨none, 0, rfl, Nat.le_refl _, rfl, by simp, fun h => absurd h (by simp)⟩, by simp, by simp⟩
  · have hlm : len ≤ m := by rw [hmm]; split <;> omega
    have key : ∀ k, k ≤ len → ∃ l : List α, l.length = k ∧ (∀ p ∈ l, wf p) ∧ ∀ (j : Nat) (p : α), l[j]? = some p → ∃ c : List Value, c.length = d.sz ∧ d.K w p c ∧ ∀ (i : Nat) (u : Value), c[i]? = some u → w.cell? (a.add (j * d.sz + i)) = some u := by
      intro k
      induction k with
      | zero => intro _; exact ⟨[], rfl, by simp, fun j p hj => by simp at hj⟩
      | succ k ih =>
        intro hk
        obtain ⟨l, hll, hlw, hlc⟩ := ih (by omega)
        obtain ⟨cs', hc, ht'⟩ := hi k (by omega)
        obtain ⟨p, hp, wp⟩ := h n cs' _ ht'
        rw [hC] at hc
        obtain ⟨_, hcl, hat⟩ := World.cells?_some hc
        refine ⟨l ++ [p], by simp [hll], ?_, ?_⟩
        · intro q hq
          rcases List.mem_append.1 hq with hq | hq
          · exact hlw q hq
          · rw [List.mem_singleton.1 hq]; exact wp
        · intro j q hj
          rcases Nat.lt_or_ge j l.length with hlt | hge
          · rw [List.getElem?_append_left hlt] at hj
            exact hlc j q hj
          · rw [List.getElem?_append_right hge] at hj
            have hj0 : j - l.length = 0 := by
              rcases Nat.eq_zero_or_pos (j - l.length) with h0 | h0
              · exact h0
              · rw [List.getElem?_eq_none (by simp only [List.length_cons, List.length_nil]; omega)] at hj; cases hj
            rw [hj0] at hj
            simp only [List.getElem?_cons_zero, Option.some.injEq] at hj
            subst hj
            refine ⟨cs', d.K_len hp, hp, fun i u hu => ?_⟩
            have hjk : j = k := by omega
            subst hjk
            have hil : i < d.sz := by rw [← d.K_len hp]; exact (List.getElem?_eq_some_iff.1 hu).1
            rw [← Go.Deep.add_add, hat i hil, hu]
    obtain ⟨l, hll, hlw, hlc⟩ := key len (Nat.le_refl _)
    subst hll
    refine ⟨l, ⟨some a, cap, rfl, hl, rfl, ?_, fun _ => ⟨a, rfl, hlc⟩⟩, by omega, hlw⟩
    have := hm
    simp only [maxLen] at this
    omega
theorem open_slice_arg {α : Type} {d : Kd α} {wf : α → Prop} {r : Reach} {b0 : Nat} {v : Value} {dt : DataW H} {p : List MemPlace} (ht : P.underlying t = some (.slice e)) (hC : P.cellsOf e = d.sz) (ho : Opens enc P w base spare held d wf e)
    (hv : Value.okWide P w r b0 t v) (h : DataW.Trod enc P w base spare held t v dt p) :
    ∃ (A : Option Addr) (l : List α) (c : Nat), v = .slice A l.length c ∧ l.length ≤ c ∧ d.C w A l.length l ∧ l.length ≤ maxLen ∧ ∀ a ∈ l, wf a := by
  obtain ⟨A, len, cap, rfl⟩ := okWide_slice ht hv
  obtain ⟨fuel, hf⟩ := h
  obtain ⟨l, ⟨A', c, he, hl, hc⟩, h1, h2⟩ := opens_slice ht hC ho fuel _ _ hf
  simp only [Value.cells, List.cons.injEq, Value.slice.injEq, and_true] at he
  obtain ⟨rfl, rfl, rfl⟩ := he
  exact ⟨A, l, cap, rfl, hl, hc, h1, h2⟩
theorem open_struct_arg {α : Type} {d : Kd α} {wf : α → Prop} {fs : Array Field} {r : Reach} {b0 : Nat} {v : Value} {dt : DataW H} {p : List MemPlace} (hs : P.underlying t = some (.struct fs)) (ho : Opens enc P w base spare held d wf t)
    (hv : Value.okWide P w r b0 t v) (h : DataW.Trod enc P w base spare held t v dt p) :
    ∃ (cs : Array Value) (a : α), v = .agg cs ∧ d.K w a cs.toList ∧ wf a := by
  obtain ⟨cs, rfl, _⟩ := okWide_struct hs hv
  obtain ⟨fuel, hf⟩ := h
  obtain ⟨a, ha, wa⟩ := ho fuel _ _ hf
  exact ⟨cs, a, rfl, ha, wa⟩
theorem array_of {l : List Value} {cs : Array Value} (h : cs.toList = l) : cs = l.toArray := by rw [← h]
end
end Go.Proofs.Ytengnnhehjcfhaa.Th
