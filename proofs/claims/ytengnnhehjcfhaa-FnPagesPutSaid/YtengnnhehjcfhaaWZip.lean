/- Shorter words for the printed walks: what stays of a block and of the lower heap through steps that write nothing there. -/
import Derived.Test.YtengnnhehjcfhaaWLast
import Derived.Test.YtengnnhehjcfhaaWMore
import Derived.Test.YtengnnhehjcfhaaWShare
import Derived.Test.YtengnnhehjcfhaaWWords
import Derived.Test.YtengnnhehjcfhaaWApart
import Derived.Test.YtengnnhehjcfhaaWN
namespace Go.Proofs.YtengnnhehjcfhaaW.PrintWords
open Go.RowKit Go.Proofs.YtengnnhehjcfhaaW
class Hop (w w' : World) : Prop where out : ∀ {g : Nat} {o : Obj}, w.heap[g]? = some o → w'.heap[g]? = some o
instance hop_refl (w : World) : Hop w w := ⟨fun h => h⟩
instance hop_drewN (w w' : World) (n : Nat) [h : Hop w w'] : Hop w (w'.drewN n) := ⟨fun k => blk_drewN (h.out k) n⟩
instance hop_drew (w w' : World) [h : Hop w w'] : Hop w w'.drew := ⟨fun k => blk_drew (h.out k)⟩
instance hop_alloc (w w' : World) (o : Obj) [h : Hop w w'] : Hop w (w'.alloc o) := ⟨fun k => blk_alloc (h.out k) o⟩
theorem hop {w w' : World} {g : Nat} {o : Obj} [h : Hop w w'] (k : w.heap[g]? = some o) : w'.heap[g]? = some o := h.out k
class HopB (w W W' : World) : Prop where out : Below w.heap.size w W → Below w.heap.size w W'
instance hopb_refl (w W : World) : HopB w W W := ⟨fun h => h⟩
instance hopb_drewN (w W W' : World) (n : Nat) [h : HopB w W W'] : HopB w W (W'.drewN n) := ⟨fun k => pw_below_drewN (h.out k) n⟩
instance hopb_drew (w W W' : World) [h : HopB w W W'] : HopB w W W'.drew := ⟨fun k => below_drew1 (h.out k)⟩
instance hopb_alloc (w W W' : World) (o : Obj) [h : HopB w W W'] : HopB w W (W'.alloc o) := ⟨fun k => below_alloc (h.out k) o⟩
theorem hopb {w W W' : World} [h : HopB w W W'] (k : Below w.heap.size w W) : Below w.heap.size w W' := h.out k
theorem bA {w W : World} (h : Below w.heap.size w W) (o : Obj) : Below w.heap.size w (W.alloc o) := below_alloc h o
theorem bN {B : Nat} {w W : World} (h : Below B w W) (n : Nat) : Below B w (W.drewN n) := pw_below_drewN h n
theorem bD {base : Nat} {w W : World} (h : Below base w W) : Below base w W.drew := below_drew1 h
theorem bS {w W : World} {g j : Nat} {v : Value} (h : Below w.heap.size w W) (hg : w.heap.size ≤ g) : Below w.heap.size w (W.setCell ⟨g, j, none⟩ v) := below_set h hg
theorem kN {w : World} {g : Nat} {o : Obj} (h : w.heap[g]? = some o) (n : Nat) : (w.drewN n).heap[g]? = some o := h
theorem kD {w : World} {g : Nat} {o : Obj} (h : w.heap[g]? = some o) : w.drew.heap[g]? = some o := h
theorem kA {w : World} {g : Nat} {o : Obj} (h : w.heap[g]? = some o) (o' : Obj) : (w.alloc o').heap[g]? = some o := blk_alloc h o'
theorem lT {α : Type} (l : List α) (i : Nat) (a : α) : l.toArray.setIfInBounds i a = (l.set i a).toArray := List.setIfInBounds_toArray ..
theorem lZ {α : Type} (x a : α) (l : List α) : (x :: l).set 0 a = a :: l := rfl
theorem lS {α : Type} (x a : α) (l : List α) (n : Nat) : (x :: l).set (n + 1) a = x :: l.set n a := rfl
theorem ak {p : Prop} (h : p) : Aside0 p := ⟨h⟩
abbrev T : Bool := true
abbrev U : Bool := false
section
open PrintLast
variable {P : Program} {ops : Array Oper} {Q : Exit → Act → World → Prop} {md : Region.Mode} {S : World → Prop} {ds : List Nat}
theorem pu (i : Nat) (N : Option Tmp) (l' : Array Bool) {oi : Oper} {v : Value} {fuel : Nat} {l : Array Bool} {a a' : Act} {w : World} (hc : anyB md ops l l' i = true) (h : wpAnyLast P md ops Q S ds fuel l' a' w)
    (hi : ops[i]? = some oi := by rfl) (hN : oi.dst = N := by rfl) (hQ : ∀ c a w, Q (.panic c) (a.put oi.dst v) w → Q (.panic c) a w := by exact fun _ _ _ h => h)
    (hy : Yields P ops oi v a := by exact Or.inl ⟨by rfl, by intro w'; go_simp; with_reducible rfl⟩) (ha : a.put N v = a' := by (simp only [Act.put, lT, lZ, lS, i64_w, i32_w]; rfl)) : wpAnyLast P md ops Q S ds (fuel + 1) l a w := pure_ l' hi hN hc hQ hy ha h
theorem pn (i : Nat) (N : Option Tmp) (l' : Array Bool) {oi : Oper} {fuel : Nat} {l : Array Bool} {a a' : Act} {w : World} (hc : anyB md ops l l' i = true) (h : wpAnyLast P md ops Q S ds fuel l' a' w)
    (hi : ops[i]? = some oi := by rfl) (hN : oi.dst = N := by rfl) (hQ : ∀ c a w, Q (.panic c) (a.put oi.dst undef) w → Q (.panic c) a w := by exact fun _ _ _ h => h)
    (hy : Yields P ops oi undef a := by exact Or.inr ⟨by rfl, rfl⟩) (ha : a.put N undef = a' := by (simp only [Act.put, lT, lZ, lS, i64_w, i32_w]; rfl)) : wpAnyLast P md ops Q S ds (fuel + 1) l a w := pure_ l' hi hN hc hQ hy ha h
theorem gL {rest : List Oper} {oi : Oper} {a : Act} {w : World} (N : Option Tmp) {f : FuncId} {fn : Func} {as : Array Operand} {ts : Array TypeId} (hf : P.funcs[f]? = some fn) (args : Array Value)
    (h : Calls P f args w fun e w' => ∃ v, e = .returned v ∧ wpList P ops Q rest (a.put N v) w')
    (hd : oi.dst = N := by rfl) (hg : oi.guard = none := by rfl) (hname : (fn.name == "runtime.NumGoroutine") = false := by kernel_rfl) (hb : fn.body.isSome = true := by rfl) (hop : oi.op = .call { callee := .value (.func f), args := as, argTypes := ts } := by rfl)
    (hargs : as.map a.eval = args := by (try simp only [List.map_toArray, List.map_cons, List.map_nil]); first | done | rfl | (simp only [List.length_drop, List.length_take]; rfl)) : wpList P ops Q (oi :: rest) a w := goesL_ N hd hg hf hname hb args hop hargs h
end
class HB1 (w w' : World) : Prop where out : Below w.heap.size w w'
instance hb1_refl (w : World) : HB1 w w := ⟨Below.refl _ _⟩
instance hb1_drewN (w w' : World) (n : Nat) [h : HB1 w w'] : HB1 w (w'.drewN n) := ⟨pw_below_drewN h.out n⟩
instance hb1_drew (w w' : World) [h : HB1 w w'] : HB1 w w'.drew := ⟨below_drew1 h.out⟩
instance hb1_alloc (w w' : World) (o : Obj) [h : HB1 w w'] : HB1 w (w'.alloc o) := ⟨below_alloc h.out o⟩
section
variable {α : Type} {d : Kd α} {e : Nat} {w w1 : World} {base : Nat} {ok : Nat → Prop} {v : Value} {xs : List α} {A : Option Addr} {n : Nat}
theorem hR [h : HB1 w w1] (k : Kd.R d e w base ok v xs) : Kd.R d e w1 base ok v xs := Kd.R_below k h.out
theorem hS [h : HB1 w w1] (k : Kd.S d e w base ok v xs) : Kd.S d e w1 base ok v xs := Kd.S_below k h.out
theorem hN [h : HB1 w w1] (k : Kd.N d e w base ok v xs) : Kd.N d e w1 base ok v xs := Kd.N_below k h.out
theorem hC [h : HB1 w w1] (k : Kd.C d w A n xs) : Kd.C d w1 A n xs := Kd.C_below k h.out
end
end Go.Proofs.YtengnnhehjcfhaaW.PrintWords
