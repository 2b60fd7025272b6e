/- Shorter words for the printed walks: what stays of a block and of the lower heap through steps that write nothing there. -/
import Derived.Test.YtengnnhehjcfhaaWLast
import Derived.Test.YtengnnhehjcfhaaWMore
import Derived.Test.YtengnnhehjcfhaaWShare
import Derived.Test.YtengnnhehjcfhaaWWords
namespace Go.Proofs.YtengnnhehjcfhaaW.PrintWords
open Go.RowKit
class Hop (w w' : World) : Prop where out : ∀ {g : Nat} {o : Obj}, w.heap[g]? = some o → w'.heap[g]? = some o
instance hop_refl (w : World) : Hop w w := ⟨fun h => h⟩
instance hop_drewN (w w' : World) (n : Nat) [h : Hop w w'] : Hop w (w'.drewN n) := ⟨fun k => blk_drewN (h.out k) n⟩
instance hop_drew (w w' : World) [h : Hop w w'] : Hop w w'.drew := ⟨fun k => blk_drew (h.out k)⟩
instance hop_alloc (w w' : World) (o : Obj) [h : Hop w w'] : Hop w (w'.alloc o) := ⟨fun k => blk_alloc (h.out k) o⟩
theorem hop {w w' : World} {g : Nat} {o : Obj} [h : Hop w w'] (k : w.heap[g]? = some o) : w'.heap[g]? = some o := h.out k
class HopB (w W W' : World) : Prop where out : Below w.heap.size w W → Below w.heap.size w W'
instance hopb_refl (w W : World) : HopB w W W := ⟨fun h => h⟩
instance hopb_drewN (w W W' : World) (n : Nat) [h : HopB w W W'] : HopB w W (W'.drewN n) := ⟨fun k => pw_below_drewN (h.out k) n⟩
instance hopb_drew (w W W' : World) [h : HopB w W W'] : HopB w W W'.drew := ⟨fun k => below_drew1 (h.out k)⟩
instance hopb_alloc (w W W' : World) (o : Obj) [h : HopB w W W'] : HopB w W (W'.alloc o) := ⟨fun k => below_alloc (h.out k) o⟩
theorem hopb {w W W' : World} [h : HopB w W W'] (k : Below w.heap.size w W) : Below w.heap.size w W' := h.out k
theorem bA {w W : World} (h : Below w.heap.size w W) (o : Obj) : Below w.heap.size w (W.alloc o) := below_alloc h o
theorem bN {B : Nat} {w W : World} (h : Below B w W) (n : Nat) : Below B w (W.drewN n) := pw_below_drewN h n
theorem bD {base : Nat} {w W : World} (h : Below base w W) : Below base w W.drew := below_drew1 h
theorem bS {w W : World} {g j : Nat} {v : Value} (h : Below w.heap.size w W) (hg : w.heap.size ≤ g) : Below w.heap.size w (W.setCell ⟨g, j, none⟩ v) := below_set h hg
theorem kN {w : World} {g : Nat} {o : Obj} (h : w.heap[g]? = some o) (n : Nat) : (w.drewN n).heap[g]? = some o := h
theorem kD {w : World} {g : Nat} {o : Obj} (h : w.heap[g]? = some o) : w.drew.heap[g]? = some o := h
theorem kA {w : World} {g : Nat} {o : Obj} (h : w.heap[g]? = some o) (o' : Obj) : (w.alloc o').heap[g]? = some o := blk_alloc h o'
theorem lT {α : Type} (l : List α) (i : Nat) (a : α) : l.toArray.setIfInBounds i a = (l.set i a).toArray := List.setIfInBounds_toArray ..
theorem lZ {α : Type} (x a : α) (l : List α) : (x :: l).set 0 a = a :: l := rfl
theorem lS {α : Type} (x a : α) (l : List α) (n : Nat) : (x :: l).set (n + 1) a = x :: l.set n a := rfl
theorem ak {p : Prop} (h : p) : Aside0 p := ⟨h⟩
abbrev T : Bool := true
abbrev U : Bool := false
end Go.Proofs.YtengnnhehjcfhaaW.PrintWords
