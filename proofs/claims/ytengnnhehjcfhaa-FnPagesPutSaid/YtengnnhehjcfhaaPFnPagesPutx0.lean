-- Written for this claim by a program of this session (wip/myprint in the proofs' repo)
import Derived.Test.YtengnnhehjcfhaaProg
import Derived.Below
import Derived.Deep.Draws
import Derived.Deep.AppendLies
import Derived.Maps.AppendAt
import Derived.OwnWalk
import Derived.Laws.BytesArg
import Derived.Laws.MakeOwn
import Derived.Laws.OwnMore
import Derived.Deep.OwnRows
import Derived.Tactics
import Derived.Lib.ConvBytes
import Derived.Laws.Slices
import Derived.WalkKit
import Derived.KernelRfl
import Derived.RowKit3
import Derived.Deep.LoopGhost
import Derived.Deep.QuietTactic
import Derived.BigQuiet
import Derived.WideLaws
import Derived.Deep.DeepCutAuto
import Derived.Deep.CutBlock
import Derived.Deep.RegionHeld3
import Derived.Laws.Rows
import Derived.Lib.AppendStr
import Derived.ArgAppend
import Derived.Laws.IdiomCopy
import Derived.OrdersHeld
import Derived.Laws.BitsLemmas
import Derived.RowKit
import Derived.Laws.Cover1
import Derived.Lib.MinMaxS
import Derived.Laws.Runes
import Derived.Lib.Bytealg
import Derived.Lib.Strings
import Derived.Lib.Slices
import Derived.Lib.Walk
import Derived.Test.YtengnnhehjcfhaaWWords
import Derived.Test.YtengnnhehjcfhaaWLast
import Derived.Test.YtengnnhehjcfhaaWTab
import Derived.Test.YtengnnhehjcfhaaWFour
import Derived.Test.YtengnnhehjcfhaaWQPut
import Derived.Test.YtengnnhehjcfhaaWApart
import Derived.Test.YtengnnhehjcfhaaWArr
import Derived.Test.YtengnnhehjcfhaaWZeros
import Derived.Test.YtengnnhehjcfhaaWFoot
import Derived.Test.YtengnnhehjcfhaaWKept
import Derived.Test.YtengnnhehjcfhaaWShare
import Derived.Test.YtengnnhehjcfhaaWN
import Derived.Test.YtengnnhehjcfhaaWFootNe
import Derived.Test.YtengnnhehjcfhaaWAt
import Derived.Test.YtengnnhehjcfhaaWEqStruct
import Derived.Test.YtengnnhehjcfhaaWRepsOne
import Derived.Test.YtengnnhehjcfhaaWInv
import Derived.Test.YtengnnhehjcfhaaWInvWords
import Derived.Test.YtengnnhehjcfhaaWGuard
import Derived.Test.YtengnnhehjcfhaaWNEv
import Derived.Test.YtengnnhehjcfhaaWMore
import Derived.Test.YtengnnhehjcfhaaWZip
-- slim4
namespace Go.Proofs.Ytengnnhehjcfhaa.PFnPagesPut
open Go.RowKit Go.Proofs.YtengnnhehjcfhaaW.PrintWords Go.Proofs.YtengnnhehjcfhaaW.PrintLast Go.Proofs.YtengnnhehjcfhaaW.PrintMore
attribute [local go_sem] max2_int min2_int max_two min_two max_three min_three max_four min_four   -- for this text's walks alone
set_option linter.unusedVariables false
set_option linter.unusedSimpArgs false
theorem bc {w W : World} {a : Addr} {v : Value} (h : Below w.heap.size w W) (k : w.cell? a = some v) : W.cell? a = some v := (h.cell (World.block_lt_of_cell? w _ k)).trans k

theorem max2_strs (x y : ByteArray) : Builtin.max2 (.string x) (.string y) = pure (.string (Lib.maxS x y)) := by
 by_cases h : x.data.toList < y.data.toList <;> simp [Builtin.max2, Op.stringOp, asBool, Lib.maxS, Proofs.bytesLess_eq, Lib.toList_data, h]
theorem min2_strs (x y : ByteArray) : Builtin.min2 (.string x) (.string y) = pure (.string (Lib.minS x y)) := by
 by_cases h : x.data.toList < y.data.toList <;> by_cases h' : x.data.toList = y.data.toList
 ·simp [Builtin.min2, Op.stringOp, asBool, Lib.minS, Proofs.bytesLess_eq, Lib.toList_data, h, h']
 ·simp [Builtin.min2, Op.stringOp, asBool, Lib.minS, Proofs.bytesLess_eq, Lib.toList_data, h, h']
 ·simp [Builtin.min2, Op.stringOp, asBool, Lib.minS, Proofs.bytesLess_eq, Lib.toList_data, h, h']
 ·simp [Builtin.min2, Op.stringOp, asBool, Lib.minS, Proofs.bytesLess_eq, Lib.toList_data, h, h', show ¬ x.data = y.data from fun e => h' (congrArg Array.toList e)]
theorem u8_w_ (x : Int) : IntKind.u8.wrap x = x % 256 := by
 simp [IntKind.wrap, IntKind.signed, IntKind.bits]
theorem w64_u8_ (x : Int) : wrap64 (x % 256) = x % 256 := by unfold wrap64; omega



def errW : Option Int → Value
 | none => .nilIface
 | some c => .iface 0 (.int .i64 c)
theorem errW_none : errW none = .nilIface := rfl
theorem errW_some (c : Int) : errW (some c) = .iface 0 (.int .i64 c) := rfl

theorem info3 : (Try.prog.info? 3).map (fun i => (i.zero, i.size, i.bytes)) = some (some (.int .i64 0), 1, 8) := by kernel_rfl
theorem info5 : (Try.prog.info? 5).map (fun i => (i.zero, i.size, i.bytes)) = some (some (.int .u8 0), 1, 1) := by kernel_rfl
theorem info9 : (Try.prog.info? 9).map (fun i => (i.zero, i.size, i.bytes)) = some (some (.string ⟨#[]⟩), 1, 16) := by kernel_rfl
theorem info53 : (Try.prog.info? 53).map (fun i => (i.zero, i.size, i.bytes)) = some (some (.agg #[(.slice none 0 0)]), 1, 24) := by kernel_rfl
theorem info65 : (Try.prog.info? 65).map (fun i => (i.zero, i.size, i.bytes)) = some (some (.agg #[(.string ⟨#[]⟩), (.int .i64 0)]), 2, 24) := by kernel_rfl
-- the values' own types
/-! #### struct type 65 -/
structure S65 where
 f0 : ByteArray
 f1 : Int
def z65 : S65 := ⟨(⟨#[]⟩ : ByteArray), (0 : Int)⟩
def k65 : Kd S65 := Kd.iso (Kd.pair Kd.string (Kd.int .i64)) (fun x : S65 => (x.f0, x.f1))
theorem k65_open {w : World} {x : S65} {cs : List Value} (h : k65.K w x cs) : cs = [.string x.f0, .int .i64 x.f1] := by
 obtain ⟨_, _, rfl, rfl, rfl⟩ := h
 exact rfl
theorem k65_openM {w : World} {base : Nat} {ok : Nat → Prop} {x : S65} {cs : List Value} (h : k65.M w base ok x cs) : cs = [.string x.f0, .int .i64 x.f1] := by
 obtain ⟨_, _, rfl, rfl, rfl⟩ := h
 exact rfl
theorem k65_mk (w : World) (x : S65)  : k65.K w x [.string x.f0, .int .i64 x.f1] := ⟨[.string x.f0], [.int .i64 x.f1], rfl, rfl, rfl⟩
theorem k65_mkM (w : World) (base : Nat) (ok : Nat → Prop) (x : S65)  : k65.M w base ok x [.string x.f0, .int .i64 x.f1] := ⟨[.string x.f0], [.int .i64 x.f1], rfl, rfl, rfl⟩
theorem k65_mkF (W : World) (ok : Nat → Prop) (x : S65) : Kd.FK k65 W ok x [.string x.f0, .int .i64 x.f1] := fun W2 _ => k65_mk W2 x
def rd_T65 (xs : List S65) (i : Int) : S65 := xs.getD i.toNat z65
theorem at_T65 {w : World} {A : Option Addr} {n : Nat} {xs : List S65} (h : Kd.C k65 w A n xs) (i : Int) (h0 : 0 ≤ i) (h1 : i < n) : ∃ ad , A = some ad ∧ w.cell? (ad.add (i.toNat * 2)) = some (.string (rd_T65 xs i).f0) ∧ w.cell? ⟨(ad.add (i.toNat * 2)).block, (ad.add (i.toNat * 2)).off + 1, none⟩ = some (.int .i64 (rd_T65 xs i).f1) := by
 obtain ⟨ad, c, e, _, hK, hc0⟩ := Kd.C_get h z65 i h0 h1
 have hc : ∀ j u, c[j]? = some u → w.cell? (ad.add (i.toNat * 2 + j)) = some u := hc0
 obtain rfl := k65_open hK
 exact ⟨ad, e, hc 0 _ rfl, by rw [← add_field _ _ 1 (by omega)]; exact hc 1 _ rfl⟩

def rd_L4 (xs : List (List S65)) (i : Int) : (List S65) := xs.getD i.toNat ([] : List S65)
theorem at_L4 {w : World} {A : Option Addr} {n : Nat} {xs : List (List S65)} (h : Kd.C (Kd.slice 65 k65) w A n xs) (i : Int) (h0 : 0 ≤ i) (h1 : i < n) : ∃ ad A0 c0, A = some ad ∧ w.cell? (ad.add i.toNat) = some (.slice A0 (rd_L4 xs i).length c0) ∧ (rd_L4 xs i).length ≤ c0 ∧ k65.C w A0 (rd_L4 xs i).length (rd_L4 xs i) := by
 obtain ⟨ad, c, e, _, hK, hc0⟩ := Kd.C_get h ([] : List S65) i h0 h1
 have hc : ∀ j u, c[j]? = some u → w.cell? (ad.add (i.toNat * 1 + j)) = some u := hc0
 obtain ⟨A0, c0, rfl, l0, g0⟩ := hK
 exact ⟨ad, A0, c0, e, by have hq := hc 0 _ rfl; rwa [Nat.mul_one, Nat.add_zero] at hq, l0, g0⟩

/-! #### struct type 53 -/
structure S53 where
 f0 : (List S65)
def z53 : S53 := ⟨([] : List S65)⟩
def k53 : Kd S53 := Kd.iso (Kd.slice 65 k65) (fun x : S53 => x.f0)
theorem k53_open {w : World} {x : S53} {cs : List Value} (h : k53.K w x cs) : ∃ A0 c0, cs = [.slice A0 x.f0.length c0] ∧ x.f0.length ≤ c0 ∧ k65.C w A0 x.f0.length x.f0 := by
 obtain ⟨A0, c0, rfl, l0, g0⟩ := h
 exact ⟨A0, c0, rfl, l0, g0⟩
theorem k53_openM {w : World} {base : Nat} {ok : Nat → Prop} {x : S53} {cs : List Value} (h : k53.M w base ok x cs) : ∃ v0, cs = [v0] ∧ k65.R 65 w base ok v0 x.f0 := by
 obtain ⟨v0, rfl, g0⟩ := h
 exact ⟨v0, rfl, g0⟩
theorem k53_mk (w : World) (x : S53) {A0 : Option Addr} {c0 : Nat} (l0 : x.f0.length ≤ c0) (g0 : k65.C w A0 x.f0.length x.f0) : k53.K w x [.slice A0 x.f0.length c0] := ⟨A0, c0, rfl, l0, g0⟩
theorem k53_mkM (w : World) (base : Nat) (ok : Nat → Prop) (x : S53) {v0 : Value} (g0 : k65.R 65 w base ok v0 x.f0) : k53.M w base ok x [v0] := ⟨v0, rfl, g0⟩
theorem k53_openF {W : World} {ok : Nat → Prop} {x : S53} {cs : List Value} (h : Kd.FK k53 W ok x cs) : ∃ A0 c0, cs = [.slice A0 x.f0.length c0] ∧ x.f0.length ≤ c0 ∧ Kd.F k65 W ok A0 x.f0.length x.f0 := by
 obtain ⟨A0, c0, rfl, l0, _⟩ := k53_open (Kd.FK_now h)
 exact ⟨A0, c0, rfl, l0, (fun W' hW => by obtain ⟨A0_, c0_, he, l0_, g0_⟩ := k53_open (h W' hW); injection (Option.some.inj (show some (Value.slice A0 x.f0.length c0) = some (Value.slice A0_ x.f0.length c0_) from congrArg (fun l => l[0]?) he)) with ha_ _ _; rw [ha_]; exact g0_)⟩
theorem k53_mkF (W : World) (ok : Nat → Prop) (x : S53) {A0 : Option Addr} {c0 : Nat} (l0 : x.f0.length ≤ c0) (g0 : Kd.F k65 W ok A0 x.f0.length x.f0) : Kd.FK k53 W ok x [.slice A0 x.f0.length c0] := fun W2 hW => k53_mk W2 x l0 (g0 W2 hW)
def rd_T53 (xs : List S53) (i : Int) : S53 := xs.getD i.toNat z53
theorem at_T53 {w : World} {A : Option Addr} {n : Nat} {xs : List S53} (h : Kd.C k53 w A n xs) (i : Int) (h0 : 0 ≤ i) (h1 : i < n) : ∃ ad A0 c0, A = some ad ∧ w.cell? (ad.add i.toNat) = some (.slice A0 (rd_T53 xs i).f0.length c0) ∧ (rd_T53 xs i).f0.length ≤ c0 ∧ k65.C w A0 (rd_T53 xs i).f0.length (rd_T53 xs i).f0 := by
 obtain ⟨ad, c, e, _, hK, hc0⟩ := Kd.C_get h z53 i h0 h1
 have hc : ∀ j u, c[j]? = some u → w.cell? (ad.add (i.toNat * 1 + j)) = some u := hc0
 obtain ⟨A0, c0, rfl, l0, g0⟩ := k53_open hK
 exact ⟨ad, A0, c0, e, by have hq := hc 0 _ rfl; rwa [Nat.mul_one, Nat.add_zero] at hq, l0, g0⟩

def rd_L6 (xs : List (List S53)) (i : Int) : (List S53) := xs.getD i.toNat ([] : List S53)
theorem at_L6 {w : World} {A : Option Addr} {n : Nat} {xs : List (List S53)} (h : Kd.C (Kd.slice 53 k53) w A n xs) (i : Int) (h0 : 0 ≤ i) (h1 : i < n) : ∃ ad A0 c0, A = some ad ∧ w.cell? (ad.add i.toNat) = some (.slice A0 (rd_L6 xs i).length c0) ∧ (rd_L6 xs i).length ≤ c0 ∧ k53.C w A0 (rd_L6 xs i).length (rd_L6 xs i) := by
 obtain ⟨ad, c, e, _, hK, hc0⟩ := Kd.C_get h ([] : List S53) i h0 h1
 have hc : ∀ j u, c[j]? = some u → w.cell? (ad.add (i.toNat * 1 + j)) = some u := hc0
 obtain ⟨A0, c0, rfl, l0, g0⟩ := hK
 exact ⟨ad, A0, c0, e, by have hq := hc 0 _ rfl; rwa [Nat.mul_one, Nat.add_zero] at hq, l0, g0⟩

end Go.Proofs.Ytengnnhehjcfhaa.PFnPagesPut
