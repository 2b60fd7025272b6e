-- Written for this claim by a program of this session (wip/myprint in the proofs' repo)
import Derived.Test.YtgpffbijmohfjaaProg
import Derived.Below
import Derived.Deep.Draws
import Derived.Deep.AppendLies
import Derived.Maps.AppendAt
import Derived.OwnWalk
import Derived.Laws.BytesArg
import Derived.Laws.MakeOwn
import Derived.Laws.OwnMore
import Derived.Deep.OwnRows
import Derived.Tactics
import Derived.Lib.ConvBytes
import Derived.Laws.Slices
import Derived.WalkKit
import Derived.KernelRfl
import Derived.RowKit3
import Derived.Deep.LoopGhost
import Derived.Deep.QuietTactic
import Derived.BigQuiet
import Derived.WideLaws
import Derived.Deep.DeepCutAuto
import Derived.Deep.CutBlock
import Derived.Deep.RegionHeld3
import Derived.Laws.Rows
import Derived.Lib.AppendStr
import Derived.ArgAppend
import Derived.Laws.IdiomCopy
import Derived.OrdersHeld
import Derived.Laws.BitsLemmas
import Derived.RowKit
import Derived.Laws.Cover1
import Derived.Lib.MinMaxS
import Derived.Laws.Runes
import Derived.Lib.Bytealg
import Derived.Lib.Strings
import Derived.Lib.Slices
import Derived.Lib.Walk
import Derived.Test.YtgpffbijmohfjaaWWords
import Derived.Test.YtgpffbijmohfjaaWLast
import Derived.Test.YtgpffbijmohfjaaWTab
import Derived.Test.YtgpffbijmohfjaaWFour
import Derived.Test.YtgpffbijmohfjaaWQPut
import Derived.Test.YtgpffbijmohfjaaWApart
import Derived.Test.YtgpffbijmohfjaaWArr
import Derived.Test.YtgpffbijmohfjaaWZeros
import Derived.Test.YtgpffbijmohfjaaWFoot
import Derived.Test.YtgpffbijmohfjaaWKept
import Derived.Test.YtgpffbijmohfjaaWShare
import Derived.Test.YtgpffbijmohfjaaWN
import Derived.Test.YtgpffbijmohfjaaWFootNe
import Derived.Test.YtgpffbijmohfjaaWAt
import Derived.Test.YtgpffbijmohfjaaWEqStruct
import Derived.Test.YtgpffbijmohfjaaWRepsOne
import Derived.Test.YtgpffbijmohfjaaWInv
import Derived.Test.YtgpffbijmohfjaaWInvWords
import Derived.Test.YtgpffbijmohfjaaWGuard
import Derived.Test.YtgpffbijmohfjaaWNEv
import Derived.Test.YtgpffbijmohfjaaWMore
namespace Go.Proofs.Ytgpffbijmohfjaa.PFnKeyAt
open Go.RowKit Go.Proofs.YtgpffbijmohfjaaW.PrintWords Go.Proofs.YtgpffbijmohfjaaW.PrintLast Go.Proofs.YtgpffbijmohfjaaW.PrintMore
attribute [local go_sem] max2_int min2_int max_two min_two max_three min_three max_four min_four   -- for this text's walks alone
set_option linter.unusedVariables false
set_option linter.unusedSimpArgs false

theorem max2_strs (x y : ByteArray) : Builtin.max2 (.string x) (.string y) = pure (.string (Lib.maxS x y)) := by
  by_cases h : x.data.toList < y.data.toList <;> simp [Builtin.max2, Op.stringOp, asBool, Lib.maxS, Proofs.bytesLess_eq, Lib.toList_data, h]
theorem min2_strs (x y : ByteArray) : Builtin.min2 (.string x) (.string y) = pure (.string (Lib.minS x y)) := by
  by_cases h : x.data.toList < y.data.toList <;> by_cases h' : x.data.toList = y.data.toList
  · simp [Builtin.min2, Op.stringOp, asBool, Lib.minS, Proofs.bytesLess_eq, Lib.toList_data, h, h']
  · simp [Builtin.min2, Op.stringOp, asBool, Lib.minS, Proofs.bytesLess_eq, Lib.toList_data, h, h']
  · simp [Builtin.min2, Op.stringOp, asBool, Lib.minS, Proofs.bytesLess_eq, Lib.toList_data, h, h']
  · simp [Builtin.min2, Op.stringOp, asBool, Lib.minS, Proofs.bytesLess_eq, Lib.toList_data, h, h', show ¬ x.data = y.data from fun e => h' (congrArg Array.toList e)]
theorem u8_w_ (x : Int) : IntKind.u8.wrap x = x % 256 := by
  simp [IntKind.wrap, IntKind.signed, IntKind.bits]
theorem w64_u8_ (x : Int) : wrap64 (x % 256) = x % 256 := by unfold wrap64; omega



def errW : Option Int → Value
  | none => .nilIface
  | some c => .iface 0 (.int .i64 c)
theorem errW_none : errW none = .nilIface := rfl
theorem errW_some (c : Int) : errW (some c) = .iface 0 (.int .i64 c) := rfl

theorem info3 : (Try.prog.info? 3).map (fun i => (i.zero, i.size, i.bytes)) = some (some (.int .i64 0), 1, 8) := by kernel_rfl
theorem info5 : (Try.prog.info? 5).map (fun i => (i.zero, i.size, i.bytes)) = some (some (.int .u8 0), 1, 1) := by kernel_rfl
-- the values' own types

end Go.Proofs.Ytgpffbijmohfjaa.PFnKeyAt
