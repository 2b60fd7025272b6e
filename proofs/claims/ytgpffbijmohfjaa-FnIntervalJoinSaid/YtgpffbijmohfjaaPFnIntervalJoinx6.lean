-- Written for this claim by a program of this session (wip/myprint in the proofs' repo)
import Derived.Test.YtgpffbijmohfjaaPFnIntervalJoinx0
import Derived.Test.YtgpffbijmohfjaaPFnIntervalJoinx4
import Derived.Test.YtgpffbijmohfjaaPFnIntervalJoinx5
import Derived.Test.YtgpffbijmohfjaaWZip
namespace Go.Proofs.Ytgpffbijmohfjaa.PFnIntervalJoin
open Go.RowKit Go.Proofs.YtgpffbijmohfjaaW.PrintWords Go.Proofs.YtgpffbijmohfjaaW.PrintLast Go.Proofs.YtgpffbijmohfjaaW.PrintMore
attribute [local go_sem] max2_int min2_int max_two min_two max_three min_three max_four min_four max2_strs min2_strs   -- for this text's walks alone
set_option linter.unusedVariables false
set_option linter.unusedSimpArgs false

/-! ### spec_DrawIntervalJoin: function 36 -/
def spec_DrawIntervalJoin.f (k : Nat) (l0 : List Int) : Option (ByteArray × ByteArray × ByteArray × ByteArray) := (spec_l20Open.f l0).bind fun bt188 => ((spec_l20Span.f k bt188.1 bt188.2 12).bind fun bt191 => ((spec_l20Key.f k bt188.1 bt191.2.2 0).bind fun bt195 => ((spec_IntervalCut.f k bt191.1 bt191.2.1 bt195.1).bind fun bt197 => (if bt197.2.2.2.2 = true then ((spec_l20Rd_pick.f k bt188.1 bt195.2 4).bind fun bt204 => (if bt204.1 = 0 then ((spec_l20Span.f k bt188.1 bt204.2 12).bind fun bt206 => (some (bt191.1, bt191.2.1, bt206.1, bt206.2.1))) else (some (bt197.1, bt197.2.1, bt197.2.2.1, bt197.2.2.2.1)))) else ((spec_l20Span.f k bt188.1 bt195.2 12).bind fun bt209 => (some (bt191.1, bt191.2.1, bt209.1, bt209.2.1)))))))
theorem spec_DrawIntervalJoin.mono : ∀ a0 k, LeO (spec_DrawIntervalJoin.f k a0) (spec_DrawIntervalJoin.f (k + 1) a0) := by
 intro a0 k
 unfold spec_DrawIntervalJoin.f
 repeat' first
   | (with_reducible exact spec_IntervalCut.mono _ _ _ _)
   | (with_reducible exact spec_l20Key.mono _ _ _ _)
   | (with_reducible exact spec_l20Rd_pick.mono _ _ _ _)
   | (with_reducible exact spec_l20Span.mono _ _ _ _)
   | (with_reducible exact LeO.refl _)
   | (with_reducible exact LeO.none _)
   | (with_reducible refine LeO.ite ?_ ?_)
   | (with_reducible refine LeO.bind ?_ (fun _ => ?_))
   | exact spec_IntervalCut.mono _ _ _ _
   | exact spec_l20Key.mono _ _ _ _
   | exact spec_l20Rd_pick.mono _ _ _ _
   | exact spec_l20Span.mono _ _ _ _
   | exact LeO.none _
   | refine LeO.ite ?_ ?_
   | refine LeO.bind ?_ (fun _ => ?_)
def spec_DrawIntervalJoin.T3 : Bool × List (List Nat × List Nat) := (true, [([], []), ([], []), ([1], [1]), ([0, 2, 2], [0, 2]), ([3], [3]), ([4], [4]), ([4], [4]), ([4], [4]), ([], []), ([], []), ([8, 5, 3, 0, 1, 2, 3, 4, 5, 8, 9], [5, 8]), ([9, 6, 10, 0, 1, 2, 3, 4, 5, 6, 8, 9, 10], [6, 9]), ([7, 11, 0, 1, 2, 3, 4, 5, 6, 7, 8, 9, 10, 11], [7])])
def spec_DrawIntervalJoin.B3 : List Nat := [0, 0, 2, 7, 15, 31, 31, 31, 0, 0, 831, 1919, 4095]
theorem spec_DrawIntervalJoin.tab3 : rtab .any (opsOf Try.f36 3) = spec_DrawIntervalJoin.T3 := by kernel_rfl
theorem spec_DrawIntervalJoin.bits3 : waitsOk spec_DrawIntervalJoin.T3.2 spec_DrawIntervalJoin.B3 = true := by kernel_rfl
def spec_DrawIntervalJoin.sel (k : Nat) (l0 : List Int) : Option Nat := (spec_l20Open.f l0).bind fun b1 => ((spec_l20Span.f k b1.1 b1.2 12).bind fun b2 => ((spec_l20Key.f k b1.1 b2.2.2 0).bind fun b3 => ((spec_IntervalCut.f k b2.1 b2.2.1 b3.1).bind fun b4 => (if b4.2.2.2.2 = true then ((spec_l20Rd_pick.f k b1.1 b3.2 4).bind fun b5 => (if b5.1 = 0 then (some 0) else (some 1))) else (some 2)))))
end Go.Proofs.Ytgpffbijmohfjaa.PFnIntervalJoin
