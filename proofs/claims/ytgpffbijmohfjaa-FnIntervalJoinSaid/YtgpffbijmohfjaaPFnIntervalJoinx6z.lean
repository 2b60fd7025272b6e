import Derived.Test.YtgpffbijmohfjaaPFnIntervalJoinx0
import Derived.Test.YtgpffbijmohfjaaPFnIntervalJoinx4
import Derived.Test.YtgpffbijmohfjaaPFnIntervalJoinx5
import Derived.Test.YtgpffbijmohfjaaPFnIntervalJoinx6
import Derived.Test.YtgpffbijmohfjaaPFnIntervalJoinx6a
import Derived.Test.YtgpffbijmohfjaaPFnIntervalJoinx6b
import Derived.Test.YtgpffbijmohfjaaPFnIntervalJoinx6c
import Derived.Test.YtgpffbijmohfjaaWZip
namespace Go.Proofs.Ytgpffbijmohfjaa.PFnIntervalJoin
open Go.RowKit Go.Proofs.YtgpffbijmohfjaaW.PrintWords Go.Proofs.YtgpffbijmohfjaaW.PrintLast Go.Proofs.YtgpffbijmohfjaaW.PrintMore
attribute [local go_sem] max2_int min2_int max_two min_two max_three min_three max_four min_four max2_strs min2_strs   -- for this text's walks alone
set_option linter.unusedVariables false
set_option linter.unusedSimpArgs false
set_option maxHeartbeats 8000000 in
set_option maxRecDepth 100000 in
theorem spec_DrawIntervalJoin.calls (k : Nat) (A0 : Option Addr) (c0 : Nat) (l0 : List Int) (r1 : ByteArray) (r2 : ByteArray) (r3 : ByteArray) (r4 : ByteArray) (w : World) (hr0 : Kd.C (Kd.int .u8) w A0 l0.length l0) (hc0 : l0.length ≤ c0) (h : spec_DrawIntervalJoin.f k l0 = some (r1, r2, r3, r4)) :
  Calls Try.prog 36 #[.slice A0 l0.length c0] w fun e w' => e = .returned (.tuple #[.agg #[.string r1, .string r2], .agg #[.string r3, .string r4]]) ∧ Below w.heap.size w w' := by
 have hs : spec_DrawIntervalJoin.sel k l0 = some 0 ∨ spec_DrawIntervalJoin.sel k l0 = some 1 ∨ spec_DrawIntervalJoin.sel k l0 = some 2 := by
  have H := h
  unfold spec_DrawIntervalJoin.f at H
  unfold spec_DrawIntervalJoin.sel
  obtain ⟨b1, B1, H⟩ := Option.bind_eq_some_iff.mp H
  rw [B1, Option.bind_some]
  obtain ⟨b2, B2, H⟩ := Option.bind_eq_some_iff.mp H
  rw [B2, Option.bind_some]
  obtain ⟨b3, B3, H⟩ := Option.bind_eq_some_iff.mp H
  rw [B3, Option.bind_some]
  obtain ⟨b4, B4, H⟩ := Option.bind_eq_some_iff.mp H
  rw [B4, Option.bind_some]
  by_cases c : b4.2.2.2.2 = true
  ·rw [if_pos c] at H ⊢
   obtain ⟨b5, B5, H⟩ := Option.bind_eq_some_iff.mp H
   rw [B5, Option.bind_some]
   by_cases d : b5.1 = 0
   ·rw [if_pos d]; exact .inl rfl
   ·rw [if_neg d]; exact .inr (.inl rfl)
  ·rw [if_neg c]; exact .inr (.inr rfl)
 rcases hs with hs | hs | hs
 ·exact spec_DrawIntervalJoin.calls0 k A0 c0 l0 r1 r2 r3 r4 w hr0 hc0 h hs
 ·exact spec_DrawIntervalJoin.calls1 k A0 c0 l0 r1 r2 r3 r4 w hr0 hc0 h hs
 ·exact spec_DrawIntervalJoin.calls2 k A0 c0 l0 r1 r2 r3 r4 w hr0 hc0 h hs
end Go.Proofs.Ytgpffbijmohfjaa.PFnIntervalJoin
