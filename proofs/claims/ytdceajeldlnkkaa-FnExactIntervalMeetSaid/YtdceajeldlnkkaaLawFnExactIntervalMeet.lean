-- Written for this claim by a program of this session (wip/myprint in the proofs' repo)
import Derived.Test.YtdceajeldlnkkaaRows
import Derived.Test.YtdceajeldlnkkaaPFnExactIntervalMeetx5
import Derived.Test.YtdceajeldlnkkaaSFnExactIntervalMeet
import Derived.Test.YtdceajeldlnkkaaPureFnExactIntervalMeet
import Derived.Test.YtdceajeldlnkkaaThO
import Derived.WalkKit
import Derived.ProofKit
import Derived.OpenShut
import Derived.ShutString
import Derived.ChangeOld
import Derived.Below
import Derived.SizedLaws
import Derived.Carry
namespace Go.Proofs.Ytdceajeldlnkkaa.fnExactIntervalMeet
open Go.ChangeShapes Go.WideShapes Go.ChangeAt Go.RowKit Go.Proofs.Ytdceajeldlnkkaa.PFnExactIntervalMeet Go.Proofs.YtdceajeldlnkkaaW.PrintWords
open Go.ChangeMaps (open_string shut_string)
set_option linter.unusedVariables false
theorem own : ownKnob Try.prog.godebug = none := by kernel_rfl
theorem laidOut : laidOutB Try.prog = true := by kernel_rfl
set_option maxRecDepth 100000 in
theorem lifted (os : Os) (started : os.Started) (H : Type) (enc : TypeId × Value → H) :
    ReturnsInHanded {} Try.checked os 13 .any (Rows.fnExactIntervalMeetSpec.pre6 enc Try.prog Try.f13 Rows.fnExactIntervalMeetRow.domain false) (Rows.fnExactIntervalMeetSpec.post enc Try.prog Try.f13 false true false false) := by
  refine returnsInHanded_of_change_sized (C := Try.checked) own started (by kernel_rfl) Try.func13
    (ChangeSpec.witness6 (enc := enc) (C := Try.checked) false ⟨#[], #[.agg #[.string ByteArray.empty, .string ByteArray.empty], .agg #[.string ByteArray.empty, .string ByteArray.empty]], []⟩ 8 (by kernel_rfl) (by kernel_rfl) (by kernel_rfl) (by kernel_rfl)) ?_
  intro W base args ds gs before hval0 hW hcnd hsz0 _
  have hsz : (DataW.weightsEach Try.prog (Try.f13.params.toList ++ Rows.fnExactIntervalMeetSpec.plain.varTypes Try.prog) (ds ++ gs)).all (· ≤ reachBytes) = true := hsz0
  have hval : ∀ (j : Nat) t v, Try.f13.params[j]? = some t → args[j]? = some v → Value.okWide Try.prog W .any base t v := hval0
  have hW' := hW
  obtain ⟨p, q, hA0, hV, rfl, hfz, hnd⟩ := hW
  have hA : DataW.TrodAll enc Try.prog W 0 (fun _ => true) true Try.f13.params.toList args.toList ds p := hA0
  rw [Try.params13] at hA hval hsz
  obtain ⟨v0, vs0, d0, ds0, p0, q0, hargs, rfl, rfl, h0, r0⟩ := trodAll_cons hA
  obtain ⟨v1, vs1, d1, ds1, p1, q1, rfl, rfl, rfl, h1, r1⟩ := trodAll_cons r0
  obtain ⟨rfl, rfl, rfl⟩ := trodAll_nil r1
  obtain rfl : args = #[v0, v1] := by cases args; simp_all
  obtain ⟨rfl, rfl⟩ := trodVars_none hV
  have k0_ := h0
  have lt0 : ∀ x ∈ p0, x.block < W.heap.size := by obtain ⟨m, hm⟩ := k0_; exact DataW.trod_lt m _ _ _ hm
  obtain ⟨cs0, ⟨a0_0, a0_1⟩, rfl, hk0, w0⟩ := Th.open_struct_arg Try.underlying30 (Th.opens_iso (fun x : S30 => (x.f0, x.f1)) (fun a => ⟨a.1, a.2⟩) (fun _ => rfl) (Th.opens_pair (c := 1) Try.underlying30 rfl (by kernel_rfl) rfl (by kernel_rfl) (Th.opens_string Try.underlying9) (Th.opens_string Try.underlying9))) (hval 0 30 v0 rfl rfl) h0
  obtain rfl := Th.array_of (k30_open hk0)
  have k1_ := h1
  have lt1 : ∀ x ∈ p1, x.block < W.heap.size := by obtain ⟨m, hm⟩ := k1_; exact DataW.trod_lt m _ _ _ hm
  obtain ⟨cs1, ⟨a1_0, a1_1⟩, rfl, hk1, w1⟩ := Th.open_struct_arg Try.underlying30 (Th.opens_iso (fun x : S30 => (x.f0, x.f1)) (fun a => ⟨a.1, a.2⟩) (fun _ => rfl) (Th.opens_pair (c := 1) Try.underlying30 rfl (by kernel_rfl) rfl (by kernel_rfl) (Th.opens_string Try.underlying9) (Th.opens_string Try.underlying9))) (hval 1 30 v1 rfl rfl) h1
  obtain rfl := Th.array_of (k30_open hk1)
  clear hA0 hval0 hsz0 hsz
  obtain ⟨k, hk⟩ := Pure.FnExactIntervalMeet a0_0 a0_1 a1_0 a1_1 w0 w1
  refine (PFnExactIntervalMeet.laws_FnExactIntervalMeet.calls k a0_0 a0_1 a1_0 a1_1 true W  hk).mono fun e W' ⟨he, bel⟩ => ?_
  subst he
  exact ⟨_, rfl, _, _, _, [], _, [], hW', trodAll_mk1 (shut_bool Try.underlying4 _), (trodAll_cons_mk (Below.trod laidOut (by kernel_rfl) (of_decide_eq_true (by kernel_rfl)) k0_ bel lt0) (trodAll_cons_mk (Below.trod laidOut (by kernel_rfl) (of_decide_eq_true (by kernel_rfl)) k1_ bel lt1) trodAll_mk0)), rfl, bel.frame _, fun h => by cases h⟩
theorem over : Rows.fnExactIntervalMeetRow.holds Try.pinned (OpenSpec.ofChange Rows.fnExactIntervalMeetSpec) :=
  OpenClaim.holds_of_wide 13 Try.f13 rfl rfl rfl rfl rfl rfl rfl ⟨rfl, rfl, rfl, rfl, rfl⟩ rfl rfl rfl rfl rfl (by kernel_rfl) Try.func13 (by kernel_rfl)
    (of_decide_eq_true (by kernel_rfl)) (by unfold Func.isWrapper; first | (rw [if_pos (by decide +kernel)]; kernel_rfl) | (rw [if_neg (by decide +kernel)]; exact ⟨rfl, rfl⟩))
    (fun os started H enc _ => lifted os started H enc)
theorem proved : Rows.FnExactIntervalMeetSaid := over
#print axioms proved
end Go.Proofs.Ytdceajeldlnkkaa.fnExactIntervalMeet
namespace Go.Proofs.Ytdceajeldlnkkaa
/-- The row, under a short name, for the claim. -/
theorem fnExactIntervalMeet_holds : Rows.FnExactIntervalMeetSaid := fnExactIntervalMeet.proved
end Go.Proofs.Ytdceajeldlnkkaa
