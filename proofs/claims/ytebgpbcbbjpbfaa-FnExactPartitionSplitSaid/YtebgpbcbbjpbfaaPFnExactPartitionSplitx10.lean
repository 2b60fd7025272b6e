-- Written for this claim by a program of this session (wip/myprint in the proofs' repo)
import Derived.Test.YtebgpbcbbjpbfaaPFnExactPartitionSplitx0
import Derived.Test.YtebgpbcbbjpbfaaPFnExactPartitionSplitx1
import Derived.Test.YtebgpbcbbjpbfaaPFnExactPartitionSplitx3
import Derived.Test.YtebgpbcbbjpbfaaPFnExactPartitionSplitx4
import Derived.Test.YtebgpbcbbjpbfaaPFnExactPartitionSplitx8
import Derived.Test.YtebgpbcbbjpbfaaPFnExactPartitionSplitx9
import Derived.Test.YtebgpbcbbjpbfaaWZip
namespace Go.Proofs.Ytebgpbcbbjpbfaa.PFnExactPartitionSplit
open Go.RowKit Go.Proofs.YtebgpbcbbjpbfaaW.PrintWords Go.Proofs.YtebgpbcbbjpbfaaW.PrintLast Go.Proofs.YtebgpbcbbjpbfaaW.PrintMore
attribute [local go_sem] max2_int min2_int max_two min_two max_three min_three max_four min_four max2_strs min2_strs   -- for this text's walks alone
set_option linter.unusedVariables false
set_option linter.unusedSimpArgs false

/-! ### laws_FnExactPartitionSplit: function 3 -/
mutual
def laws_FnExactPartitionSplit.j0 : Nat → List (S74) → ByteArray → List (S76) → Bool → List (S76) → List (S76) → Bool → Bool → Option (Bool)
 | 0, _, _, _, _, _, _, _, _ => none
 | k + 1, x0, x1, x6, x7, x8, x9, x10, x47 => if x47 = true then (none) else ((laws_toIntervalS.f k x0).bind fun t277 => ((laws_eqIntervalS.f k x8 t277).bind fun t280 => (if t280 = true then ((laws_markIntervalS.f k x8 1).bind fun bt281 => (if bt281.1 < 0 then (laws_FnExactPartitionSplit.j1 k x0 x1 x6 x7 x9 true) else ((laws_eqIntervalS.f k x9 x6).bind fun t283 => (if t283 = true then (laws_FnExactPartitionSplit.j1 k x0 x1 x6 x7 x9 (x10 != x7)) else (laws_FnExactPartitionSplit.j1 k x0 x1 x6 x7 x9 true))))) else (none))))
def laws_FnExactPartitionSplit.j1 : Nat → List (S74) → ByteArray → List (S76) → Bool → List (S76) → Bool → Option (Bool)
 | 0, _, _, _, _, _, _ => none
 | k + 1, x0, x1, x6, x7, x9, x68 => if x68 = true then (none) else ((laws_markIntervalS.f k x9 1).bind fun bt284 => ((laws_heldIntervalS.f k bt284.2 1).bind fun t286 => (if t286 < 0 then (none) else (if t286 = bt284.1 then ((laws_toIntervalS.f k x0).bind fun t287 => ((impl_PartitionSplit.f k t287 x1).bind fun bt290 => ((laws_eqIntervalS.f k bt290.1 x6).bind fun t294 => (if t294 = true then (laws_FnExactPartitionSplit.j2 k bt284.2 bt284.1 (bt290.2 != x7)) else (laws_FnExactPartitionSplit.j2 k bt284.2 bt284.1 true))))) else (none)))))
def laws_FnExactPartitionSplit.j2 : Nat → List (S76) → Int → Bool → Option (Bool)
 | 0, _, _, _ => none
 | k + 1, x9, x12, x95 => if x95 = true then (none) else ((laws_heldIntervalS.f k x9 1).bind fun t295 => (if t295 < 0 then (none) else (if t295 = x12 then (some true) else (none))))
end
def laws_FnExactPartitionSplit.f (k : Nat) (l0 : List (S74)) (a1 : ByteArray) : Option (Bool) := if (a1.size : Int) > 1048576 then (some true) else ((laws_szIntervalS.f k l0 1048576).bind fun t261 => (if t261 < 0 then (some true) else ((laws_toIntervalS.f k l0).bind fun t262 => ((spec_PartitionSplit.f k t262 a1).bind fun bt265 => ((laws_toIntervalS.f k l0).bind fun t269 => ((impl_PartitionSplit.f k t269 a1).bind fun bt272 => ((laws_eqIntervalS.f k bt272.1 bt265.1).bind fun t276 => (if t276 = true then (laws_FnExactPartitionSplit.j0 k l0 a1 bt265.1 bt265.2 t269 bt272.1 bt272.2 (bt272.2 != bt265.2)) else (laws_FnExactPartitionSplit.j0 k l0 a1 bt265.1 bt265.2 t269 bt272.1 bt272.2 true)))))))))
theorem laws_FnExactPartitionSplit.mono_l : ∀ k, (∀ y0 y1 y2 y3 y4 y5 y6 y7, LeO (laws_FnExactPartitionSplit.j0 k y0 y1 y2 y3 y4 y5 y6 y7) (laws_FnExactPartitionSplit.j0 (k + 1) y0 y1 y2 y3 y4 y5 y6 y7)) ∧ (∀ y0 y1 y2 y3 y4 y5, LeO (laws_FnExactPartitionSplit.j1 k y0 y1 y2 y3 y4 y5) (laws_FnExactPartitionSplit.j1 (k + 1) y0 y1 y2 y3 y4 y5)) ∧ (∀ y0 y1 y2, LeO (laws_FnExactPartitionSplit.j2 k y0 y1 y2) (laws_FnExactPartitionSplit.j2 (k + 1) y0 y1 y2))
 | 0 => ⟨fun _ _ _ _ _ _ _ _ r h => by simp [laws_FnExactPartitionSplit.j0] at h, fun _ _ _ _ _ _ r h => by simp [laws_FnExactPartitionSplit.j1] at h, fun _ _ _ r h => by simp [laws_FnExactPartitionSplit.j2] at h⟩
 | k + 1 => by
  obtain ⟨ih0, ih1, ih2⟩ := laws_FnExactPartitionSplit.mono_l k
  refine ⟨?_, ?_, ?_⟩
  ·intro y0 y1 y2 y3 y4 y5 y6 y7
   unfold laws_FnExactPartitionSplit.j0
   repeat' first
   | (with_reducible exact ih0 _ _ _ _ _ _ _ _)
   | (with_reducible exact ih1 _ _ _ _ _ _)
   | (with_reducible exact ih2 _ _ _)
   | (with_reducible exact impl_PartitionSplit.mono _ _ _)
   | (with_reducible exact laws_eqIntervalS.mono _ _ _)
   | (with_reducible exact laws_heldIntervalS.mono _ _ _)
   | (with_reducible exact laws_markIntervalS.mono _ _ _)
   | (with_reducible exact laws_szIntervalS.mono _ _ _)
   | (with_reducible exact laws_toIntervalS.mono _ _)
   | (with_reducible exact spec_PartitionSplit.mono _ _ _)
   | (with_reducible exact LeO.refl _)
   | (with_reducible exact LeO.none _)
   | (with_reducible refine LeO.ite ?_ ?_)
   | (with_reducible refine LeO.bind ?_ (fun _ => ?_))
   | exact ih0 _ _ _ _ _ _ _ _
   | exact ih1 _ _ _ _ _ _
   | exact ih2 _ _ _
   | exact impl_PartitionSplit.mono _ _ _
   | exact laws_eqIntervalS.mono _ _ _
   | exact laws_heldIntervalS.mono _ _ _
   | exact laws_markIntervalS.mono _ _ _
   | exact laws_szIntervalS.mono _ _ _
   | exact laws_toIntervalS.mono _ _
   | exact spec_PartitionSplit.mono _ _ _
   | exact LeO.none _
   | refine LeO.ite ?_ ?_
   | refine LeO.bind ?_ (fun _ => ?_)
  ·intro y0 y1 y2 y3 y4 y5
   unfold laws_FnExactPartitionSplit.j1
   repeat' first
   | (with_reducible exact ih0 _ _ _ _ _ _ _ _)
   | (with_reducible exact ih1 _ _ _ _ _ _)
   | (with_reducible exact ih2 _ _ _)
   | (with_reducible exact impl_PartitionSplit.mono _ _ _)
   | (with_reducible exact laws_eqIntervalS.mono _ _ _)
   | (with_reducible exact laws_heldIntervalS.mono _ _ _)
   | (with_reducible exact laws_markIntervalS.mono _ _ _)
   | (with_reducible exact laws_szIntervalS.mono _ _ _)
   | (with_reducible exact laws_toIntervalS.mono _ _)
   | (with_reducible exact spec_PartitionSplit.mono _ _ _)
   | (with_reducible exact LeO.refl _)
   | (with_reducible exact LeO.none _)
   | (with_reducible refine LeO.ite ?_ ?_)
   | (with_reducible refine LeO.bind ?_ (fun _ => ?_))
   | exact ih0 _ _ _ _ _ _ _ _
   | exact ih1 _ _ _ _ _ _
   | exact ih2 _ _ _
   | exact impl_PartitionSplit.mono _ _ _
   | exact laws_eqIntervalS.mono _ _ _
   | exact laws_heldIntervalS.mono _ _ _
   | exact laws_markIntervalS.mono _ _ _
   | exact laws_szIntervalS.mono _ _ _
   | exact laws_toIntervalS.mono _ _
   | exact spec_PartitionSplit.mono _ _ _
   | exact LeO.none _
   | refine LeO.ite ?_ ?_
   | refine LeO.bind ?_ (fun _ => ?_)
  ·intro y0 y1 y2
   unfold laws_FnExactPartitionSplit.j2
   repeat' first
   | (with_reducible exact ih0 _ _ _ _ _ _ _ _)
   | (with_reducible exact ih1 _ _ _ _ _ _)
   | (with_reducible exact ih2 _ _ _)
   | (with_reducible exact impl_PartitionSplit.mono _ _ _)
   | (with_reducible exact laws_eqIntervalS.mono _ _ _)
   | (with_reducible exact laws_heldIntervalS.mono _ _ _)
   | (with_reducible exact laws_markIntervalS.mono _ _ _)
   | (with_reducible exact laws_szIntervalS.mono _ _ _)
   | (with_reducible exact laws_toIntervalS.mono _ _)
   | (with_reducible exact spec_PartitionSplit.mono _ _ _)
   | (with_reducible exact LeO.refl _)
   | (with_reducible exact LeO.none _)
   | (with_reducible refine LeO.ite ?_ ?_)
   | (with_reducible refine LeO.bind ?_ (fun _ => ?_))
   | exact ih0 _ _ _ _ _ _ _ _
   | exact ih1 _ _ _ _ _ _
   | exact ih2 _ _ _
   | exact impl_PartitionSplit.mono _ _ _
   | exact laws_eqIntervalS.mono _ _ _
   | exact laws_heldIntervalS.mono _ _ _
   | exact laws_markIntervalS.mono _ _ _
   | exact laws_szIntervalS.mono _ _ _
   | exact laws_toIntervalS.mono _ _
   | exact spec_PartitionSplit.mono _ _ _
   | exact LeO.none _
   | refine LeO.ite ?_ ?_
   | refine LeO.bind ?_ (fun _ => ?_)
theorem laws_FnExactPartitionSplit.mono : ∀ a0 a1 k, LeO (laws_FnExactPartitionSplit.f k a0 a1) (laws_FnExactPartitionSplit.f (k + 1) a0 a1) := by
 intro a0 a1 k
 obtain ⟨ih0, ih1, ih2⟩ := laws_FnExactPartitionSplit.mono_l k
 unfold laws_FnExactPartitionSplit.f
 repeat' first
   | (with_reducible exact ih0 _ _ _ _ _ _ _ _)
   | (with_reducible exact ih1 _ _ _ _ _ _)
   | (with_reducible exact ih2 _ _ _)
   | (with_reducible exact impl_PartitionSplit.mono _ _ _)
   | (with_reducible exact laws_eqIntervalS.mono _ _ _)
   | (with_reducible exact laws_heldIntervalS.mono _ _ _)
   | (with_reducible exact laws_markIntervalS.mono _ _ _)
   | (with_reducible exact laws_szIntervalS.mono _ _ _)
   | (with_reducible exact laws_toIntervalS.mono _ _)
   | (with_reducible exact spec_PartitionSplit.mono _ _ _)
   | (with_reducible exact LeO.refl _)
   | (with_reducible exact LeO.none _)
   | (with_reducible refine LeO.ite ?_ ?_)
   | (with_reducible refine LeO.bind ?_ (fun _ => ?_))
   | exact ih0 _ _ _ _ _ _ _ _
   | exact ih1 _ _ _ _ _ _
   | exact ih2 _ _ _
   | exact impl_PartitionSplit.mono _ _ _
   | exact laws_eqIntervalS.mono _ _ _
   | exact laws_heldIntervalS.mono _ _ _
   | exact laws_markIntervalS.mono _ _ _
   | exact laws_szIntervalS.mono _ _ _
   | exact laws_toIntervalS.mono _ _
   | exact spec_PartitionSplit.mono _ _ _
   | exact LeO.none _
   | refine LeO.ite ?_ ?_
   | refine LeO.bind ?_ (fun _ => ?_)
set_option maxHeartbeats 8000000 in
set_option maxRecDepth 100000 in
theorem laws_FnExactPartitionSplit.calls (k : Nat) (A0 : Option Addr) (c0 : Nat) (l0 : List (S74)) (a1 : ByteArray) (r : Bool) (w : World) (hr0 : Kd.C k74 w A0 l0.length l0) (hc0 : l0.length ≤ c0) (h : laws_FnExactPartitionSplit.f k l0 a1 = some r) :
  Calls Try.prog 3 #[.slice A0 l0.length c0, .string a1] w fun e w' => e = .returned (.bool r) ∧ Below w.heap.size w w' := by
 have HR0 := Aside0.mk hr0
 have HC0 := Aside0.mk hc0
 clear hr0 hc0
 have HB := Aside0.mk (Below.refl w.heap.size w)
 have H : (if (a1.size : Int) > 1048576 then (some true) else ((laws_szIntervalS.f k l0 1048576).bind fun t261 => (if t261 < 0 then (some true) else ((laws_toIntervalS.f k l0).bind fun t262 => ((spec_PartitionSplit.f k t262 a1).bind fun bt265 => ((laws_toIntervalS.f k l0).bind fun t269 => ((impl_PartitionSplit.f k t269 a1).bind fun bt272 => ((laws_eqIntervalS.f k bt272.1 bt265.1).bind fun t276 => (if t276 = true then (laws_FnExactPartitionSplit.j0 k l0 a1 bt265.1 bt265.2 t269 bt272.1 bt272.2 (bt272.2 != bt265.2)) else (laws_FnExactPartitionSplit.j0 k l0 a1 bt265.1 bt265.2 t269 bt272.1 bt272.2 true)))))))))) = some r := h
 clear h
 by_cases c3 : (a1.size : Int) > 1048576
 ·rw [if_pos c3] at H
  have c3b0 : decide (1048576 < (a1.size : Int)) = true := decide_eq_true c3
  have c3b1 : decide (1048576 < a1.size) = true := decide_eq_true (by omega)
  clear c3
  obtain rfl := Option.some.inj H
  go_enter Try.func3, Try.ntmps3
  go_wp2
  go_ret
  exact ⟨by first | rfl | (simp only [u8_w_, w64_u8_] <;> rfl) | (simp [errW_none, errW_some] <;> rfl) | (simp [*, errW_none, errW_some] <;> rfl), by repeat (first | (with_reducible first | exact HB.out | apply bA | apply bN | apply bD) | exact HB.out)⟩
 ·rw [if_neg c3] at H
  have c3b0 : decide (1048576 < (a1.size : Int)) = false := decide_eq_false c3
  have c3b1 : decide (1048576 < a1.size) = false := decide_eq_false (by omega)
  clear c3
  replace H := Option.bind_eq_some_iff.mp H
  obtain ⟨t261, A40, H⟩ := H
  replace H : (if t261 < 0 then (some true) else ((laws_toIntervalS.f k l0).bind fun t262 => ((spec_PartitionSplit.f k t262 a1).bind fun bt265 => ((laws_toIntervalS.f k l0).bind fun t269 => ((impl_PartitionSplit.f k t269 a1).bind fun bt272 => ((laws_eqIntervalS.f k bt272.1 bt265.1).bind fun t276 => (if t276 = true then (laws_FnExactPartitionSplit.j0 k l0 a1 bt265.1 bt265.2 t269 bt272.1 bt272.2 (bt272.2 != bt265.2)) else (laws_FnExactPartitionSplit.j0 k l0 a1 bt265.1 bt265.2 t269 bt272.1 bt272.2 true)))))))) = some r := H
  have A4 := Aside0.mk A40
  clear A40
  by_cases c5 : t261 < 0
  ·rw [if_pos c5] at H
   have c5b0 : decide (t261 < 0) = true := decide_eq_true c5
   clear c5
   obtain rfl := Option.some.inj H
   go_enter Try.func3, Try.ntmps3
   go_wp2_with (first | ((with_reducible refine gate_callee (f := 15) rfl ?_); refine goesL_ (some 21) rfl rfl Try.func15 (by kernel_rfl) rfl #[.slice A0 l0.length c0, .int .i64 1048576] rfl (by (try simp only [List.map_toArray, List.map_cons, List.map_nil]); first | done | rfl | (simp only [List.length_drop, List.length_take]; rfl)) ?_; (with_reducible refine (laws_szIntervalS.calls k _ _ l0 1048576 t261 _ ?side1 ?side2 A4.out).mono ?_); (case side1 => repeat (first | exact HR0.out | (with_reducible refine Kd.C_alloc ?_ _) | (with_reducible refine Kd.C_drewN ?_ _) | (with_reducible refine Kd.C_drew ?_))); (case side2 => exact HC0.out); rintro e w6 ⟨rfl, hb⟩; refine ⟨_, rfl, ?_⟩; have n0_ := Aside0.mk (below_step (by exact hopb HB.out) hb); clear HB; have HB := n0_; clear n0_; (try clear hb); (try clear hb2); (try clear hk); (try clear hi)))
   go_ret
   exact ⟨by first | rfl | (simp only [u8_w_, w64_u8_] <;> rfl) | (simp [errW_none, errW_some] <;> rfl) | (simp [*, errW_none, errW_some] <;> rfl), by repeat (first | (with_reducible first | exact HB.out | apply bA | apply bN | apply bD) | exact HB.out)⟩
  ·rw [if_neg c5] at H
   have c5b0 : decide (t261 < 0) = false := decide_eq_false c5
   clear c5
   replace H := Option.bind_eq_some_iff.mp H
   obtain ⟨t262, A70, H⟩ := H
   replace H : ((spec_PartitionSplit.f k t262 a1).bind fun bt265 => ((laws_toIntervalS.f k l0).bind fun t269 => ((impl_PartitionSplit.f k t269 a1).bind fun bt272 => ((laws_eqIntervalS.f k bt272.1 bt265.1).bind fun t276 => (if t276 = true then (laws_FnExactPartitionSplit.j0 k l0 a1 bt265.1 bt265.2 t269 bt272.1 bt272.2 (bt272.2 != bt265.2)) else (laws_FnExactPartitionSplit.j0 k l0 a1 bt265.1 bt265.2 t269 bt272.1 bt272.2 true)))))) = some r := H
   have A7 := Aside0.mk A70
   clear A70
   replace H := Option.bind_eq_some_iff.mp H
   obtain ⟨⟨t265, t266⟩, A80, H⟩ := H
   replace H : ((laws_toIntervalS.f k l0).bind fun t269 => ((impl_PartitionSplit.f k t269 a1).bind fun bt272 => ((laws_eqIntervalS.f k bt272.1 t265).bind fun t276 => (if t276 = true then (laws_FnExactPartitionSplit.j0 k l0 a1 t265 t266 t269 bt272.1 bt272.2 (bt272.2 != t266)) else (laws_FnExactPartitionSplit.j0 k l0 a1 t265 t266 t269 bt272.1 bt272.2 true))))) = some r := H
   have A8 := Aside0.mk A80
   clear A80
   replace H := Option.bind_eq_some_iff.mp H
   obtain ⟨t269, A90, H⟩ := H
   replace H : ((impl_PartitionSplit.f k t269 a1).bind fun bt272 => ((laws_eqIntervalS.f k bt272.1 t265).bind fun t276 => (if t276 = true then (laws_FnExactPartitionSplit.j0 k l0 a1 t265 t266 t269 bt272.1 bt272.2 (bt272.2 != t266)) else (laws_FnExactPartitionSplit.j0 k l0 a1 t265 t266 t269 bt272.1 bt272.2 true)))) = some r := H
   have A9 := Aside0.mk A90
   clear A90
   replace H := Option.bind_eq_some_iff.mp H
   obtain ⟨⟨t272, t273⟩, A100, H⟩ := H
   replace H : ((laws_eqIntervalS.f k t272 t265).bind fun t276 => (if t276 = true then (laws_FnExactPartitionSplit.j0 k l0 a1 t265 t266 t269 t272 t273 (t273 != t266)) else (laws_FnExactPartitionSplit.j0 k l0 a1 t265 t266 t269 t272 t273 true))) = some r := H
   have A10 := Aside0.mk A100
   clear A100
   have HC11 := Aside0.mk H
   clear H
   go_enter Try.func3, Try.ntmps3
   go_upto_region 10 with (first | ((with_reducible refine gate_callee (f := 15) rfl ?_); refine goesL_ (some 21) rfl rfl Try.func15 (by kernel_rfl) rfl #[.slice A0 l0.length c0, .int .i64 1048576] rfl (by (try simp only [List.map_toArray, List.map_cons, List.map_nil]); first | done | rfl | (simp only [List.length_drop, List.length_take]; rfl)) ?_; (with_reducible refine (laws_szIntervalS.calls k _ _ l0 1048576 t261 _ ?side1 ?side2 A4.out).mono ?_); (case side1 => repeat (first | exact HR0.out | (with_reducible refine Kd.C_alloc ?_ _) | (with_reducible refine Kd.C_drewN ?_ _) | (with_reducible refine Kd.C_drew ?_))); (case side2 => exact HC0.out); rintro e w12 ⟨rfl, hb⟩; refine ⟨_, rfl, ?_⟩; have n0_ := Aside0.mk (below_step (by exact hopb HB.out) hb); clear HB; have HB := n0_; clear n0_; (try clear hb); (try clear hb2); (try clear hk); (try clear hi)) | ((with_reducible refine gate_callee (f := 17) rfl ?_); refine goesL_ (some 26) rfl rfl Try.func17 (by kernel_rfl) rfl #[.slice A0 l0.length c0] rfl (by (try simp only [List.map_toArray, List.map_cons, List.map_nil]); first | done | rfl | (simp only [List.length_drop, List.length_take]; rfl)) ?_; (with_reducible refine (laws_toIntervalS.calls k _ _ l0 t262 _ ?side1 ?side2 A7.out).mono ?_); (case side1 => repeat (first | exact (Kd.C_below HR0.out HB.out) | (with_reducible refine Kd.C_alloc ?_ _) | (with_reducible refine Kd.C_drewN ?_ _) | (with_reducible refine Kd.C_drew ?_))); (case side2 => exact HC0.out); rintro e w13 ⟨v263, rfl, ho0, hb⟩; refine ⟨_, rfl, ?_⟩; have n0_ := Aside0.mk (Kd.R_lower ho0 (below_size (by exact hopb HB.out))); have n1_ := Aside0.mk (below_step (by exact hopb HB.out) hb); clear HB; have HO264 := n0_; have HB := n1_; clear n0_ n1_; (try clear hb); (try clear hb2); (try clear hk); (try clear hi); (try clear ho0); obtain ⟨Ao14, co14, eo14⟩ := Kd.R_slice HO264.out; subst eo14) | ((with_reducible refine gate_callee (f := 16) rfl ?_); refine goesL_ (some 28) rfl rfl Try.func16 (by kernel_rfl) rfl #[.slice Ao14 t262.length co14, .string a1] rfl (by (try simp only [List.map_toArray, List.map_cons, List.map_nil]); first | done | rfl | (simp only [List.length_drop, List.length_take]; rfl)) ?_; (with_reducible refine (spec_PartitionSplit.calls k _ _ t262 a1 t265 t266 _ ?side1 ?side2 A8.out).mono ?_); (case side1 => repeat (first | exact (Kd.R_reads' HO264.out).2.2 | (with_reducible refine Kd.C_alloc ?_ _) | (with_reducible refine Kd.C_drewN ?_ _) | (with_reducible refine Kd.C_drew ?_))); (case side2 => exact (Kd.R_reads' HO264.out).2.1); rintro e w15 ⟨v267, rfl, ho0, hb⟩; refine ⟨_, rfl, ?_⟩; have n0_ := Aside0.mk (Kd.R_elder' (by (with_reducible repeat (first | apply Kd.R_alloc | apply Kd.R_drewN | apply Kd.R_drew)); exact HO264.out) (Kd.R_base ho0) hb); have n1_ := Aside0.mk (Kd.R_lower (Kd.R_new' ho0 (Kd.R_lt (by (with_reducible repeat (first | apply Kd.R_alloc | apply Kd.R_drewN | apply Kd.R_drew)); exact HO264.out))) (below_size (by exact hopb HB.out))); have n2_ := Aside0.mk (below_step (by exact hopb HB.out) hb); clear HO264; clear HB; have HO264 := n0_; have HO268 := n1_; have HB := n2_; clear n0_ n1_ n2_; (try clear hb); (try clear hb2); (try clear hk); (try clear hi); (try clear ho0)) | ((with_reducible refine gate_callee (f := 17) rfl ?_); refine goesL_ (some 32) rfl rfl Try.func17 (by kernel_rfl) rfl #[.slice A0 l0.length c0] rfl (by (try simp only [List.map_toArray, List.map_cons, List.map_nil]); first | done | rfl | (simp only [List.length_drop, List.length_take]; rfl)) ?_; (with_reducible refine (laws_toIntervalS.calls k _ _ l0 t269 _ ?side1 ?side2 A9.out).mono ?_); (case side1 => repeat (first | exact (Kd.C_below HR0.out HB.out) | (with_reducible refine Kd.C_alloc ?_ _) | (with_reducible refine Kd.C_drewN ?_ _) | (with_reducible refine Kd.C_drew ?_))); (case side2 => exact HC0.out); rintro e w16 ⟨v270, rfl, ho0, hb⟩; refine ⟨_, rfl, ?_⟩; have n0_ := Aside0.mk (Kd.R_elder' (by (with_reducible repeat (first | apply Kd.R_alloc | apply Kd.R_drewN | apply Kd.R_drew)); exact HO264.out) (Kd.R_base ho0) hb); have n1_ := Aside0.mk (Kd.R_elder' (by (with_reducible repeat (first | apply Kd.R_alloc | apply Kd.R_drewN | apply Kd.R_drew)); exact HO268.out) (Kd.R_base ho0) hb); have n2_ := Aside0.mk (Kd.R_lower (Kd.R_new' (Kd.R_new' ho0 (Kd.R_lt (by (with_reducible repeat (first | apply Kd.R_alloc | apply Kd.R_drewN | apply Kd.R_drew)); exact HO264.out))) (Kd.R_lt (by (with_reducible repeat (first | apply Kd.R_alloc | apply Kd.R_drewN | apply Kd.R_drew)); exact HO268.out))) (below_size (by exact hopb HB.out))); have n3_ := Aside0.mk (below_step (by exact hopb HB.out) hb); clear HO264; clear HO268; clear HB; have HO264 := n0_; have HO268 := n1_; have HO271 := n2_; have HB := n3_; clear n0_ n1_ n2_ n3_; (try clear hb); (try clear hb2); (try clear hk); (try clear hi); (try clear ho0); obtain ⟨Ao17, co17, eo17⟩ := Kd.R_slice HO271.out; subst eo17) | ((with_reducible refine gate_callee (f := 18) rfl ?_); refine goesL_ (some 36) rfl rfl Try.func18 (by kernel_rfl) rfl #[.slice Ao17 t269.length co17, .string a1] rfl (by (try simp only [List.map_toArray, List.map_cons, List.map_nil]); first | done | rfl | (simp only [List.length_drop, List.length_take]; rfl)) ?_; (with_reducible refine (impl_PartitionSplit.calls k _ _ t269 a1 t272 t273 _ ?side1 ?side2 A10.out).mono ?_); (case side1 => repeat (first | exact (Kd.R_reads' HO271.out).2.2 | (with_reducible refine Kd.C_alloc ?_ _) | (with_reducible refine Kd.C_drewN ?_ _) | (with_reducible refine Kd.C_drew ?_))); (case side2 => exact (Kd.R_reads' HO271.out).2.1); rintro e w18 ⟨v274, rfl, ho0, hb⟩; refine ⟨_, rfl, ?_⟩; have n0_ := Aside0.mk (Kd.R_elder' (by (with_reducible repeat (first | apply Kd.R_alloc | apply Kd.R_drewN | apply Kd.R_drew)); exact HO264.out) (Kd.R_base ho0) hb); have n1_ := Aside0.mk (Kd.R_elder' (by (with_reducible repeat (first | apply Kd.R_alloc | apply Kd.R_drewN | apply Kd.R_drew)); exact HO268.out) (Kd.R_base ho0) hb); have n2_ := Aside0.mk (Kd.R_elder' (by (with_reducible repeat (first | apply Kd.R_alloc | apply Kd.R_drewN | apply Kd.R_drew)); exact HO271.out) (Kd.R_base ho0) hb); have n3_ := Aside0.mk (Kd.R_lower (Kd.R_new' (Kd.R_new' (Kd.R_new' ho0 (Kd.R_lt (by (with_reducible repeat (first | apply Kd.R_alloc | apply Kd.R_drewN | apply Kd.R_drew)); exact HO264.out))) (Kd.R_lt (by (with_reducible repeat (first | apply Kd.R_alloc | apply Kd.R_drewN | apply Kd.R_drew)); exact HO268.out))) (Kd.R_lt (by (with_reducible repeat (first | apply Kd.R_alloc | apply Kd.R_drewN | apply Kd.R_drew)); exact HO271.out))) (below_size (by exact hopb HB.out))); have n4_ := Aside0.mk (below_step (by exact hopb HB.out) hb); clear HO264; clear HO268; clear HO271; clear HB; have HO264 := n0_; have HO268 := n1_; have HO271 := n2_; have HO275 := n3_; have HB := n4_; clear n0_ n1_ n2_ n3_ n4_; (try clear hb); (try clear hb2); (try clear hk); (try clear hi); (try clear ho0)))
   (try simp only [Act.put, lT, lZ, lS])
   go_cut [47] (fun v47 wc => ∃ (kq : Nat) (x47_10 : Bool), v47 = .bool x47_10 ∧ Aside0 (laws_FnExactPartitionSplit.j0 kq l0 a1 t265 t266 t269 t272 t273 x47_10 = some r) ∧ Aside0 (kq ≤ k) ∧ Aside0 (Kd.R k76 76 wc w.heap.size (fun k_ => some k_ ≠ ((.slice Ao17 t269.length co17) : Value).ownBlock ∧ some k_ ≠ (v274 : Value).ownBlock) v267 t265) ∧ Aside0 (Kd.R k76 76 wc w.heap.size (fun k_ => some k_ ≠ (v267 : Value).ownBlock ∧ some k_ ≠ (v274 : Value).ownBlock) (.slice Ao17 t269.length co17) t269) ∧ Aside0 (Kd.R k76 76 wc w.heap.size (fun k_ => some k_ ≠ (v267 : Value).ownBlock ∧ some k_ ≠ ((.slice Ao17 t269.length co17) : Value).ownBlock) v274 t272) ∧ Aside0 (Below w.heap.size w wc))
   case first =>
    have H := HC11.out
    clear HC11
    replace H := Option.bind_eq_some_iff.mp H
    obtain ⟨t276, A190, H⟩ := H
    replace H : (if t276 = true then (laws_FnExactPartitionSplit.j0 k l0 a1 t265 t266 t269 t272 t273 (t273 != t266)) else (laws_FnExactPartitionSplit.j0 k l0 a1 t265 t266 t269 t272 t273 true)) = some r := H
    have A19 := Aside0.mk A190
    clear A190
    by_cases c20 : t276 = true
    ·subst c20
     have H1 : (laws_FnExactPartitionSplit.j0 k l0 a1 t265 t266 t269 t272 t273 (t273 != t266)) = some r := by rw [if_pos rfl] at H; exact H
     clear H
     have H := H1
     clear H1
     have H' := Aside0.mk H
     clear H
     obtain ⟨Ao21, co21, eo21⟩ := Kd.R_slice HO275.out
     subst eo21
     obtain ⟨Ao22, co22, eo22⟩ := Kd.R_slice HO268.out
     subst eo22
     go_wp2_with (first | ((with_reducible refine gate_callee (f := 19) rfl ?_); refine goesL_ (some 41) rfl rfl Try.func19 (by kernel_rfl) rfl #[.slice Ao21 t272.length co21, .slice Ao22 t265.length co22] rfl (by (try simp only [List.map_toArray, List.map_cons, List.map_nil]); first | done | rfl | (simp only [List.length_drop, List.length_take]; rfl)) ?_; (with_reducible refine (laws_eqIntervalS.calls k _ _ t272 _ _ t265 true _ ?side1 ?side2 ?side3 ?side4 A19.out).mono ?_); (case side1 => repeat (first | exact (Kd.R_reads' HO275.out).2.2 | (with_reducible refine Kd.C_alloc ?_ _) | (with_reducible refine Kd.C_drewN ?_ _) | (with_reducible refine Kd.C_drew ?_))); (case side2 => exact (Kd.R_reads' HO275.out).2.1); (case side3 => repeat (first | exact (Kd.R_reads' HO268.out).2.2 | (with_reducible refine Kd.C_alloc ?_ _) | (with_reducible refine Kd.C_drewN ?_ _) | (with_reducible refine Kd.C_drew ?_))); (case side4 => exact (Kd.R_reads' HO268.out).2.1); rintro e w23 ⟨rfl, hb⟩; refine ⟨_, rfl, ?_⟩; have n0_ := Aside0.mk (Kd.R_below (by (with_reducible repeat (first | apply Kd.R_alloc | apply Kd.R_drewN | apply Kd.R_drew)); exact HO264.out) hb); have n1_ := Aside0.mk (Kd.R_below (by (with_reducible repeat (first | apply Kd.R_alloc | apply Kd.R_drewN | apply Kd.R_drew)); exact HO268.out) hb); have n2_ := Aside0.mk (Kd.R_below (by (with_reducible repeat (first | apply Kd.R_alloc | apply Kd.R_drewN | apply Kd.R_drew)); exact HO271.out) hb); have n3_ := Aside0.mk (Kd.R_below (by (with_reducible repeat (first | apply Kd.R_alloc | apply Kd.R_drewN | apply Kd.R_drew)); exact HO275.out) hb); have n4_ := Aside0.mk (below_step (by exact hopb HB.out) hb); clear HO264; clear HO268; clear HO271; clear HO275; clear HB; have HO264 := n0_; have HO268 := n1_; have HO271 := n2_; have HO275 := n3_; have HB := n4_; clear n0_ n1_ n2_ n3_ n4_; (try clear hb); (try clear hb2); (try clear hk); (try clear hi)))
     go_meet
     case rel => exact ⟨_, ((t273 != t266)), (by first | rfl | (simp; done) | (simp [bne]; done) | (simp [*]; done)), H', ⟨by first | omega | exact Nat.le_refl _⟩, ⟨by (with_reducible repeat (first | apply Kd.R_alloc | apply Kd.R_drewN | apply Kd.R_drew)); exact Kd.R_mono HO268.out (fun _ hk => ⟨hk.1.2, hk.2⟩)⟩, ⟨by (with_reducible repeat (first | apply Kd.R_alloc | apply Kd.R_drewN | apply Kd.R_drew)); exact Kd.R_mono HO271.out (fun _ hk => ⟨hk.1.2, hk.2⟩)⟩, ⟨by (with_reducible repeat (first | apply Kd.R_alloc | apply Kd.R_drewN | apply Kd.R_drew)); exact Kd.R_mono HO275.out (fun _ hk => ⟨hk.1.2, hk.2⟩)⟩, ⟨by repeat (first | (with_reducible first | exact HB.out | apply bA | apply bN | apply bD) | exact HB.out)⟩⟩
    ·replace c20 := Bool.eq_false_iff.mpr c20
     subst c20
     have H1 : (laws_FnExactPartitionSplit.j0 k l0 a1 t265 t266 t269 t272 t273 true) = some r := by rw [if_neg (show ¬ (false = true) by decide)] at H; exact H
     clear H
     have H := H1
     clear H1
     have H' := Aside0.mk H
     clear H
     obtain ⟨Ao24, co24, eo24⟩ := Kd.R_slice HO275.out
     subst eo24
     obtain ⟨Ao25, co25, eo25⟩ := Kd.R_slice HO268.out
     subst eo25
     go_wp2_with (first | ((with_reducible refine gate_callee (f := 19) rfl ?_); refine goesL_ (some 41) rfl rfl Try.func19 (by kernel_rfl) rfl #[.slice Ao24 t272.length co24, .slice Ao25 t265.length co25] rfl (by (try simp only [List.map_toArray, List.map_cons, List.map_nil]); first | done | rfl | (simp only [List.length_drop, List.length_take]; rfl)) ?_; (with_reducible refine (laws_eqIntervalS.calls k _ _ t272 _ _ t265 false _ ?side1 ?side2 ?side3 ?side4 A19.out).mono ?_); (case side1 => repeat (first | exact (Kd.R_reads' HO275.out).2.2 | (with_reducible refine Kd.C_alloc ?_ _) | (with_reducible refine Kd.C_drewN ?_ _) | (with_reducible refine Kd.C_drew ?_))); (case side2 => exact (Kd.R_reads' HO275.out).2.1); (case side3 => repeat (first | exact (Kd.R_reads' HO268.out).2.2 | (with_reducible refine Kd.C_alloc ?_ _) | (with_reducible refine Kd.C_drewN ?_ _) | (with_reducible refine Kd.C_drew ?_))); (case side4 => exact (Kd.R_reads' HO268.out).2.1); rintro e w26 ⟨rfl, hb⟩; refine ⟨_, rfl, ?_⟩; have n0_ := Aside0.mk (Kd.R_below (by (with_reducible repeat (first | apply Kd.R_alloc | apply Kd.R_drewN | apply Kd.R_drew)); exact HO264.out) hb); have n1_ := Aside0.mk (Kd.R_below (by (with_reducible repeat (first | apply Kd.R_alloc | apply Kd.R_drewN | apply Kd.R_drew)); exact HO268.out) hb); have n2_ := Aside0.mk (Kd.R_below (by (with_reducible repeat (first | apply Kd.R_alloc | apply Kd.R_drewN | apply Kd.R_drew)); exact HO271.out) hb); have n3_ := Aside0.mk (Kd.R_below (by (with_reducible repeat (first | apply Kd.R_alloc | apply Kd.R_drewN | apply Kd.R_drew)); exact HO275.out) hb); have n4_ := Aside0.mk (below_step (by exact hopb HB.out) hb); clear HO264; clear HO268; clear HO271; clear HO275; clear HB; have HO264 := n0_; have HO268 := n1_; have HO271 := n2_; have HO275 := n3_; have HB := n4_; clear n0_ n1_ n2_ n3_ n4_; (try clear hb); (try clear hb2); (try clear hk); (try clear hi)))
     go_meet
     case rel => exact ⟨_, (true), (by first | rfl | (simp; done) | (simp [bne]; done) | (simp [*]; done)), H', ⟨by first | omega | exact Nat.le_refl _⟩, ⟨by (with_reducible repeat (first | apply Kd.R_alloc | apply Kd.R_drewN | apply Kd.R_drew)); exact Kd.R_mono HO268.out (fun _ hk => ⟨hk.1.2, hk.2⟩)⟩, ⟨by (with_reducible repeat (first | apply Kd.R_alloc | apply Kd.R_drewN | apply Kd.R_drew)); exact Kd.R_mono HO271.out (fun _ hk => ⟨hk.1.2, hk.2⟩)⟩, ⟨by (with_reducible repeat (first | apply Kd.R_alloc | apply Kd.R_drewN | apply Kd.R_drew)); exact Kd.R_mono HO275.out (fun _ hk => ⟨hk.1.2, hk.2⟩)⟩, ⟨by repeat (first | (with_reducible first | exact HB.out | apply bA | apply bN | apply bD) | exact HB.out)⟩⟩
   case rest =>
    clear HC11
    try clear c1
    try clear c2
    try clear p2
    try clear c3
    try clear c3b0
    try clear c3b1
    try clear c5
    try clear c5b0
    try clear c15
    try clear c16
    try clear c17
    try clear c18
    try clear c19
    try clear c20
    obtain ⟨kq, x47_10, rfl, HA, HJ10, HO_6, HO_8, HO_9, HB⟩ := hcut
    cases kq with
    | zero => exact absurd HA.out (by simp [laws_FnExactPartitionSplit.j0])
    | succ kj10 =>
     have H := HA.out
     clear HA
     simp only [laws_FnExactPartitionSplit.j0] at H
     by_cases c27 : x47_10 = true
     ·subst c27
      have H1 : (none) = some r := by rw [if_pos rfl] at H; exact H
      clear H
      have H := H1
      clear H1
      exact absurd H (by simp)
     ·replace c27 := Bool.eq_false_iff.mpr c27
      subst c27
      have H1 : ((laws_toIntervalS.f kj10 l0).bind fun t277 => ((laws_eqIntervalS.f kj10 t269 t277).bind fun t280 => (if t280 = true then ((laws_markIntervalS.f kj10 t269 1).bind fun bt281 => (if bt281.1 < 0 then (laws_FnExactPartitionSplit.j1 kj10 l0 a1 t265 t266 t272 true) else ((laws_eqIntervalS.f kj10 t272 t265).bind fun t283 => (if t283 = true then (laws_FnExactPartitionSplit.j1 kj10 l0 a1 t265 t266 t272 (t273 != t266)) else (laws_FnExactPartitionSplit.j1 kj10 l0 a1 t265 t266 t272 true))))) else (none)))) = some r := by rw [if_neg (show ¬ (false = true) by decide)] at H; exact H
      clear H
      have H := H1
      clear H1
      replace H := Option.bind_eq_some_iff.mp H
      obtain ⟨t277, A280, H⟩ := H
      replace H : ((laws_eqIntervalS.f kj10 t269 t277).bind fun t280 => (if t280 = true then ((laws_markIntervalS.f kj10 t269 1).bind fun bt281 => (if bt281.1 < 0 then (laws_FnExactPartitionSplit.j1 kj10 l0 a1 t265 t266 t272 true) else ((laws_eqIntervalS.f kj10 t272 t265).bind fun t283 => (if t283 = true then (laws_FnExactPartitionSplit.j1 kj10 l0 a1 t265 t266 t272 (t273 != t266)) else (laws_FnExactPartitionSplit.j1 kj10 l0 a1 t265 t266 t272 true))))) else (none))) = some r := H
      have A28 := Aside0.mk A280
      clear A280
      replace H := Option.bind_eq_some_iff.mp H
      obtain ⟨t280, A290, H⟩ := H
      replace H : (if t280 = true then ((laws_markIntervalS.f kj10 t269 1).bind fun bt281 => (if bt281.1 < 0 then (laws_FnExactPartitionSplit.j1 kj10 l0 a1 t265 t266 t272 true) else ((laws_eqIntervalS.f kj10 t272 t265).bind fun t283 => (if t283 = true then (laws_FnExactPartitionSplit.j1 kj10 l0 a1 t265 t266 t272 (t273 != t266)) else (laws_FnExactPartitionSplit.j1 kj10 l0 a1 t265 t266 t272 true))))) else (none)) = some r := H
      have A29 := Aside0.mk A290
      clear A290
      by_cases c30 : t280 = true
      ·subst c30
       have H1 : ((laws_markIntervalS.f kj10 t269 1).bind fun bt281 => (if bt281.1 < 0 then (laws_FnExactPartitionSplit.j1 kj10 l0 a1 t265 t266 t272 true) else ((laws_eqIntervalS.f kj10 t272 t265).bind fun t283 => (if t283 = true then (laws_FnExactPartitionSplit.j1 kj10 l0 a1 t265 t266 t272 (t273 != t266)) else (laws_FnExactPartitionSplit.j1 kj10 l0 a1 t265 t266 t272 true))))) = some r := by rw [if_pos rfl] at H; exact H
       clear H
       have H := H1
       clear H1
       replace H := Option.bind_eq_some_iff.mp H
       obtain ⟨⟨t281, t282⟩, A310, H⟩ := H
       replace H : (if t281 < 0 then (laws_FnExactPartitionSplit.j1 kj10 l0 a1 t265 t266 t272 true) else ((laws_eqIntervalS.f kj10 t272 t265).bind fun t283 => (if t283 = true then (laws_FnExactPartitionSplit.j1 kj10 l0 a1 t265 t266 t272 (t273 != t266)) else (laws_FnExactPartitionSplit.j1 kj10 l0 a1 t265 t266 t272 true)))) = some r := H
       have A31 := Aside0.mk A310
       clear A310
       have HC32 := Aside0.mk H
       clear H
       go_upto_region 16 with (first | ((with_reducible refine gate_callee (f := 17) rfl ?_); refine goesL_ (some 50) rfl rfl Try.func17 (by kernel_rfl) rfl #[.slice A0 l0.length c0] rfl (by (try simp only [List.map_toArray, List.map_cons, List.map_nil]); first | done | rfl | (simp only [List.length_drop, List.length_take]; rfl)) ?_; (with_reducible refine (laws_toIntervalS.calls kj10 _ _ l0 t277 _ ?side1 ?side2 A28.out).mono ?_); (case side1 => repeat (first | exact (Kd.C_below HR0.out HB.out) | (with_reducible refine Kd.C_alloc ?_ _) | (with_reducible refine Kd.C_drewN ?_ _) | (with_reducible refine Kd.C_drew ?_))); (case side2 => exact HC0.out); rintro e w33 ⟨v278, rfl, ho0, hb⟩; refine ⟨_, rfl, ?_⟩; have n0_ := Aside0.mk (Kd.R_elder' (by (with_reducible repeat (first | apply Kd.R_alloc | apply Kd.R_drewN | apply Kd.R_drew)); exact HO_6.out) (Kd.R_base ho0) hb); have n1_ := Aside0.mk (Kd.R_elder' (by (with_reducible repeat (first | apply Kd.R_alloc | apply Kd.R_drewN | apply Kd.R_drew)); exact HO_8.out) (Kd.R_base ho0) hb); have n2_ := Aside0.mk (Kd.R_elder' (by (with_reducible repeat (first | apply Kd.R_alloc | apply Kd.R_drewN | apply Kd.R_drew)); exact HO_9.out) (Kd.R_base ho0) hb); have n3_ := Aside0.mk (Kd.R_lower (Kd.R_new' (Kd.R_new' (Kd.R_new' ho0 (Kd.R_lt (by (with_reducible repeat (first | apply Kd.R_alloc | apply Kd.R_drewN | apply Kd.R_drew)); exact HO_6.out))) (Kd.R_lt (by (with_reducible repeat (first | apply Kd.R_alloc | apply Kd.R_drewN | apply Kd.R_drew)); exact HO_8.out))) (Kd.R_lt (by (with_reducible repeat (first | apply Kd.R_alloc | apply Kd.R_drewN | apply Kd.R_drew)); exact HO_9.out))) (below_size (by exact hopb HB.out))); have n4_ := Aside0.mk (below_step (by exact hopb HB.out) hb); clear HO_6; clear HO_8; clear HO_9; clear HB; have HO_6 := n0_; have HO_8 := n1_; have HO_9 := n2_; have HO279 := n3_; have HB := n4_; clear n0_ n1_ n2_ n3_ n4_; (try clear hb); (try clear hb2); (try clear hk); (try clear hi); (try clear ho0); obtain ⟨Ao34, co34, eo34⟩ := Kd.R_slice HO279.out; subst eo34) | ((with_reducible refine gate_callee (f := 19) rfl ?_); refine goesL_ (some 51) rfl rfl Try.func19 (by kernel_rfl) rfl #[.slice Ao17 t269.length co17, .slice Ao34 t277.length co34] rfl (by (try simp only [List.map_toArray, List.map_cons, List.map_nil]); first | done | rfl | (simp only [List.length_drop, List.length_take]; rfl)) ?_; (with_reducible refine (laws_eqIntervalS.calls kj10 _ _ t269 _ _ t277 true _ ?side1 ?side2 ?side3 ?side4 A29.out).mono ?_); (case side1 => repeat (first | exact (Kd.R_reads' HO_8.out).2.2 | (with_reducible refine Kd.C_alloc ?_ _) | (with_reducible refine Kd.C_drewN ?_ _) | (with_reducible refine Kd.C_drew ?_))); (case side2 => exact (Kd.R_reads' HO_8.out).2.1); (case side3 => repeat (first | exact (Kd.R_reads' HO279.out).2.2 | (with_reducible refine Kd.C_alloc ?_ _) | (with_reducible refine Kd.C_drewN ?_ _) | (with_reducible refine Kd.C_drew ?_))); (case side4 => exact (Kd.R_reads' HO279.out).2.1); rintro e w35 ⟨rfl, hb⟩; refine ⟨_, rfl, ?_⟩; have n0_ := Aside0.mk (Kd.R_below (by (with_reducible repeat (first | apply Kd.R_alloc | apply Kd.R_drewN | apply Kd.R_drew)); exact HO_6.out) hb); have n1_ := Aside0.mk (Kd.R_below (by (with_reducible repeat (first | apply Kd.R_alloc | apply Kd.R_drewN | apply Kd.R_drew)); exact HO_8.out) hb); have n2_ := Aside0.mk (Kd.R_below (by (with_reducible repeat (first | apply Kd.R_alloc | apply Kd.R_drewN | apply Kd.R_drew)); exact HO_9.out) hb); have n3_ := Aside0.mk (Kd.R_below (by (with_reducible repeat (first | apply Kd.R_alloc | apply Kd.R_drewN | apply Kd.R_drew)); exact HO279.out) hb); have n4_ := Aside0.mk (below_step (by exact hopb HB.out) hb); clear HO_6; clear HO_8; clear HO_9; clear HO279; clear HB; have HO_6 := n0_; have HO_8 := n1_; have HO_9 := n2_; have HO279 := n3_; have HB := n4_; clear n0_ n1_ n2_ n3_ n4_; (try clear hb); (try clear hb2); (try clear hk); (try clear hi)) | ((with_reducible refine gate_callee (f := 20) rfl ?_); refine goesL_ (some 55) rfl rfl Try.func20 (by kernel_rfl) rfl #[.slice Ao17 t269.length co17, .int .i64 1] rfl (by (try simp only [List.map_toArray, List.map_cons, List.map_nil]); first | done | rfl | (simp only [List.length_drop, List.length_take]; rfl)) ?_; (with_reducible refine (laws_markIntervalS.calls kj10 (fun k_ => some k_ = (.slice Ao17 t269.length co17 : Value).ownBlock) (.slice Ao17 t269.length co17) t269 1 t281 t282 w _ ?side1 ?side2 A31.out).mono ?_); (case side1 => repeat (first | (with_reducible first | exact HB.out | apply bA | apply bN | apply bD) | exact HB.out)); (case side2 => exact Kd.R_tight rfl HO_8.out); rintro e w36 ⟨rfl, hy0, hb, hkp⟩; refine ⟨_, rfl, ?_⟩; have n0_ := Aside0.mk (Kd.R_mono (ok' := fun k_ => some k_ ≠ (.slice Ao17 t269.length co17 : Value).ownBlock ∧ some k_ ≠ (v274 : Value).ownBlock ∧ some k_ ≠ (.slice Ao34 t277.length co34 : Value).ownBlock) (Kd.R_keptB (HO_6.out) hkp (fun k_ hk_ hs_ => (hk_.1.1) hs_)) (fun k_ hk_ => ⟨hk_.1.1.1, hk_.1.1.2, hk_.1.2⟩)); have n1_ := Aside0.mk (Kd.R_reok rfl hy0 (fun k_ e_ => HO_8.out.1 k_ e_)); have n2_ := Aside0.mk (Kd.R_mono (ok' := fun k_ => some k_ ≠ (v267 : Value).ownBlock ∧ some k_ ≠ (.slice Ao17 t269.length co17 : Value).ownBlock ∧ some k_ ≠ (.slice Ao34 t277.length co34 : Value).ownBlock) (Kd.R_keptB (HO_9.out) hkp (fun k_ hk_ hs_ => (hk_.1.2) hs_)) (fun k_ hk_ => ⟨hk_.1.1.1, hk_.1.1.2, hk_.1.2⟩)); have n3_ := Aside0.mk (Kd.R_mono (ok' := fun k_ => some k_ ≠ (v267 : Value).ownBlock ∧ some k_ ≠ (.slice Ao17 t269.length co17 : Value).ownBlock ∧ some k_ ≠ (v274 : Value).ownBlock) (Kd.R_keptB (HO279.out) hkp (fun k_ hk_ hs_ => (hk_.1.2) hs_)) (fun k_ hk_ => ⟨hk_.1.1.1.2, hk_.1.1.2, hk_.1.2⟩)); have n4_ := Aside0.mk (hb); clear HO_6; clear HO_8; clear HO_9; clear HO279; clear HB; have HO_6 := n0_; have HO_8 := n1_; have HO_9 := n2_; have HO279 := n3_; have HB := n4_; clear n0_ n1_ n2_ n3_ n4_; (try clear hb); (try clear hkp); (try clear hy0)))
       (try simp only [Act.put, lT, lZ, lS])
       go_cut [68] (fun v68 wc => ∃ (kq : Nat) (x68_31 : Bool), v68 = .bool x68_31 ∧ Aside0 (laws_FnExactPartitionSplit.j1 kq l0 a1 t265 t266 t272 x68_31 = some r) ∧ Aside0 (kq ≤ kj10) ∧ Aside0 (Kd.R k76 76 wc w.heap.size (fun k_ => some k_ ≠ (v274 : Value).ownBlock) v267 t265) ∧ Aside0 (Kd.R k76 76 wc w.heap.size (fun k_ => some k_ ≠ (v267 : Value).ownBlock) v274 t272) ∧ Aside0 (Below w.heap.size w wc))
       case first =>
        have H := HC32.out
        clear HC32
        by_cases c37 : t281 < 0
        ·rw [if_pos c37] at H
         have c37b0 : decide (t281 < 0) = true := decide_eq_true c37
         clear c37
         (first | rw [c37b0] | (simp only [i64_w, i32_w]; rw [c37b0]) | skip)
         have H' := Aside0.mk H
         clear H
         go_wp2
         go_meet
         case rel => exact ⟨_, (true), (by first | rfl | (simp; done) | (simp [bne]; done) | (simp [*]; done)), H', ⟨by have := HJ10.out; first | omega | exact Nat.le_refl _⟩, ⟨by (with_reducible repeat (first | apply Kd.R_alloc | apply Kd.R_drewN | apply Kd.R_drew)); exact Kd.R_mono HO_6.out (fun _ hk => hk.2.1)⟩, ⟨by (with_reducible repeat (first | apply Kd.R_alloc | apply Kd.R_drewN | apply Kd.R_drew)); exact Kd.R_mono HO_9.out (fun _ hk => hk.1)⟩, ⟨by repeat (first | (with_reducible first | exact HB.out | apply bA | apply bN | apply bD) | exact HB.out)⟩⟩
        ·rw [if_neg c37] at H
         have c37b0 : decide (t281 < 0) = false := decide_eq_false c37
         clear c37
         (first | rw [c37b0] | (simp only [i64_w, i32_w]; rw [c37b0]) | skip)
         replace H := Option.bind_eq_some_iff.mp H
         obtain ⟨t283, A380, H⟩ := H
         replace H : (if t283 = true then (laws_FnExactPartitionSplit.j1 kj10 l0 a1 t265 t266 t272 (t273 != t266)) else (laws_FnExactPartitionSplit.j1 kj10 l0 a1 t265 t266 t272 true)) = some r := H
         have A38 := Aside0.mk A380
         clear A380
         by_cases c39 : t283 = true
         ·subst c39
          have H1 : (laws_FnExactPartitionSplit.j1 kj10 l0 a1 t265 t266 t272 (t273 != t266)) = some r := by rw [if_pos rfl] at H; exact H
          clear H
          have H := H1
          clear H1
          have H' := Aside0.mk H
          clear H
          obtain ⟨Ao40, co40, eo40⟩ := Kd.R_slice HO_9.out
          subst eo40
          obtain ⟨Ao41, co41, eo41⟩ := Kd.R_slice HO_6.out
          subst eo41
          go_wp2_with (first | (go_at_call 19; (with_reducible refine (laws_eqIntervalS.calls kj10 _ _ t272 _ _ t265 true _ ?side1 ?side2 ?side3 ?side4 A38.out).mono ?_); (case side1 => repeat (first | exact (Kd.R_reads' HO_9.out).2.2 | (with_reducible refine Kd.C_alloc ?_ _) | (with_reducible refine Kd.C_drewN ?_ _) | (with_reducible refine Kd.C_drew ?_))); (case side2 => exact (Kd.R_reads' HO_9.out).2.1); (case side3 => repeat (first | exact (Kd.R_reads' HO_6.out).2.2 | (with_reducible refine Kd.C_alloc ?_ _) | (with_reducible refine Kd.C_drewN ?_ _) | (with_reducible refine Kd.C_drew ?_))); (case side4 => exact (Kd.R_reads' HO_6.out).2.1); rintro e w42 ⟨rfl, hb⟩; have n0_ := Aside0.mk (Kd.R_below (by (with_reducible repeat (first | apply Kd.R_alloc | apply Kd.R_drewN | apply Kd.R_drew)); exact HO_6.out) hb); have n1_ := Aside0.mk (Kd.R_below (by (with_reducible repeat (first | apply Kd.R_alloc | apply Kd.R_drewN | apply Kd.R_drew)); exact HO_8.out) hb); have n2_ := Aside0.mk (Kd.R_below (by (with_reducible repeat (first | apply Kd.R_alloc | apply Kd.R_drewN | apply Kd.R_drew)); exact HO_9.out) hb); have n3_ := Aside0.mk (Kd.R_below (by (with_reducible repeat (first | apply Kd.R_alloc | apply Kd.R_drewN | apply Kd.R_drew)); exact HO279.out) hb); have n4_ := Aside0.mk (below_step (by exact hopb HB.out) hb); clear HO_6; clear HO_8; clear HO_9; clear HO279; clear HB; have HO_6 := n0_; have HO_8 := n1_; have HO_9 := n2_; have HO279 := n3_; have HB := n4_; clear n0_ n1_ n2_ n3_ n4_; (try clear hb); (try clear hb2); (try clear hk); (try clear hi)))
          go_meet
          case rel => exact ⟨_, ((t273 != t266)), (by first | rfl | (simp; done) | (simp [bne]; done) | (simp [*]; done)), H', ⟨by have := HJ10.out; first | omega | exact Nat.le_refl _⟩, ⟨by (with_reducible repeat (first | apply Kd.R_alloc | apply Kd.R_drewN | apply Kd.R_drew)); exact Kd.R_mono HO_6.out (fun _ hk => hk.2.1)⟩, ⟨by (with_reducible repeat (first | apply Kd.R_alloc | apply Kd.R_drewN | apply Kd.R_drew)); exact Kd.R_mono HO_9.out (fun _ hk => hk.1)⟩, ⟨by repeat (first | (with_reducible first | exact HB.out | apply bA | apply bN | apply bD) | exact HB.out)⟩⟩
         ·replace c39 := Bool.eq_false_iff.mpr c39
          subst c39
          have H1 : (laws_FnExactPartitionSplit.j1 kj10 l0 a1 t265 t266 t272 true) = some r := by rw [if_neg (show ¬ (false = true) by decide)] at H; exact H
          clear H
          have H := H1
          clear H1
          have H' := Aside0.mk H
          clear H
          obtain ⟨Ao43, co43, eo43⟩ := Kd.R_slice HO_9.out
          subst eo43
          obtain ⟨Ao44, co44, eo44⟩ := Kd.R_slice HO_6.out
          subst eo44
          go_wp2_with (first | (go_at_call 19; (with_reducible refine (laws_eqIntervalS.calls kj10 _ _ t272 _ _ t265 false _ ?side1 ?side2 ?side3 ?side4 A38.out).mono ?_); (case side1 => repeat (first | exact (Kd.R_reads' HO_9.out).2.2 | (with_reducible refine Kd.C_alloc ?_ _) | (with_reducible refine Kd.C_drewN ?_ _) | (with_reducible refine Kd.C_drew ?_))); (case side2 => exact (Kd.R_reads' HO_9.out).2.1); (case side3 => repeat (first | exact (Kd.R_reads' HO_6.out).2.2 | (with_reducible refine Kd.C_alloc ?_ _) | (with_reducible refine Kd.C_drewN ?_ _) | (with_reducible refine Kd.C_drew ?_))); (case side4 => exact (Kd.R_reads' HO_6.out).2.1); rintro e w45 ⟨rfl, hb⟩; have n0_ := Aside0.mk (Kd.R_below (by (with_reducible repeat (first | apply Kd.R_alloc | apply Kd.R_drewN | apply Kd.R_drew)); exact HO_6.out) hb); have n1_ := Aside0.mk (Kd.R_below (by (with_reducible repeat (first | apply Kd.R_alloc | apply Kd.R_drewN | apply Kd.R_drew)); exact HO_8.out) hb); have n2_ := Aside0.mk (Kd.R_below (by (with_reducible repeat (first | apply Kd.R_alloc | apply Kd.R_drewN | apply Kd.R_drew)); exact HO_9.out) hb); have n3_ := Aside0.mk (Kd.R_below (by (with_reducible repeat (first | apply Kd.R_alloc | apply Kd.R_drewN | apply Kd.R_drew)); exact HO279.out) hb); have n4_ := Aside0.mk (below_step (by exact hopb HB.out) hb); clear HO_6; clear HO_8; clear HO_9; clear HO279; clear HB; have HO_6 := n0_; have HO_8 := n1_; have HO_9 := n2_; have HO279 := n3_; have HB := n4_; clear n0_ n1_ n2_ n3_ n4_; (try clear hb); (try clear hb2); (try clear hk); (try clear hi)))
          go_meet
          case rel => exact ⟨_, (true), (by first | rfl | (simp; done) | (simp [bne]; done) | (simp [*]; done)), H', ⟨by have := HJ10.out; first | omega | exact Nat.le_refl _⟩, ⟨by (with_reducible repeat (first | apply Kd.R_alloc | apply Kd.R_drewN | apply Kd.R_drew)); exact Kd.R_mono HO_6.out (fun _ hk => hk.2.1)⟩, ⟨by (with_reducible repeat (first | apply Kd.R_alloc | apply Kd.R_drewN | apply Kd.R_drew)); exact Kd.R_mono HO_9.out (fun _ hk => hk.1)⟩, ⟨by repeat (first | (with_reducible first | exact HB.out | apply bA | apply bN | apply bD) | exact HB.out)⟩⟩
       case rest =>
        clear HC32
        try clear c1
        try clear c2
        try clear p2
        try clear c3
        try clear c3b0
        try clear c3b1
        try clear c5
        try clear c5b0
        try clear c15
        try clear c16
        try clear c17
        try clear c18
        try clear c19
        try clear c20
        try clear c27
        try clear c30
        try clear c37
        try clear c37b0
        try clear c39
        try clear p2
        obtain ⟨kq, x68_31, rfl, HA, HJ31, HO_6, HO_9, HB⟩ := hcut
        cases kq with
        | zero => exact absurd HA.out (by simp [laws_FnExactPartitionSplit.j1])
        | succ kj31 =>
         have H := HA.out
         clear HA
         simp only [laws_FnExactPartitionSplit.j1] at H
         by_cases c46 : x68_31 = true
         ·subst c46
          have H1 : (none) = some r := by rw [if_pos rfl] at H; exact H
          clear H
          have H := H1
          clear H1
          exact absurd H (by simp)
         ·replace c46 := Bool.eq_false_iff.mpr c46
          subst c46
          have H1 : ((laws_markIntervalS.f kj31 t272 1).bind fun bt284 => ((laws_heldIntervalS.f kj31 bt284.2 1).bind fun t286 => (if t286 < 0 then (none) else (if t286 = bt284.1 then ((laws_toIntervalS.f kj31 l0).bind fun t287 => ((impl_PartitionSplit.f kj31 t287 a1).bind fun bt290 => ((laws_eqIntervalS.f kj31 bt290.1 t265).bind fun t294 => (if t294 = true then (laws_FnExactPartitionSplit.j2 kj31 bt284.2 bt284.1 (bt290.2 != t266)) else (laws_FnExactPartitionSplit.j2 kj31 bt284.2 bt284.1 true))))) else (none))))) = some r := by rw [if_neg (show ¬ (false = true) by decide)] at H; exact H
          clear H
          have H := H1
          clear H1
          replace H := Option.bind_eq_some_iff.mp H
          obtain ⟨⟨t284, t285⟩, A470, H⟩ := H
          replace H : ((laws_heldIntervalS.f kj31 t285 1).bind fun t286 => (if t286 < 0 then (none) else (if t286 = t284 then ((laws_toIntervalS.f kj31 l0).bind fun t287 => ((impl_PartitionSplit.f kj31 t287 a1).bind fun bt290 => ((laws_eqIntervalS.f kj31 bt290.1 t265).bind fun t294 => (if t294 = true then (laws_FnExactPartitionSplit.j2 kj31 t285 t284 (bt290.2 != t266)) else (laws_FnExactPartitionSplit.j2 kj31 t285 t284 true))))) else (none)))) = some r := H
          have A47 := Aside0.mk A470
          clear A470
          replace H := Option.bind_eq_some_iff.mp H
          obtain ⟨t286, A480, H⟩ := H
          replace H : (if t286 < 0 then (none) else (if t286 = t284 then ((laws_toIntervalS.f kj31 l0).bind fun t287 => ((impl_PartitionSplit.f kj31 t287 a1).bind fun bt290 => ((laws_eqIntervalS.f kj31 bt290.1 t265).bind fun t294 => (if t294 = true then (laws_FnExactPartitionSplit.j2 kj31 t285 t284 (bt290.2 != t266)) else (laws_FnExactPartitionSplit.j2 kj31 t285 t284 true))))) else (none))) = some r := H
          have A48 := Aside0.mk A480
          clear A480
          by_cases c49 : t286 < 0
          ·rw [if_pos c49] at H
           exact absurd H (by simp)
          ·rw [if_neg c49] at H
           have c49b0 : decide (t286 < 0) = false := decide_eq_false c49
           clear c49
           by_cases c50 : t286 = t284
           ·rw [if_pos c50] at H
            have c50b0 : (t286 == t284) = true := beq_iff_eq.mpr c50
            have c50b1 : (t286 != t284) = false := bne_eq_false_iff_eq.mpr c50
            clear c50
            replace H := Option.bind_eq_some_iff.mp H
            obtain ⟨t287, A510, H⟩ := H
            replace H : ((impl_PartitionSplit.f kj31 t287 a1).bind fun bt290 => ((laws_eqIntervalS.f kj31 bt290.1 t265).bind fun t294 => (if t294 = true then (laws_FnExactPartitionSplit.j2 kj31 t285 t284 (bt290.2 != t266)) else (laws_FnExactPartitionSplit.j2 kj31 t285 t284 true)))) = some r := H
            have A51 := Aside0.mk A510
            clear A510
            replace H := Option.bind_eq_some_iff.mp H
            obtain ⟨⟨t290, t291⟩, A520, H⟩ := H
            replace H : ((laws_eqIntervalS.f kj31 t290 t265).bind fun t294 => (if t294 = true then (laws_FnExactPartitionSplit.j2 kj31 t285 t284 (t291 != t266)) else (laws_FnExactPartitionSplit.j2 kj31 t285 t284 true))) = some r := H
            have A52 := Aside0.mk A520
            clear A520
            have HC53 := Aside0.mk H
            clear H
            obtain ⟨Ao54, co54, eo54⟩ := Kd.R_slice HO_9.out
            subst eo54
            go_upto_region 27 with (first | ((with_reducible refine gate_callee (f := 20) rfl ?_); refine goesL_ (some 71) rfl rfl Try.func20 (by kernel_rfl) rfl #[.slice Ao54 t272.length co54, .int .i64 1] rfl (by (try simp only [List.map_toArray, List.map_cons, List.map_nil]); first | done | rfl | (simp only [List.length_drop, List.length_take]; rfl)) ?_; (with_reducible refine (laws_markIntervalS.calls kj31 (fun k_ => some k_ = (.slice Ao54 t272.length co54 : Value).ownBlock) (.slice Ao54 t272.length co54) t272 1 t284 t285 w _ ?side1 ?side2 A47.out).mono ?_); (case side1 => repeat (first | (with_reducible first | exact HB.out | apply bA | apply bN | apply bD) | exact HB.out)); (case side2 => exact Kd.R_tight rfl HO_9.out); rintro e w55 ⟨rfl, hy0, hb, hkp⟩; refine ⟨_, rfl, ?_⟩; have n0_ := Aside0.mk (Kd.R_mono (ok' := fun k_ => some k_ ≠ (.slice Ao54 t272.length co54 : Value).ownBlock) (Kd.R_keptB (HO_6.out) hkp (fun k_ hk_ hs_ => (hk_) hs_)) (fun k_ hk_ => hk_.1)); have n1_ := Aside0.mk (Kd.R_reok rfl hy0 (fun k_ e_ => HO_9.out.1 k_ e_)); have n2_ := Aside0.mk (hb); clear HO_6; clear HO_9; clear HB; have HO_6 := n0_; have HO_9 := n1_; have HB := n2_; clear n0_ n1_ n2_; (try clear hb); (try clear hkp); (try clear hy0)) | ((with_reducible refine gate_callee (f := 21) rfl ?_); refine goesL_ (some 74) rfl rfl Try.func21 (by kernel_rfl) rfl #[.slice Ao54 t285.length co54, .int .i64 1] rfl (by (try simp only [List.map_toArray, List.map_cons, List.map_nil]); first | done | (rw [show t285.length = t272.length from (Kd.R_reads' HO_9.out).1.symm] <;> rfl) | rfl | (simp only [List.length_drop, List.length_take]; rfl)) ?_; (with_reducible refine (laws_heldIntervalS.calls kj31 _ _ t285 1 t286 _ ?side1 ?side2 A48.out).mono ?_); (case side1 => repeat (first | exact (Kd.R_reads' HO_9.out).2.2 | (with_reducible refine Kd.C_alloc ?_ _) | (with_reducible refine Kd.C_drewN ?_ _) | (with_reducible refine Kd.C_drew ?_))); (case side2 => rw [show t285.length = t272.length from (Kd.R_reads' HO_9.out).1.symm]; exact (Kd.R_reads' HO_9.out).2.1); rintro e w56 ⟨rfl, hb⟩; refine ⟨_, rfl, ?_⟩; have n0_ := Aside0.mk (Kd.R_below (by (with_reducible repeat (first | apply Kd.R_alloc | apply Kd.R_drewN | apply Kd.R_drew)); exact HO_6.out) hb); have n1_ := Aside0.mk (Kd.R_below (by (with_reducible repeat (first | apply Kd.R_alloc | apply Kd.R_drewN | apply Kd.R_drew)); exact HO_9.out) hb); have n2_ := Aside0.mk (below_step (by exact hopb HB.out) hb); clear HO_6; clear HO_9; clear HB; have HO_6 := n0_; have HO_9 := n1_; have HB := n2_; clear n0_ n1_ n2_; (try clear hb); (try clear hb2); (try clear hk); (try clear hi)) | ((with_reducible refine gate_callee (f := 17) rfl ?_); refine goesL_ (some 82) rfl rfl Try.func17 (by kernel_rfl) rfl #[.slice A0 l0.length c0] rfl (by (try simp only [List.map_toArray, List.map_cons, List.map_nil]); first | done | rfl | (simp only [List.length_drop, List.length_take]; rfl)) ?_; (with_reducible refine (laws_toIntervalS.calls kj31 _ _ l0 t287 _ ?side1 ?side2 A51.out).mono ?_); (case side1 => repeat (first | exact (Kd.C_below HR0.out HB.out) | (with_reducible refine Kd.C_alloc ?_ _) | (with_reducible refine Kd.C_drewN ?_ _) | (with_reducible refine Kd.C_drew ?_))); (case side2 => exact HC0.out); rintro e w57 ⟨v288, rfl, ho0, hb⟩; refine ⟨_, rfl, ?_⟩; have n0_ := Aside0.mk (Kd.R_elder' (by (with_reducible repeat (first | apply Kd.R_alloc | apply Kd.R_drewN | apply Kd.R_drew)); exact HO_6.out) (Kd.R_base ho0) hb); have n1_ := Aside0.mk (Kd.R_elder' (by (with_reducible repeat (first | apply Kd.R_alloc | apply Kd.R_drewN | apply Kd.R_drew)); exact HO_9.out) (Kd.R_base ho0) hb); have n2_ := Aside0.mk (Kd.R_lower (Kd.R_new' (Kd.R_new' ho0 (Kd.R_lt (by (with_reducible repeat (first | apply Kd.R_alloc | apply Kd.R_drewN | apply Kd.R_drew)); exact HO_6.out))) (Kd.R_lt (by (with_reducible repeat (first | apply Kd.R_alloc | apply Kd.R_drewN | apply Kd.R_drew)); exact HO_9.out))) (below_size (by exact hopb HB.out))); have n3_ := Aside0.mk (below_step (by exact hopb HB.out) hb); clear HO_6; clear HO_9; clear HB; have HO_6 := n0_; have HO_9 := n1_; have HO289 := n2_; have HB := n3_; clear n0_ n1_ n2_ n3_; (try clear hb); (try clear hb2); (try clear hk); (try clear hi); (try clear ho0); obtain ⟨Ao58, co58, eo58⟩ := Kd.R_slice HO289.out; subst eo58) | ((with_reducible refine gate_callee (f := 18) rfl ?_); refine goesL_ (some 84) rfl rfl Try.func18 (by kernel_rfl) rfl #[.slice Ao58 t287.length co58, .string a1] rfl (by (try simp only [List.map_toArray, List.map_cons, List.map_nil]); first | done | rfl | (simp only [List.length_drop, List.length_take]; rfl)) ?_; (with_reducible refine (impl_PartitionSplit.calls kj31 _ _ t287 a1 t290 t291 _ ?side1 ?side2 A52.out).mono ?_); (case side1 => repeat (first | exact (Kd.R_reads' HO289.out).2.2 | (with_reducible refine Kd.C_alloc ?_ _) | (with_reducible refine Kd.C_drewN ?_ _) | (with_reducible refine Kd.C_drew ?_))); (case side2 => exact (Kd.R_reads' HO289.out).2.1); rintro e w59 ⟨v292, rfl, ho0, hb⟩; refine ⟨_, rfl, ?_⟩; have n0_ := Aside0.mk (Kd.R_elder' (by (with_reducible repeat (first | apply Kd.R_alloc | apply Kd.R_drewN | apply Kd.R_drew)); exact HO_6.out) (Kd.R_base ho0) hb); have n1_ := Aside0.mk (Kd.R_elder' (by (with_reducible repeat (first | apply Kd.R_alloc | apply Kd.R_drewN | apply Kd.R_drew)); exact HO_9.out) (Kd.R_base ho0) hb); have n2_ := Aside0.mk (Kd.R_elder' (by (with_reducible repeat (first | apply Kd.R_alloc | apply Kd.R_drewN | apply Kd.R_drew)); exact HO289.out) (Kd.R_base ho0) hb); have n3_ := Aside0.mk (Kd.R_lower (Kd.R_new' (Kd.R_new' (Kd.R_new' ho0 (Kd.R_lt (by (with_reducible repeat (first | apply Kd.R_alloc | apply Kd.R_drewN | apply Kd.R_drew)); exact HO_6.out))) (Kd.R_lt (by (with_reducible repeat (first | apply Kd.R_alloc | apply Kd.R_drewN | apply Kd.R_drew)); exact HO_9.out))) (Kd.R_lt (by (with_reducible repeat (first | apply Kd.R_alloc | apply Kd.R_drewN | apply Kd.R_drew)); exact HO289.out))) (below_size (by exact hopb HB.out))); have n4_ := Aside0.mk (below_step (by exact hopb HB.out) hb); clear HO_6; clear HO_9; clear HO289; clear HB; have HO_6 := n0_; have HO_9 := n1_; have HO289 := n2_; have HO293 := n3_; have HB := n4_; clear n0_ n1_ n2_ n3_ n4_; (try clear hb); (try clear hb2); (try clear hk); (try clear hi); (try clear ho0)))
            (try simp only [Act.put, lT, lZ, lS])
            go_cut [95] (fun v95 wc => ∃ (kq : Nat) (x95_52 : Bool), v95 = .bool x95_52 ∧ Aside0 (laws_FnExactPartitionSplit.j2 kq t285 t284 x95_52 = some r) ∧ Aside0 (kq ≤ kj31) ∧ Aside0 (Kd.R k76 76 wc w.heap.size (fun _ => True) (.slice Ao54 t272.length co54) t285) ∧ Aside0 (Below w.heap.size w wc))
            case first =>
             have H := HC53.out
             clear HC53
             replace H := Option.bind_eq_some_iff.mp H
             obtain ⟨t294, A600, H⟩ := H
             replace H : (if t294 = true then (laws_FnExactPartitionSplit.j2 kj31 t285 t284 (t291 != t266)) else (laws_FnExactPartitionSplit.j2 kj31 t285 t284 true)) = some r := H
             have A60 := Aside0.mk A600
             clear A600
             by_cases c61 : t294 = true
             ·subst c61
              have H1 : (laws_FnExactPartitionSplit.j2 kj31 t285 t284 (t291 != t266)) = some r := by rw [if_pos rfl] at H; exact H
              clear H
              have H := H1
              clear H1
              have H' := Aside0.mk H
              clear H
              obtain ⟨Ao62, co62, eo62⟩ := Kd.R_slice HO293.out
              subst eo62
              obtain ⟨Ao63, co63, eo63⟩ := Kd.R_slice HO_6.out
              subst eo63
              go_wp2_with (first | ((with_reducible refine gate_callee (f := 19) rfl ?_); refine goesL_ (some 89) rfl rfl Try.func19 (by kernel_rfl) rfl #[.slice Ao62 t290.length co62, .slice Ao63 t265.length co63] rfl (by (try simp only [List.map_toArray, List.map_cons, List.map_nil]); first | done | rfl | (simp only [List.length_drop, List.length_take]; rfl)) ?_; (with_reducible refine (laws_eqIntervalS.calls kj31 _ _ t290 _ _ t265 true _ ?side1 ?side2 ?side3 ?side4 A60.out).mono ?_); (case side1 => repeat (first | exact (Kd.R_reads' HO293.out).2.2 | (with_reducible refine Kd.C_alloc ?_ _) | (with_reducible refine Kd.C_drewN ?_ _) | (with_reducible refine Kd.C_drew ?_))); (case side2 => exact (Kd.R_reads' HO293.out).2.1); (case side3 => repeat (first | exact (Kd.R_reads' HO_6.out).2.2 | (with_reducible refine Kd.C_alloc ?_ _) | (with_reducible refine Kd.C_drewN ?_ _) | (with_reducible refine Kd.C_drew ?_))); (case side4 => exact (Kd.R_reads' HO_6.out).2.1); rintro e w64 ⟨rfl, hb⟩; refine ⟨_, rfl, ?_⟩; have n0_ := Aside0.mk (Kd.R_below (by (with_reducible repeat (first | apply Kd.R_alloc | apply Kd.R_drewN | apply Kd.R_drew)); exact HO_6.out) hb); have n1_ := Aside0.mk (Kd.R_below (by (with_reducible repeat (first | apply Kd.R_alloc | apply Kd.R_drewN | apply Kd.R_drew)); exact HO_9.out) hb); have n2_ := Aside0.mk (Kd.R_below (by (with_reducible repeat (first | apply Kd.R_alloc | apply Kd.R_drewN | apply Kd.R_drew)); exact HO289.out) hb); have n3_ := Aside0.mk (Kd.R_below (by (with_reducible repeat (first | apply Kd.R_alloc | apply Kd.R_drewN | apply Kd.R_drew)); exact HO293.out) hb); have n4_ := Aside0.mk (below_step (by exact hopb HB.out) hb); clear HO_6; clear HO_9; clear HO289; clear HO293; clear HB; have HO_6 := n0_; have HO_9 := n1_; have HO289 := n2_; have HO293 := n3_; have HB := n4_; clear n0_ n1_ n2_ n3_ n4_; (try clear hb); (try clear hb2); (try clear hk); (try clear hi)))
              go_meet
              case rel => exact ⟨_, ((t291 != t266)), (by first | rfl | (simp; done) | (simp [bne]; done) | (simp [*]; done)), H', ⟨by have := HJ10.out; have := HJ31.out; first | omega | exact Nat.le_refl _⟩, ⟨by (with_reducible repeat (first | apply Kd.R_alloc | apply Kd.R_drewN | apply Kd.R_drew)); exact Kd.R_mono HO_9.out (fun _ hk => trivial)⟩, ⟨by repeat (first | (with_reducible first | exact HB.out | apply bA | apply bN | apply bD) | exact HB.out)⟩⟩
             ·replace c61 := Bool.eq_false_iff.mpr c61
              subst c61
              have H1 : (laws_FnExactPartitionSplit.j2 kj31 t285 t284 true) = some r := by rw [if_neg (show ¬ (false = true) by decide)] at H; exact H
              clear H
              have H := H1
              clear H1
              have H' := Aside0.mk H
              clear H
              obtain ⟨Ao65, co65, eo65⟩ := Kd.R_slice HO293.out
              subst eo65
              obtain ⟨Ao66, co66, eo66⟩ := Kd.R_slice HO_6.out
              subst eo66
              go_wp2_with (first | ((with_reducible refine gate_callee (f := 19) rfl ?_); refine goesL_ (some 89) rfl rfl Try.func19 (by kernel_rfl) rfl #[.slice Ao65 t290.length co65, .slice Ao66 t265.length co66] rfl (by (try simp only [List.map_toArray, List.map_cons, List.map_nil]); first | done | rfl | (simp only [List.length_drop, List.length_take]; rfl)) ?_; (with_reducible refine (laws_eqIntervalS.calls kj31 _ _ t290 _ _ t265 false _ ?side1 ?side2 ?side3 ?side4 A60.out).mono ?_); (case side1 => repeat (first | exact (Kd.R_reads' HO293.out).2.2 | (with_reducible refine Kd.C_alloc ?_ _) | (with_reducible refine Kd.C_drewN ?_ _) | (with_reducible refine Kd.C_drew ?_))); (case side2 => exact (Kd.R_reads' HO293.out).2.1); (case side3 => repeat (first | exact (Kd.R_reads' HO_6.out).2.2 | (with_reducible refine Kd.C_alloc ?_ _) | (with_reducible refine Kd.C_drewN ?_ _) | (with_reducible refine Kd.C_drew ?_))); (case side4 => exact (Kd.R_reads' HO_6.out).2.1); rintro e w67 ⟨rfl, hb⟩; refine ⟨_, rfl, ?_⟩; have n0_ := Aside0.mk (Kd.R_below (by (with_reducible repeat (first | apply Kd.R_alloc | apply Kd.R_drewN | apply Kd.R_drew)); exact HO_6.out) hb); have n1_ := Aside0.mk (Kd.R_below (by (with_reducible repeat (first | apply Kd.R_alloc | apply Kd.R_drewN | apply Kd.R_drew)); exact HO_9.out) hb); have n2_ := Aside0.mk (Kd.R_below (by (with_reducible repeat (first | apply Kd.R_alloc | apply Kd.R_drewN | apply Kd.R_drew)); exact HO289.out) hb); have n3_ := Aside0.mk (Kd.R_below (by (with_reducible repeat (first | apply Kd.R_alloc | apply Kd.R_drewN | apply Kd.R_drew)); exact HO293.out) hb); have n4_ := Aside0.mk (below_step (by exact hopb HB.out) hb); clear HO_6; clear HO_9; clear HO289; clear HO293; clear HB; have HO_6 := n0_; have HO_9 := n1_; have HO289 := n2_; have HO293 := n3_; have HB := n4_; clear n0_ n1_ n2_ n3_ n4_; (try clear hb); (try clear hb2); (try clear hk); (try clear hi)))
              go_meet
              case rel => exact ⟨_, (true), (by first | rfl | (simp; done) | (simp [bne]; done) | (simp [*]; done)), H', ⟨by have := HJ10.out; have := HJ31.out; first | omega | exact Nat.le_refl _⟩, ⟨by (with_reducible repeat (first | apply Kd.R_alloc | apply Kd.R_drewN | apply Kd.R_drew)); exact Kd.R_mono HO_9.out (fun _ hk => trivial)⟩, ⟨by repeat (first | (with_reducible first | exact HB.out | apply bA | apply bN | apply bD) | exact HB.out)⟩⟩
            case rest =>
             clear HC53
             try clear c1
             try clear c2
             try clear p2
             try clear c3
             try clear c3b0
             try clear c3b1
             try clear c4
             try clear c5
             try clear c5b0
             try clear c6
             try clear c15
             try clear c16
             try clear c17
             try clear c18
             try clear c19
             try clear c20
             try clear c21
             try clear c27
             try clear c30
             try clear c37
             try clear c37b0
             try clear c39
             try clear c46
             try clear c49
             try clear c49b0
             try clear c50
             try clear c50b0
             try clear c50b1
             try clear c61
             try clear p2
             obtain ⟨kq, x95_52, rfl, HA, HJ52, HO_9, HB⟩ := hcut
             have hl9_52 := (Kd.R_reads' HO_9.out).1
             rw [hl9_52] at HO_9
             (try simp only [hl9_52])
             cases kq with
             | zero => exact absurd HA.out (by simp [laws_FnExactPartitionSplit.j2])
             | succ kj52 =>
              have H := HA.out
              clear HA
              simp only [laws_FnExactPartitionSplit.j2] at H
              by_cases c68 : x95_52 = true
              ·subst c68
               have H1 : (none) = some r := by rw [if_pos rfl] at H; exact H
               clear H
               have H := H1
               clear H1
               exact absurd H (by simp)
              ·replace c68 := Bool.eq_false_iff.mpr c68
               subst c68
               have H1 : ((laws_heldIntervalS.f kj52 t285 1).bind fun t295 => (if t295 < 0 then (none) else (if t295 = t284 then (some true) else (none)))) = some r := by rw [if_neg (show ¬ (false = true) by decide)] at H; exact H
               clear H
               have H := H1
               clear H1
               replace H := Option.bind_eq_some_iff.mp H
               obtain ⟨t295, A690, H⟩ := H
               replace H : (if t295 < 0 then (none) else (if t295 = t284 then (some true) else (none))) = some r := H
               have A69 := Aside0.mk A690
               clear A690
               by_cases c70 : t295 < 0
               ·rw [if_pos c70] at H
                exact absurd H (by simp)
               ·rw [if_neg c70] at H
                have c70b0 : decide (t295 < 0) = false := decide_eq_false c70
                clear c70
                by_cases c71 : t295 = t284
                ·rw [if_pos c71] at H
                 have c71b0 : (t295 == t284) = true := beq_iff_eq.mpr c71
                 have c71b1 : (t295 != t284) = false := bne_eq_false_iff_eq.mpr c71
                 clear c71
                 obtain rfl := Option.some.inj H
                 go_wp2_with (first | ((with_reducible refine gate_callee (f := 21) rfl ?_); refine goesL_ (some 98) rfl rfl Try.func21 (by kernel_rfl) rfl #[.slice Ao54 t285.length co54, .int .i64 1] rfl (by (try simp only [List.map_toArray, List.map_cons, List.map_nil]); first | done | rfl | (simp only [List.length_drop, List.length_take]; rfl)) ?_; (with_reducible refine (laws_heldIntervalS.calls kj52 _ _ t285 1 t295 _ ?side1 ?side2 A69.out).mono ?_); (case side1 => repeat (first | exact (Kd.R_reads' HO_9.out).2.2 | (with_reducible refine Kd.C_alloc ?_ _) | (with_reducible refine Kd.C_drewN ?_ _) | (with_reducible refine Kd.C_drew ?_))); (case side2 => exact (Kd.R_reads' HO_9.out).2.1); rintro e w72 ⟨rfl, hb⟩; refine ⟨_, rfl, ?_⟩; have n0_ := Aside0.mk (Kd.R_below (by (with_reducible repeat (first | apply Kd.R_alloc | apply Kd.R_drewN | apply Kd.R_drew)); exact HO_9.out) hb); have n1_ := Aside0.mk (below_step (by exact hopb HB.out) hb); clear HO_9; clear HB; have HO_9 := n0_; have HB := n1_; clear n0_ n1_; (try clear hb); (try clear hb2); (try clear hk); (try clear hi)))
                 go_ret
                 exact ⟨by first | rfl | (simp only [u8_w_, w64_u8_] <;> rfl) | (simp [errW_none, errW_some] <;> rfl) | (simp [*, errW_none, errW_some] <;> rfl), by repeat (first | (with_reducible first | exact HB.out | apply bA | apply bN | apply bD) | exact HB.out)⟩
                ·rw [if_neg c71] at H
                 exact absurd H (by simp)
           ·rw [if_neg c50] at H
            exact absurd H (by simp)
      ·replace c30 := Bool.eq_false_iff.mpr c30
       subst c30
       have H1 : (none) = some r := by rw [if_neg (show ¬ (false = true) by decide)] at H; exact H
       clear H
       have H := H1
       clear H1
       exact absurd H (by simp)

end Go.Proofs.Ytebgpbcbbjpbfaa.PFnExactPartitionSplit
