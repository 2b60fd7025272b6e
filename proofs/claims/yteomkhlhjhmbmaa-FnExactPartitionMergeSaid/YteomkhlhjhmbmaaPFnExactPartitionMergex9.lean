-- Written for this claim by a program of this session (wip/myprint in the proofs' repo)
import Derived.Test.YteomkhlhjhmbmaaPFnExactPartitionMergex0
import Derived.Test.YteomkhlhjhmbmaaPFnExactPartitionMergex1
import Derived.Test.YteomkhlhjhmbmaaPFnExactPartitionMergex2
import Derived.Test.YteomkhlhjhmbmaaPFnExactPartitionMergex5
import Derived.Test.YteomkhlhjhmbmaaPFnExactPartitionMergex8
namespace Go.Proofs.Yteomkhlhjhmbmaa.PFnExactPartitionMerge
open Go.RowKit Go.Proofs.YteomkhlhjhmbmaaW.PrintWords Go.Proofs.YteomkhlhjhmbmaaW.PrintLast Go.Proofs.YteomkhlhjhmbmaaW.PrintMore
attribute [local go_sem] max2_int min2_int max_two min_two max_three min_three max_four min_four max2_strs min2_strs   -- for this text's walks alone
set_option linter.unusedVariables false
set_option linter.unusedSimpArgs false

/-! ### laws_FnExactPartitionMerge: function 13 -/
mutual
def laws_FnExactPartitionMerge.j0 : Nat → List (S76) → Int → List (S79) → Bool → List (S79) → List (S79) → Bool → Bool → Option (Bool)
  | 0, _, _, _, _, _, _, _, _ => none
  | k + 1, x0, x1, x6, x7, x8, x9, x10, x44 => if x44 = true then (none) else ((laws_toIntervalS.f k x0).bind fun t241 => ((laws_eqIntervalS.f k x8 t241).bind fun t244 => (if t244 = true then ((laws_markIntervalS.f k x8 1).bind fun bt245 => (if bt245.1 < 0 then (laws_FnExactPartitionMerge.j1 k x0 x1 x6 x7 x9 true) else ((laws_eqIntervalS.f k x9 x6).bind fun t247 => (if t247 = true then (laws_FnExactPartitionMerge.j1 k x0 x1 x6 x7 x9 (x10 != x7)) else (laws_FnExactPartitionMerge.j1 k x0 x1 x6 x7 x9 true))))) else (none))))
def laws_FnExactPartitionMerge.j1 : Nat → List (S76) → Int → List (S79) → Bool → List (S79) → Bool → Option (Bool)
  | 0, _, _, _, _, _, _ => none
  | k + 1, x0, x1, x6, x7, x9, x65 => if x65 = true then (none) else ((laws_markIntervalS.f k x9 1).bind fun bt248 => ((laws_heldIntervalS.f k bt248.2 1).bind fun t250 => (if t250 < 0 then (none) else (if t250 = bt248.1 then ((laws_toIntervalS.f k x0).bind fun t251 => ((impl_PartitionMerge.f k t251 x1).bind fun bt254 => ((laws_eqIntervalS.f k bt254.1 x6).bind fun t258 => (if t258 = true then (laws_FnExactPartitionMerge.j2 k bt248.2 bt248.1 (bt254.2 != x7)) else (laws_FnExactPartitionMerge.j2 k bt248.2 bt248.1 true))))) else (none)))))
def laws_FnExactPartitionMerge.j2 : Nat → List (S79) → Int → Bool → Option (Bool)
  | 0, _, _, _ => none
  | k + 1, x9, x12, x92 => if x92 = true then (none) else ((laws_heldIntervalS.f k x9 1).bind fun t259 => (if t259 < 0 then (none) else (if t259 = x12 then (some true) else (none))))
end
def laws_FnExactPartitionMerge.f (k : Nat) (l0 : List (S76)) (a1 : Int) : Option (Bool) := (laws_szIntervalS.f k l0 1048576).bind fun t225 => (if t225 < 0 then (some true) else ((laws_toIntervalS.f k l0).bind fun t226 => ((spec_PartitionMerge.f k t226 a1).bind fun bt229 => ((laws_toIntervalS.f k l0).bind fun t233 => ((impl_PartitionMerge.f k t233 a1).bind fun bt236 => ((laws_eqIntervalS.f k bt236.1 bt229.1).bind fun t240 => (if t240 = true then (laws_FnExactPartitionMerge.j0 k l0 a1 bt229.1 bt229.2 t233 bt236.1 bt236.2 (bt236.2 != bt229.2)) else (laws_FnExactPartitionMerge.j0 k l0 a1 bt229.1 bt229.2 t233 bt236.1 bt236.2 true))))))))
theorem laws_FnExactPartitionMerge.mono_l : ∀ k, (∀ y0 y1 y2 y3 y4 y5 y6 y7, LeO (laws_FnExactPartitionMerge.j0 k y0 y1 y2 y3 y4 y5 y6 y7) (laws_FnExactPartitionMerge.j0 (k + 1) y0 y1 y2 y3 y4 y5 y6 y7)) ∧ (∀ y0 y1 y2 y3 y4 y5, LeO (laws_FnExactPartitionMerge.j1 k y0 y1 y2 y3 y4 y5) (laws_FnExactPartitionMerge.j1 (k + 1) y0 y1 y2 y3 y4 y5)) ∧ (∀ y0 y1 y2, LeO (laws_FnExactPartitionMerge.j2 k y0 y1 y2) (laws_FnExactPartitionMerge.j2 (k + 1) y0 y1 y2))
  | 0 => ⟨fun _ _ _ _ _ _ _ _ r h => by simp [laws_FnExactPartitionMerge.j0] at h, fun _ _ _ _ _ _ r h => by simp [laws_FnExactPartitionMerge.j1] at h, fun _ _ _ r h => by simp [laws_FnExactPartitionMerge.j2] at h⟩
  | k + 1 => by
    obtain ⟨ih0, ih1, ih2⟩ := laws_FnExactPartitionMerge.mono_l k
    refine ⟨?_, ?_, ?_⟩
    · intro y0 y1 y2 y3 y4 y5 y6 y7
      unfold laws_FnExactPartitionMerge.j0
      repeat' first
      | (with_reducible exact ih0 _ _ _ _ _ _ _ _)
      | (with_reducible exact ih1 _ _ _ _ _ _)
      | (with_reducible exact ih2 _ _ _)
      | (with_reducible exact impl_PartitionMerge.mono _ _ _)
      | (with_reducible exact laws_eqIntervalS.mono _ _ _)
      | (with_reducible exact laws_heldIntervalS.mono _ _ _)
      | (with_reducible exact laws_markIntervalS.mono _ _ _)
      | (with_reducible exact laws_szIntervalS.mono _ _ _)
      | (with_reducible exact laws_toIntervalS.mono _ _)
      | (with_reducible exact spec_PartitionMerge.mono _ _ _)
      | (with_reducible exact LeO.refl _)
      | (with_reducible exact LeO.none _)
      | (with_reducible refine LeO.ite ?_ ?_)
      | (with_reducible refine LeO.bind ?_ (fun _ => ?_))
      | exact ih0 _ _ _ _ _ _ _ _
      | exact ih1 _ _ _ _ _ _
      | exact ih2 _ _ _
      | exact impl_PartitionMerge.mono _ _ _
      | exact laws_eqIntervalS.mono _ _ _
      | exact laws_heldIntervalS.mono _ _ _
      | exact laws_markIntervalS.mono _ _ _
      | exact laws_szIntervalS.mono _ _ _
      | exact laws_toIntervalS.mono _ _
      | exact spec_PartitionMerge.mono _ _ _
      | exact LeO.none _
      | refine LeO.ite ?_ ?_
      | refine LeO.bind ?_ (fun _ => ?_)
    · intro y0 y1 y2 y3 y4 y5
      unfold laws_FnExactPartitionMerge.j1
      repeat' first
      | (with_reducible exact ih0 _ _ _ _ _ _ _ _)
      | (with_reducible exact ih1 _ _ _ _ _ _)
      | (with_reducible exact ih2 _ _ _)
      | (with_reducible exact impl_PartitionMerge.mono _ _ _)
      | (with_reducible exact laws_eqIntervalS.mono _ _ _)
      | (with_reducible exact laws_heldIntervalS.mono _ _ _)
      | (with_reducible exact laws_markIntervalS.mono _ _ _)
      | (with_reducible exact laws_szIntervalS.mono _ _ _)
      | (with_reducible exact laws_toIntervalS.mono _ _)
      | (with_reducible exact spec_PartitionMerge.mono _ _ _)
      | (with_reducible exact LeO.refl _)
      | (with_reducible exact LeO.none _)
      | (with_reducible refine LeO.ite ?_ ?_)
      | (with_reducible refine LeO.bind ?_ (fun _ => ?_))
      | exact ih0 _ _ _ _ _ _ _ _
      | exact ih1 _ _ _ _ _ _
      | exact ih2 _ _ _
      | exact impl_PartitionMerge.mono _ _ _
      | exact laws_eqIntervalS.mono _ _ _
      | exact laws_heldIntervalS.mono _ _ _
      | exact laws_markIntervalS.mono _ _ _
      | exact laws_szIntervalS.mono _ _ _
      | exact laws_toIntervalS.mono _ _
      | exact spec_PartitionMerge.mono _ _ _
      | exact LeO.none _
      | refine LeO.ite ?_ ?_
      | refine LeO.bind ?_ (fun _ => ?_)
    · intro y0 y1 y2
      unfold laws_FnExactPartitionMerge.j2
      repeat' first
      | (with_reducible exact ih0 _ _ _ _ _ _ _ _)
      | (with_reducible exact ih1 _ _ _ _ _ _)
      | (with_reducible exact ih2 _ _ _)
      | (with_reducible exact impl_PartitionMerge.mono _ _ _)
      | (with_reducible exact laws_eqIntervalS.mono _ _ _)
      | (with_reducible exact laws_heldIntervalS.mono _ _ _)
      | (with_reducible exact laws_markIntervalS.mono _ _ _)
      | (with_reducible exact laws_szIntervalS.mono _ _ _)
      | (with_reducible exact laws_toIntervalS.mono _ _)
      | (with_reducible exact spec_PartitionMerge.mono _ _ _)
      | (with_reducible exact LeO.refl _)
      | (with_reducible exact LeO.none _)
      | (with_reducible refine LeO.ite ?_ ?_)
      | (with_reducible refine LeO.bind ?_ (fun _ => ?_))
      | exact ih0 _ _ _ _ _ _ _ _
      | exact ih1 _ _ _ _ _ _
      | exact ih2 _ _ _
      | exact impl_PartitionMerge.mono _ _ _
      | exact laws_eqIntervalS.mono _ _ _
      | exact laws_heldIntervalS.mono _ _ _
      | exact laws_markIntervalS.mono _ _ _
      | exact laws_szIntervalS.mono _ _ _
      | exact laws_toIntervalS.mono _ _
      | exact spec_PartitionMerge.mono _ _ _
      | exact LeO.none _
      | refine LeO.ite ?_ ?_
      | refine LeO.bind ?_ (fun _ => ?_)
theorem laws_FnExactPartitionMerge.mono : ∀ a0 a1 k, LeO (laws_FnExactPartitionMerge.f k a0 a1) (laws_FnExactPartitionMerge.f (k + 1) a0 a1) := by
  intro a0 a1 k
  obtain ⟨ih0, ih1, ih2⟩ := laws_FnExactPartitionMerge.mono_l k
  unfold laws_FnExactPartitionMerge.f
  repeat' first
      | (with_reducible exact ih0 _ _ _ _ _ _ _ _)
      | (with_reducible exact ih1 _ _ _ _ _ _)
      | (with_reducible exact ih2 _ _ _)
      | (with_reducible exact impl_PartitionMerge.mono _ _ _)
      | (with_reducible exact laws_eqIntervalS.mono _ _ _)
      | (with_reducible exact laws_heldIntervalS.mono _ _ _)
      | (with_reducible exact laws_markIntervalS.mono _ _ _)
      | (with_reducible exact laws_szIntervalS.mono _ _ _)
      | (with_reducible exact laws_toIntervalS.mono _ _)
      | (with_reducible exact spec_PartitionMerge.mono _ _ _)
      | (with_reducible exact LeO.refl _)
      | (with_reducible exact LeO.none _)
      | (with_reducible refine LeO.ite ?_ ?_)
      | (with_reducible refine LeO.bind ?_ (fun _ => ?_))
      | exact ih0 _ _ _ _ _ _ _ _
      | exact ih1 _ _ _ _ _ _
      | exact ih2 _ _ _
      | exact impl_PartitionMerge.mono _ _ _
      | exact laws_eqIntervalS.mono _ _ _
      | exact laws_heldIntervalS.mono _ _ _
      | exact laws_markIntervalS.mono _ _ _
      | exact laws_szIntervalS.mono _ _ _
      | exact laws_toIntervalS.mono _ _
      | exact spec_PartitionMerge.mono _ _ _
      | exact LeO.none _
      | refine LeO.ite ?_ ?_
      | refine LeO.bind ?_ (fun _ => ?_)
set_option maxHeartbeats 8000000 in
set_option maxRecDepth 100000 in
theorem laws_FnExactPartitionMerge.calls (k : Nat) (A0 : Option Addr) (c0 : Nat) (l0 : List (S76)) (a1 : Int) (r : Bool) (w : World) (hr0 : Kd.C k76 w A0 l0.length l0) (hc0 : l0.length ≤ c0) (h : laws_FnExactPartitionMerge.f k l0 a1 = some r) :
    Calls Try.prog 13 #[.slice A0 l0.length c0, .int .i64 a1] w fun e w' => e = .returned (.bool r) ∧ Below w.heap.size w w' := by
  have HR0 := Aside0.mk hr0
  have HC0 := Aside0.mk hc0
  clear hr0 hc0
  have HB := Aside0.mk (Below.refl w.heap.size w)
  have H : ((laws_szIntervalS.f k l0 1048576).bind fun t225 => (if t225 < 0 then (some true) else ((laws_toIntervalS.f k l0).bind fun t226 => ((spec_PartitionMerge.f k t226 a1).bind fun bt229 => ((laws_toIntervalS.f k l0).bind fun t233 => ((impl_PartitionMerge.f k t233 a1).bind fun bt236 => ((laws_eqIntervalS.f k bt236.1 bt229.1).bind fun t240 => (if t240 = true then (laws_FnExactPartitionMerge.j0 k l0 a1 bt229.1 bt229.2 t233 bt236.1 bt236.2 (bt236.2 != bt229.2)) else (laws_FnExactPartitionMerge.j0 k l0 a1 bt229.1 bt229.2 t233 bt236.1 bt236.2 true))))))))) = some r := h
  clear h
  replace H := Option.bind_eq_some_iff.mp H
  obtain ⟨t225, A30, H⟩ := H
  replace H : (if t225 < 0 then (some true) else ((laws_toIntervalS.f k l0).bind fun t226 => ((spec_PartitionMerge.f k t226 a1).bind fun bt229 => ((laws_toIntervalS.f k l0).bind fun t233 => ((impl_PartitionMerge.f k t233 a1).bind fun bt236 => ((laws_eqIntervalS.f k bt236.1 bt229.1).bind fun t240 => (if t240 = true then (laws_FnExactPartitionMerge.j0 k l0 a1 bt229.1 bt229.2 t233 bt236.1 bt236.2 (bt236.2 != bt229.2)) else (laws_FnExactPartitionMerge.j0 k l0 a1 bt229.1 bt229.2 t233 bt236.1 bt236.2 true)))))))) = some r := H
  have A3 := Aside0.mk A30
  clear A30
  by_cases c4 : t225 < 0
  · rw [if_pos c4] at H
    have c4b0 : decide (t225 < 0) = true := decide_eq_true c4
    clear c4
    obtain rfl := Option.some.inj H
    go_enter Try.func13, Try.ntmps13
    go_wp2_with (first | ((with_reducible refine gate_callee (f := 20) rfl ?_); refine goesL_ (some 18) rfl rfl Try.func20 (by kernel_rfl) rfl #[.slice A0 l0.length c0, .int .i64 1048576] rfl (by (try simp only [List.map_toArray, List.map_cons, List.map_nil]); first | done | rfl | (simp only [List.length_drop, List.length_take]; rfl)) ?_; (with_reducible refine (laws_szIntervalS.calls k _ _ l0 1048576 t225 _ ?side1 ?side2 A3.out).mono ?_); (case side1 => repeat (first | exact HR0.out | (with_reducible refine Kd.C_alloc ?_ _) | (with_reducible refine Kd.C_drewN ?_ _) | (with_reducible refine Kd.C_drew ?_))); (case side2 => exact HC0.out); rintro e w5 ⟨rfl, hb⟩; refine ⟨_, rfl, ?_⟩; have n0_ := Aside0.mk (below_step (by repeat (first | (with_reducible first | exact HB.out | apply below_alloc | apply pw_below_drewN | apply below_drew1) | exact HB.out)) hb); clear HB; have HB := n0_; clear n0_; (try clear hb); (try clear hb2); (try clear hk); (try clear hi)))
    go_ret
    exact ⟨by first | rfl | (simp only [u8_w_, w64_u8_]; done) | (simp only [u8_w_, w64_u8_]; rfl) | (simp [errW_none, errW_some] <;> rfl) | (simp [*, errW_none, errW_some] <;> rfl), by repeat (first | (with_reducible first | exact HB.out | apply below_alloc | apply pw_below_drewN | apply below_drew1) | exact HB.out)⟩
  · rw [if_neg c4] at H
    have c4b0 : decide (t225 < 0) = false := decide_eq_false c4
    clear c4
    replace H := Option.bind_eq_some_iff.mp H
    obtain ⟨t226, A60, H⟩ := H
    replace H : ((spec_PartitionMerge.f k t226 a1).bind fun bt229 => ((laws_toIntervalS.f k l0).bind fun t233 => ((impl_PartitionMerge.f k t233 a1).bind fun bt236 => ((laws_eqIntervalS.f k bt236.1 bt229.1).bind fun t240 => (if t240 = true then (laws_FnExactPartitionMerge.j0 k l0 a1 bt229.1 bt229.2 t233 bt236.1 bt236.2 (bt236.2 != bt229.2)) else (laws_FnExactPartitionMerge.j0 k l0 a1 bt229.1 bt229.2 t233 bt236.1 bt236.2 true)))))) = some r := H
    have A6 := Aside0.mk A60
    clear A60
    replace H := Option.bind_eq_some_iff.mp H
    obtain ⟨⟨t229, t230⟩, A70, H⟩ := H
    replace H : ((laws_toIntervalS.f k l0).bind fun t233 => ((impl_PartitionMerge.f k t233 a1).bind fun bt236 => ((laws_eqIntervalS.f k bt236.1 t229).bind fun t240 => (if t240 = true then (laws_FnExactPartitionMerge.j0 k l0 a1 t229 t230 t233 bt236.1 bt236.2 (bt236.2 != t230)) else (laws_FnExactPartitionMerge.j0 k l0 a1 t229 t230 t233 bt236.1 bt236.2 true))))) = some r := H
    have A7 := Aside0.mk A70
    clear A70
    replace H := Option.bind_eq_some_iff.mp H
    obtain ⟨t233, A80, H⟩ := H
    replace H : ((impl_PartitionMerge.f k t233 a1).bind fun bt236 => ((laws_eqIntervalS.f k bt236.1 t229).bind fun t240 => (if t240 = true then (laws_FnExactPartitionMerge.j0 k l0 a1 t229 t230 t233 bt236.1 bt236.2 (bt236.2 != t230)) else (laws_FnExactPartitionMerge.j0 k l0 a1 t229 t230 t233 bt236.1 bt236.2 true)))) = some r := H
    have A8 := Aside0.mk A80
    clear A80
    replace H := Option.bind_eq_some_iff.mp H
    obtain ⟨⟨t236, t237⟩, A90, H⟩ := H
    replace H : ((laws_eqIntervalS.f k t236 t229).bind fun t240 => (if t240 = true then (laws_FnExactPartitionMerge.j0 k l0 a1 t229 t230 t233 t236 t237 (t237 != t230)) else (laws_FnExactPartitionMerge.j0 k l0 a1 t229 t230 t233 t236 t237 true))) = some r := H
    have A9 := Aside0.mk A90
    clear A90
    have HC10 := Aside0.mk H
    clear H
    go_enter Try.func13, Try.ntmps13
    go_upto_region 8 with (first | ((with_reducible refine gate_callee (f := 20) rfl ?_); refine goesL_ (some 18) rfl rfl Try.func20 (by kernel_rfl) rfl #[.slice A0 l0.length c0, .int .i64 1048576] rfl (by (try simp only [List.map_toArray, List.map_cons, List.map_nil]); first | done | rfl | (simp only [List.length_drop, List.length_take]; rfl)) ?_; (with_reducible refine (laws_szIntervalS.calls k _ _ l0 1048576 t225 _ ?side1 ?side2 A3.out).mono ?_); (case side1 => repeat (first | exact HR0.out | (with_reducible refine Kd.C_alloc ?_ _) | (with_reducible refine Kd.C_drewN ?_ _) | (with_reducible refine Kd.C_drew ?_))); (case side2 => exact HC0.out); rintro e w11 ⟨rfl, hb⟩; refine ⟨_, rfl, ?_⟩; have n0_ := Aside0.mk (below_step (by repeat (first | (with_reducible first | exact HB.out | apply below_alloc | apply pw_below_drewN | apply below_drew1) | exact HB.out)) hb); clear HB; have HB := n0_; clear n0_; (try clear hb); (try clear hb2); (try clear hk); (try clear hi)) | ((with_reducible refine gate_callee (f := 22) rfl ?_); refine goesL_ (some 23) rfl rfl Try.func22 (by kernel_rfl) rfl #[.slice A0 l0.length c0] rfl (by (try simp only [List.map_toArray, List.map_cons, List.map_nil]); first | done | rfl | (simp only [List.length_drop, List.length_take]; rfl)) ?_; (with_reducible refine (laws_toIntervalS.calls k _ _ l0 t226 _ ?side1 ?side2 A6.out).mono ?_); (case side1 => repeat (first | exact (Kd.C_below HR0.out HB.out) | (with_reducible refine Kd.C_alloc ?_ _) | (with_reducible refine Kd.C_drewN ?_ _) | (with_reducible refine Kd.C_drew ?_))); (case side2 => exact HC0.out); rintro e w12 ⟨v227, rfl, ho0, hb⟩; refine ⟨_, rfl, ?_⟩; have n0_ := Aside0.mk (Kd.R_lower ho0 (below_size (by repeat (first | (with_reducible first | exact HB.out | apply below_alloc | apply pw_below_drewN | apply below_drew1) | exact HB.out)))); have n1_ := Aside0.mk (below_step (by repeat (first | (with_reducible first | exact HB.out | apply below_alloc | apply pw_below_drewN | apply below_drew1) | exact HB.out)) hb); clear HB; have HO228 := n0_; have HB := n1_; clear n0_ n1_; (try clear hb); (try clear hb2); (try clear hk); (try clear hi); (try clear ho0); obtain ⟨Ao13, co13, eo13⟩ := Kd.R_slice HO228.out; subst eo13) | ((with_reducible refine gate_callee (f := 55) rfl ?_); refine goesL_ (some 25) rfl rfl Try.func55 (by kernel_rfl) rfl #[.slice Ao13 t226.length co13, .int .i64 a1] rfl (by (try simp only [List.map_toArray, List.map_cons, List.map_nil]); first | done | rfl | (simp only [List.length_drop, List.length_take]; rfl)) ?_; (with_reducible refine (spec_PartitionMerge.calls k _ _ t226 a1 t229 t230 _ ?side1 ?side2 A7.out).mono ?_); (case side1 => repeat (first | exact (Kd.R_reads' HO228.out).2.2 | (with_reducible refine Kd.C_alloc ?_ _) | (with_reducible refine Kd.C_drewN ?_ _) | (with_reducible refine Kd.C_drew ?_))); (case side2 => exact (Kd.R_reads' HO228.out).2.1); rintro e w14 ⟨v231, rfl, ho0, hb⟩; refine ⟨_, rfl, ?_⟩; have n0_ := Aside0.mk (Kd.R_elder' (by (with_reducible repeat (first | apply Kd.R_alloc | apply Kd.R_drewN | apply Kd.R_drew)); exact HO228.out) (Kd.R_base ho0) hb); have n1_ := Aside0.mk (Kd.R_lower (Kd.R_new' ho0 (Kd.R_lt (by (with_reducible repeat (first | apply Kd.R_alloc | apply Kd.R_drewN | apply Kd.R_drew)); exact HO228.out))) (below_size (by repeat (first | (with_reducible first | exact HB.out | apply below_alloc | apply pw_below_drewN | apply below_drew1) | exact HB.out)))); have n2_ := Aside0.mk (below_step (by repeat (first | (with_reducible first | exact HB.out | apply below_alloc | apply pw_below_drewN | apply below_drew1) | exact HB.out)) hb); clear HO228; clear HB; have HO228 := n0_; have HO232 := n1_; have HB := n2_; clear n0_ n1_ n2_; (try clear hb); (try clear hb2); (try clear hk); (try clear hi); (try clear ho0)) | ((with_reducible refine gate_callee (f := 22) rfl ?_); refine goesL_ (some 29) rfl rfl Try.func22 (by kernel_rfl) rfl #[.slice A0 l0.length c0] rfl (by (try simp only [List.map_toArray, List.map_cons, List.map_nil]); first | done | rfl | (simp only [List.length_drop, List.length_take]; rfl)) ?_; (with_reducible refine (laws_toIntervalS.calls k _ _ l0 t233 _ ?side1 ?side2 A8.out).mono ?_); (case side1 => repeat (first | exact (Kd.C_below HR0.out HB.out) | (with_reducible refine Kd.C_alloc ?_ _) | (with_reducible refine Kd.C_drewN ?_ _) | (with_reducible refine Kd.C_drew ?_))); (case side2 => exact HC0.out); rintro e w15 ⟨v234, rfl, ho0, hb⟩; refine ⟨_, rfl, ?_⟩; have n0_ := Aside0.mk (Kd.R_elder' (by (with_reducible repeat (first | apply Kd.R_alloc | apply Kd.R_drewN | apply Kd.R_drew)); exact HO228.out) (Kd.R_base ho0) hb); have n1_ := Aside0.mk (Kd.R_elder' (by (with_reducible repeat (first | apply Kd.R_alloc | apply Kd.R_drewN | apply Kd.R_drew)); exact HO232.out) (Kd.R_base ho0) hb); have n2_ := Aside0.mk (Kd.R_lower (Kd.R_new' (Kd.R_new' ho0 (Kd.R_lt (by (with_reducible repeat (first | apply Kd.R_alloc | apply Kd.R_drewN | apply Kd.R_drew)); exact HO228.out))) (Kd.R_lt (by (with_reducible repeat (first | apply Kd.R_alloc | apply Kd.R_drewN | apply Kd.R_drew)); exact HO232.out))) (below_size (by repeat (first | (with_reducible first | exact HB.out | apply below_alloc | apply pw_below_drewN | apply below_drew1) | exact HB.out)))); have n3_ := Aside0.mk (below_step (by repeat (first | (with_reducible first | exact HB.out | apply below_alloc | apply pw_below_drewN | apply below_drew1) | exact HB.out)) hb); clear HO228; clear HO232; clear HB; have HO228 := n0_; have HO232 := n1_; have HO235 := n2_; have HB := n3_; clear n0_ n1_ n2_ n3_; (try clear hb); (try clear hb2); (try clear hk); (try clear hi); (try clear ho0); obtain ⟨Ao16, co16, eo16⟩ := Kd.R_slice HO235.out; subst eo16) | ((with_reducible refine gate_callee (f := 56) rfl ?_); refine goesL_ (some 33) rfl rfl Try.func56 (by kernel_rfl) rfl #[.slice Ao16 t233.length co16, .int .i64 a1] rfl (by (try simp only [List.map_toArray, List.map_cons, List.map_nil]); first | done | rfl | (simp only [List.length_drop, List.length_take]; rfl)) ?_; (with_reducible refine (impl_PartitionMerge.calls k _ _ t233 a1 t236 t237 _ ?side1 ?side2 A9.out).mono ?_); (case side1 => repeat (first | exact (Kd.R_reads' HO235.out).2.2 | (with_reducible refine Kd.C_alloc ?_ _) | (with_reducible refine Kd.C_drewN ?_ _) | (with_reducible refine Kd.C_drew ?_))); (case side2 => exact (Kd.R_reads' HO235.out).2.1); rintro e w17 ⟨v238, rfl, ho0, hb⟩; refine ⟨_, rfl, ?_⟩; have n0_ := Aside0.mk (Kd.R_elder' (by (with_reducible repeat (first | apply Kd.R_alloc | apply Kd.R_drewN | apply Kd.R_drew)); exact HO228.out) (Kd.R_base ho0) hb); have n1_ := Aside0.mk (Kd.R_elder' (by (with_reducible repeat (first | apply Kd.R_alloc | apply Kd.R_drewN | apply Kd.R_drew)); exact HO232.out) (Kd.R_base ho0) hb); have n2_ := Aside0.mk (Kd.R_elder' (by (with_reducible repeat (first | apply Kd.R_alloc | apply Kd.R_drewN | apply Kd.R_drew)); exact HO235.out) (Kd.R_base ho0) hb); have n3_ := Aside0.mk (Kd.R_lower (Kd.R_new' (Kd.R_new' (Kd.R_new' ho0 (Kd.R_lt (by (with_reducible repeat (first | apply Kd.R_alloc | apply Kd.R_drewN | apply Kd.R_drew)); exact HO228.out))) (Kd.R_lt (by (with_reducible repeat (first | apply Kd.R_alloc | apply Kd.R_drewN | apply Kd.R_drew)); exact HO232.out))) (Kd.R_lt (by (with_reducible repeat (first | apply Kd.R_alloc | apply Kd.R_drewN | apply Kd.R_drew)); exact HO235.out))) (below_size (by repeat (first | (with_reducible first | exact HB.out | apply below_alloc | apply pw_below_drewN | apply below_drew1) | exact HB.out)))); have n4_ := Aside0.mk (below_step (by repeat (first | (with_reducible first | exact HB.out | apply below_alloc | apply pw_below_drewN | apply below_drew1) | exact HB.out)) hb); clear HO228; clear HO232; clear HO235; clear HB; have HO228 := n0_; have HO232 := n1_; have HO235 := n2_; have HO239 := n3_; have HB := n4_; clear n0_ n1_ n2_ n3_ n4_; (try clear hb); (try clear hb2); (try clear hk); (try clear hi); (try clear ho0)))
    (try simp only [Act.put, List.setIfInBounds_toArray, List.set_cons_zero, List.set_cons_succ])
    go_cut [44] (fun v44 wc => ∃ (kq : Nat) (x44_9 : Bool), v44 = .bool x44_9 ∧ Aside0 (laws_FnExactPartitionMerge.j0 kq l0 a1 t229 t230 t233 t236 t237 x44_9 = some r) ∧ Aside0 (kq ≤ k) ∧ Aside0 (Kd.R k79 79 wc w.heap.size (fun k_ => some k_ ≠ ((.slice Ao16 t233.length co16) : Value).ownBlock ∧ some k_ ≠ (v238 : Value).ownBlock) v231 t229) ∧ Aside0 (Kd.R k79 79 wc w.heap.size (fun k_ => some k_ ≠ (v231 : Value).ownBlock ∧ some k_ ≠ (v238 : Value).ownBlock) (.slice Ao16 t233.length co16) t233) ∧ Aside0 (Kd.R k79 79 wc w.heap.size (fun k_ => some k_ ≠ (v231 : Value).ownBlock ∧ some k_ ≠ ((.slice Ao16 t233.length co16) : Value).ownBlock) v238 t236) ∧ Aside0 (Below w.heap.size w wc))
    case first =>
      have H := HC10.out
      clear HC10
      replace H := Option.bind_eq_some_iff.mp H
      obtain ⟨t240, A180, H⟩ := H
      replace H : (if t240 = true then (laws_FnExactPartitionMerge.j0 k l0 a1 t229 t230 t233 t236 t237 (t237 != t230)) else (laws_FnExactPartitionMerge.j0 k l0 a1 t229 t230 t233 t236 t237 true)) = some r := H
      have A18 := Aside0.mk A180
      clear A180
      by_cases c19 : t240 = true
      · subst c19
        have H1 : (laws_FnExactPartitionMerge.j0 k l0 a1 t229 t230 t233 t236 t237 (t237 != t230)) = some r := by rw [if_pos rfl] at H; exact H
        clear H
        have H := H1
        clear H1
        have H' := Aside0.mk H
        clear H
        obtain ⟨Ao20, co20, eo20⟩ := Kd.R_slice HO239.out
        subst eo20
        obtain ⟨Ao21, co21, eo21⟩ := Kd.R_slice HO232.out
        subst eo21
        go_wp2_with (first | ((with_reducible refine gate_callee (f := 24) rfl ?_); refine goesL_ (some 38) rfl rfl Try.func24 (by kernel_rfl) rfl #[.slice Ao20 t236.length co20, .slice Ao21 t229.length co21] rfl (by (try simp only [List.map_toArray, List.map_cons, List.map_nil]); first | done | rfl | (simp only [List.length_drop, List.length_take]; rfl)) ?_; (with_reducible refine (laws_eqIntervalS.calls k _ _ t236 _ _ t229 true _ ?side1 ?side2 ?side3 ?side4 A18.out).mono ?_); (case side1 => repeat (first | exact (Kd.R_reads' HO239.out).2.2 | (with_reducible refine Kd.C_alloc ?_ _) | (with_reducible refine Kd.C_drewN ?_ _) | (with_reducible refine Kd.C_drew ?_))); (case side2 => exact (Kd.R_reads' HO239.out).2.1); (case side3 => repeat (first | exact (Kd.R_reads' HO232.out).2.2 | (with_reducible refine Kd.C_alloc ?_ _) | (with_reducible refine Kd.C_drewN ?_ _) | (with_reducible refine Kd.C_drew ?_))); (case side4 => exact (Kd.R_reads' HO232.out).2.1); rintro e w22 ⟨rfl, hb⟩; refine ⟨_, rfl, ?_⟩; have n0_ := Aside0.mk (Kd.R_below (by (with_reducible repeat (first | apply Kd.R_alloc | apply Kd.R_drewN | apply Kd.R_drew)); exact HO228.out) hb); have n1_ := Aside0.mk (Kd.R_below (by (with_reducible repeat (first | apply Kd.R_alloc | apply Kd.R_drewN | apply Kd.R_drew)); exact HO232.out) hb); have n2_ := Aside0.mk (Kd.R_below (by (with_reducible repeat (first | apply Kd.R_alloc | apply Kd.R_drewN | apply Kd.R_drew)); exact HO235.out) hb); have n3_ := Aside0.mk (Kd.R_below (by (with_reducible repeat (first | apply Kd.R_alloc | apply Kd.R_drewN | apply Kd.R_drew)); exact HO239.out) hb); have n4_ := Aside0.mk (below_step (by repeat (first | (with_reducible first | exact HB.out | apply below_alloc | apply pw_below_drewN | apply below_drew1) | exact HB.out)) hb); clear HO228; clear HO232; clear HO235; clear HO239; clear HB; have HO228 := n0_; have HO232 := n1_; have HO235 := n2_; have HO239 := n3_; have HB := n4_; clear n0_ n1_ n2_ n3_ n4_; (try clear hb); (try clear hb2); (try clear hk); (try clear hi)))
        go_meet
        case rel => exact ⟨_, ((t237 != t230)), (by first | rfl | (simp; done) | (simp [bne]; done) | (simp [*]; done)), H', ⟨by first | omega | exact Nat.le_refl _⟩, ⟨by (with_reducible repeat (first | apply Kd.R_alloc | apply Kd.R_drewN | apply Kd.R_drew)); exact Kd.R_mono HO232.out (fun _ hk => ⟨hk.1.2, hk.2⟩)⟩, ⟨by (with_reducible repeat (first | apply Kd.R_alloc | apply Kd.R_drewN | apply Kd.R_drew)); exact Kd.R_mono HO235.out (fun _ hk => ⟨hk.1.2, hk.2⟩)⟩, ⟨by (with_reducible repeat (first | apply Kd.R_alloc | apply Kd.R_drewN | apply Kd.R_drew)); exact Kd.R_mono HO239.out (fun _ hk => ⟨hk.1.2, hk.2⟩)⟩, ⟨by repeat (first | (with_reducible first | exact HB.out | apply below_alloc | apply pw_below_drewN | apply below_drew1) | exact HB.out)⟩⟩
      · replace c19 := Bool.eq_false_iff.mpr c19
        subst c19
        have H1 : (laws_FnExactPartitionMerge.j0 k l0 a1 t229 t230 t233 t236 t237 true) = some r := by rw [if_neg (show ¬ (false = true) by decide)] at H; exact H
        clear H
        have H := H1
        clear H1
        have H' := Aside0.mk H
        clear H
        obtain ⟨Ao23, co23, eo23⟩ := Kd.R_slice HO239.out
        subst eo23
        obtain ⟨Ao24, co24, eo24⟩ := Kd.R_slice HO232.out
        subst eo24
        go_wp2_with (first | ((with_reducible refine gate_callee (f := 24) rfl ?_); refine goesL_ (some 38) rfl rfl Try.func24 (by kernel_rfl) rfl #[.slice Ao23 t236.length co23, .slice Ao24 t229.length co24] rfl (by (try simp only [List.map_toArray, List.map_cons, List.map_nil]); first | done | rfl | (simp only [List.length_drop, List.length_take]; rfl)) ?_; (with_reducible refine (laws_eqIntervalS.calls k _ _ t236 _ _ t229 false _ ?side1 ?side2 ?side3 ?side4 A18.out).mono ?_); (case side1 => repeat (first | exact (Kd.R_reads' HO239.out).2.2 | (with_reducible refine Kd.C_alloc ?_ _) | (with_reducible refine Kd.C_drewN ?_ _) | (with_reducible refine Kd.C_drew ?_))); (case side2 => exact (Kd.R_reads' HO239.out).2.1); (case side3 => repeat (first | exact (Kd.R_reads' HO232.out).2.2 | (with_reducible refine Kd.C_alloc ?_ _) | (with_reducible refine Kd.C_drewN ?_ _) | (with_reducible refine Kd.C_drew ?_))); (case side4 => exact (Kd.R_reads' HO232.out).2.1); rintro e w25 ⟨rfl, hb⟩; refine ⟨_, rfl, ?_⟩; have n0_ := Aside0.mk (Kd.R_below (by (with_reducible repeat (first | apply Kd.R_alloc | apply Kd.R_drewN | apply Kd.R_drew)); exact HO228.out) hb); have n1_ := Aside0.mk (Kd.R_below (by (with_reducible repeat (first | apply Kd.R_alloc | apply Kd.R_drewN | apply Kd.R_drew)); exact HO232.out) hb); have n2_ := Aside0.mk (Kd.R_below (by (with_reducible repeat (first | apply Kd.R_alloc | apply Kd.R_drewN | apply Kd.R_drew)); exact HO235.out) hb); have n3_ := Aside0.mk (Kd.R_below (by (with_reducible repeat (first | apply Kd.R_alloc | apply Kd.R_drewN | apply Kd.R_drew)); exact HO239.out) hb); have n4_ := Aside0.mk (below_step (by repeat (first | (with_reducible first | exact HB.out | apply below_alloc | apply pw_below_drewN | apply below_drew1) | exact HB.out)) hb); clear HO228; clear HO232; clear HO235; clear HO239; clear HB; have HO228 := n0_; have HO232 := n1_; have HO235 := n2_; have HO239 := n3_; have HB := n4_; clear n0_ n1_ n2_ n3_ n4_; (try clear hb); (try clear hb2); (try clear hk); (try clear hi)))
        go_meet
        case rel => exact ⟨_, (true), (by first | rfl | (simp; done) | (simp [bne]; done) | (simp [*]; done)), H', ⟨by first | omega | exact Nat.le_refl _⟩, ⟨by (with_reducible repeat (first | apply Kd.R_alloc | apply Kd.R_drewN | apply Kd.R_drew)); exact Kd.R_mono HO232.out (fun _ hk => ⟨hk.1.2, hk.2⟩)⟩, ⟨by (with_reducible repeat (first | apply Kd.R_alloc | apply Kd.R_drewN | apply Kd.R_drew)); exact Kd.R_mono HO235.out (fun _ hk => ⟨hk.1.2, hk.2⟩)⟩, ⟨by (with_reducible repeat (first | apply Kd.R_alloc | apply Kd.R_drewN | apply Kd.R_drew)); exact Kd.R_mono HO239.out (fun _ hk => ⟨hk.1.2, hk.2⟩)⟩, ⟨by repeat (first | (with_reducible first | exact HB.out | apply below_alloc | apply pw_below_drewN | apply below_drew1) | exact HB.out)⟩⟩
    case rest =>
      clear HC10
      try clear c1
      try clear c2
      try clear p2
      try clear c4
      try clear c4b0
      try clear c5
      try clear c13
      try clear c19
      try clear c20
      try clear c22
      try clear c24
      obtain ⟨kq, x44_9, rfl, HA, HJ9, HO_6, HO_8, HO_9, HB⟩ := hcut
      cases kq with
      | zero => exact absurd HA.out (by simp [laws_FnExactPartitionMerge.j0])
      | succ kj9 =>
        have H := HA.out
        clear HA
        simp only [laws_FnExactPartitionMerge.j0] at H
        by_cases c26 : x44_9 = true
        · subst c26
          have H1 : (none) = some r := by rw [if_pos rfl] at H; exact H
          clear H
          have H := H1
          clear H1
          exact absurd H (by simp)
        · replace c26 := Bool.eq_false_iff.mpr c26
          subst c26
          have H1 : ((laws_toIntervalS.f kj9 l0).bind fun t241 => ((laws_eqIntervalS.f kj9 t233 t241).bind fun t244 => (if t244 = true then ((laws_markIntervalS.f kj9 t233 1).bind fun bt245 => (if bt245.1 < 0 then (laws_FnExactPartitionMerge.j1 kj9 l0 a1 t229 t230 t236 true) else ((laws_eqIntervalS.f kj9 t236 t229).bind fun t247 => (if t247 = true then (laws_FnExactPartitionMerge.j1 kj9 l0 a1 t229 t230 t236 (t237 != t230)) else (laws_FnExactPartitionMerge.j1 kj9 l0 a1 t229 t230 t236 true))))) else (none)))) = some r := by rw [if_neg (show ¬ (false = true) by decide)] at H; exact H
          clear H
          have H := H1
          clear H1
          replace H := Option.bind_eq_some_iff.mp H
          obtain ⟨t241, A270, H⟩ := H
          replace H : ((laws_eqIntervalS.f kj9 t233 t241).bind fun t244 => (if t244 = true then ((laws_markIntervalS.f kj9 t233 1).bind fun bt245 => (if bt245.1 < 0 then (laws_FnExactPartitionMerge.j1 kj9 l0 a1 t229 t230 t236 true) else ((laws_eqIntervalS.f kj9 t236 t229).bind fun t247 => (if t247 = true then (laws_FnExactPartitionMerge.j1 kj9 l0 a1 t229 t230 t236 (t237 != t230)) else (laws_FnExactPartitionMerge.j1 kj9 l0 a1 t229 t230 t236 true))))) else (none))) = some r := H
          have A27 := Aside0.mk A270
          clear A270
          replace H := Option.bind_eq_some_iff.mp H
          obtain ⟨t244, A280, H⟩ := H
          replace H : (if t244 = true then ((laws_markIntervalS.f kj9 t233 1).bind fun bt245 => (if bt245.1 < 0 then (laws_FnExactPartitionMerge.j1 kj9 l0 a1 t229 t230 t236 true) else ((laws_eqIntervalS.f kj9 t236 t229).bind fun t247 => (if t247 = true then (laws_FnExactPartitionMerge.j1 kj9 l0 a1 t229 t230 t236 (t237 != t230)) else (laws_FnExactPartitionMerge.j1 kj9 l0 a1 t229 t230 t236 true))))) else (none)) = some r := H
          have A28 := Aside0.mk A280
          clear A280
          by_cases c29 : t244 = true
          · subst c29
            have H1 : ((laws_markIntervalS.f kj9 t233 1).bind fun bt245 => (if bt245.1 < 0 then (laws_FnExactPartitionMerge.j1 kj9 l0 a1 t229 t230 t236 true) else ((laws_eqIntervalS.f kj9 t236 t229).bind fun t247 => (if t247 = true then (laws_FnExactPartitionMerge.j1 kj9 l0 a1 t229 t230 t236 (t237 != t230)) else (laws_FnExactPartitionMerge.j1 kj9 l0 a1 t229 t230 t236 true))))) = some r := by rw [if_pos rfl] at H; exact H
            clear H
            have H := H1
            clear H1
            replace H := Option.bind_eq_some_iff.mp H
            obtain ⟨⟨t245, t246⟩, A300, H⟩ := H
            replace H : (if t245 < 0 then (laws_FnExactPartitionMerge.j1 kj9 l0 a1 t229 t230 t236 true) else ((laws_eqIntervalS.f kj9 t236 t229).bind fun t247 => (if t247 = true then (laws_FnExactPartitionMerge.j1 kj9 l0 a1 t229 t230 t236 (t237 != t230)) else (laws_FnExactPartitionMerge.j1 kj9 l0 a1 t229 t230 t236 true)))) = some r := H
            have A30 := Aside0.mk A300
            clear A300
            have HC31 := Aside0.mk H
            clear H
            go_upto_region 14 with (first | ((with_reducible refine gate_callee (f := 22) rfl ?_); refine goesL_ (some 47) rfl rfl Try.func22 (by kernel_rfl) rfl #[.slice A0 l0.length c0] rfl (by (try simp only [List.map_toArray, List.map_cons, List.map_nil]); first | done | rfl | (simp only [List.length_drop, List.length_take]; rfl)) ?_; (with_reducible refine (laws_toIntervalS.calls kj9 _ _ l0 t241 _ ?side1 ?side2 A27.out).mono ?_); (case side1 => repeat (first | exact (Kd.C_below HR0.out HB.out) | (with_reducible refine Kd.C_alloc ?_ _) | (with_reducible refine Kd.C_drewN ?_ _) | (with_reducible refine Kd.C_drew ?_))); (case side2 => exact HC0.out); rintro e w32 ⟨v242, rfl, ho0, hb⟩; refine ⟨_, rfl, ?_⟩; have n0_ := Aside0.mk (Kd.R_elder' (by (with_reducible repeat (first | apply Kd.R_alloc | apply Kd.R_drewN | apply Kd.R_drew)); exact HO_6.out) (Kd.R_base ho0) hb); have n1_ := Aside0.mk (Kd.R_elder' (by (with_reducible repeat (first | apply Kd.R_alloc | apply Kd.R_drewN | apply Kd.R_drew)); exact HO_8.out) (Kd.R_base ho0) hb); have n2_ := Aside0.mk (Kd.R_elder' (by (with_reducible repeat (first | apply Kd.R_alloc | apply Kd.R_drewN | apply Kd.R_drew)); exact HO_9.out) (Kd.R_base ho0) hb); have n3_ := Aside0.mk (Kd.R_lower (Kd.R_new' (Kd.R_new' (Kd.R_new' ho0 (Kd.R_lt (by (with_reducible repeat (first | apply Kd.R_alloc | apply Kd.R_drewN | apply Kd.R_drew)); exact HO_6.out))) (Kd.R_lt (by (with_reducible repeat (first | apply Kd.R_alloc | apply Kd.R_drewN | apply Kd.R_drew)); exact HO_8.out))) (Kd.R_lt (by (with_reducible repeat (first | apply Kd.R_alloc | apply Kd.R_drewN | apply Kd.R_drew)); exact HO_9.out))) (below_size (by repeat (first | (with_reducible first | exact HB.out | apply below_alloc | apply pw_below_drewN | apply below_drew1) | exact HB.out)))); have n4_ := Aside0.mk (below_step (by repeat (first | (with_reducible first | exact HB.out | apply below_alloc | apply pw_below_drewN | apply below_drew1) | exact HB.out)) hb); clear HO_6; clear HO_8; clear HO_9; clear HB; have HO_6 := n0_; have HO_8 := n1_; have HO_9 := n2_; have HO243 := n3_; have HB := n4_; clear n0_ n1_ n2_ n3_ n4_; (try clear hb); (try clear hb2); (try clear hk); (try clear hi); (try clear ho0); obtain ⟨Ao33, co33, eo33⟩ := Kd.R_slice HO243.out; subst eo33) | ((with_reducible refine gate_callee (f := 24) rfl ?_); refine goesL_ (some 48) rfl rfl Try.func24 (by kernel_rfl) rfl #[.slice Ao16 t233.length co16, .slice Ao33 t241.length co33] rfl (by (try simp only [List.map_toArray, List.map_cons, List.map_nil]); first | done | rfl | (simp only [List.length_drop, List.length_take]; rfl)) ?_; (with_reducible refine (laws_eqIntervalS.calls kj9 _ _ t233 _ _ t241 true _ ?side1 ?side2 ?side3 ?side4 A28.out).mono ?_); (case side1 => repeat (first | exact (Kd.R_reads' HO_8.out).2.2 | (with_reducible refine Kd.C_alloc ?_ _) | (with_reducible refine Kd.C_drewN ?_ _) | (with_reducible refine Kd.C_drew ?_))); (case side2 => exact (Kd.R_reads' HO_8.out).2.1); (case side3 => repeat (first | exact (Kd.R_reads' HO243.out).2.2 | (with_reducible refine Kd.C_alloc ?_ _) | (with_reducible refine Kd.C_drewN ?_ _) | (with_reducible refine Kd.C_drew ?_))); (case side4 => exact (Kd.R_reads' HO243.out).2.1); rintro e w34 ⟨rfl, hb⟩; refine ⟨_, rfl, ?_⟩; have n0_ := Aside0.mk (Kd.R_below (by (with_reducible repeat (first | apply Kd.R_alloc | apply Kd.R_drewN | apply Kd.R_drew)); exact HO_6.out) hb); have n1_ := Aside0.mk (Kd.R_below (by (with_reducible repeat (first | apply Kd.R_alloc | apply Kd.R_drewN | apply Kd.R_drew)); exact HO_8.out) hb); have n2_ := Aside0.mk (Kd.R_below (by (with_reducible repeat (first | apply Kd.R_alloc | apply Kd.R_drewN | apply Kd.R_drew)); exact HO_9.out) hb); have n3_ := Aside0.mk (Kd.R_below (by (with_reducible repeat (first | apply Kd.R_alloc | apply Kd.R_drewN | apply Kd.R_drew)); exact HO243.out) hb); have n4_ := Aside0.mk (below_step (by repeat (first | (with_reducible first | exact HB.out | apply below_alloc | apply pw_below_drewN | apply below_drew1) | exact HB.out)) hb); clear HO_6; clear HO_8; clear HO_9; clear HO243; clear HB; have HO_6 := n0_; have HO_8 := n1_; have HO_9 := n2_; have HO243 := n3_; have HB := n4_; clear n0_ n1_ n2_ n3_ n4_; (try clear hb); (try clear hb2); (try clear hk); (try clear hi)) | ((with_reducible refine gate_callee (f := 44) rfl ?_); refine goesL_ (some 52) rfl rfl Try.func44 (by kernel_rfl) rfl #[.slice Ao16 t233.length co16, .int .i64 1] rfl (by (try simp only [List.map_toArray, List.map_cons, List.map_nil]); first | done | rfl | (simp only [List.length_drop, List.length_take]; rfl)) ?_; (with_reducible refine (laws_markIntervalS.calls kj9 (fun k_ => some k_ = (.slice Ao16 t233.length co16 : Value).ownBlock) (.slice Ao16 t233.length co16) t233 1 t245 t246 w _ ?side1 ?side2 A30.out).mono ?_); (case side1 => repeat (first | (with_reducible first | exact HB.out | apply below_alloc | apply pw_below_drewN | apply below_drew1) | exact HB.out)); (case side2 => exact Kd.R_tight rfl HO_8.out); rintro e w35 ⟨rfl, hy0, hb, hkp⟩; refine ⟨_, rfl, ?_⟩; have n0_ := Aside0.mk (Kd.R_mono (ok' := fun k_ => some k_ ≠ (.slice Ao16 t233.length co16 : Value).ownBlock ∧ some k_ ≠ (v238 : Value).ownBlock ∧ some k_ ≠ (.slice Ao33 t241.length co33 : Value).ownBlock) (Kd.R_keptB (HO_6.out) hkp (fun k_ hk_ hs_ => (hk_.1.1) hs_)) (fun k_ hk_ => ⟨hk_.1.1.1, hk_.1.1.2, hk_.1.2⟩)); have n1_ := Aside0.mk (Kd.R_reok rfl hy0 (fun k_ e_ => HO_8.out.1 k_ e_)); have n2_ := Aside0.mk (Kd.R_mono (ok' := fun k_ => some k_ ≠ (v231 : Value).ownBlock ∧ some k_ ≠ (.slice Ao16 t233.length co16 : Value).ownBlock ∧ some k_ ≠ (.slice Ao33 t241.length co33 : Value).ownBlock) (Kd.R_keptB (HO_9.out) hkp (fun k_ hk_ hs_ => (hk_.1.2) hs_)) (fun k_ hk_ => ⟨hk_.1.1.1, hk_.1.1.2, hk_.1.2⟩)); have n3_ := Aside0.mk (Kd.R_mono (ok' := fun k_ => some k_ ≠ (v231 : Value).ownBlock ∧ some k_ ≠ (.slice Ao16 t233.length co16 : Value).ownBlock ∧ some k_ ≠ (v238 : Value).ownBlock) (Kd.R_keptB (HO243.out) hkp (fun k_ hk_ hs_ => (hk_.1.2) hs_)) (fun k_ hk_ => ⟨hk_.1.1.1.2, hk_.1.1.2, hk_.1.2⟩)); have n4_ := Aside0.mk (hb); clear HO_6; clear HO_8; clear HO_9; clear HO243; clear HB; have HO_6 := n0_; have HO_8 := n1_; have HO_9 := n2_; have HO243 := n3_; have HB := n4_; clear n0_ n1_ n2_ n3_ n4_; (try clear hb); (try clear hkp); (try clear hy0)))
            (try simp only [Act.put, List.setIfInBounds_toArray, List.set_cons_zero, List.set_cons_succ])
            go_cut [65] (fun v65 wc => ∃ (kq : Nat) (x65_30 : Bool), v65 = .bool x65_30 ∧ Aside0 (laws_FnExactPartitionMerge.j1 kq l0 a1 t229 t230 t236 x65_30 = some r) ∧ Aside0 (kq ≤ kj9) ∧ Aside0 (Kd.R k79 79 wc w.heap.size (fun k_ => some k_ ≠ (v238 : Value).ownBlock) v231 t229) ∧ Aside0 (Kd.R k79 79 wc w.heap.size (fun k_ => some k_ ≠ (v231 : Value).ownBlock) v238 t236) ∧ Aside0 (Below w.heap.size w wc))
            case first =>
              have H := HC31.out
              clear HC31
              by_cases c36 : t245 < 0
              · rw [if_pos c36] at H
                have c36b0 : decide (t245 < 0) = true := decide_eq_true c36
                clear c36
                (first | rw [c36b0] | (simp only [i64_w, i32_w]; rw [c36b0]) | skip)
                have H' := Aside0.mk H
                clear H
                go_wp2
                go_meet
                case rel => exact ⟨_, (true), (by first | rfl | (simp; done) | (simp [bne]; done) | (simp [*]; done)), H', ⟨by have := HJ9.out; first | omega | exact Nat.le_refl _⟩, ⟨by (with_reducible repeat (first | apply Kd.R_alloc | apply Kd.R_drewN | apply Kd.R_drew)); exact Kd.R_mono HO_6.out (fun _ hk => hk.2.1)⟩, ⟨by (with_reducible repeat (first | apply Kd.R_alloc | apply Kd.R_drewN | apply Kd.R_drew)); exact Kd.R_mono HO_9.out (fun _ hk => hk.1)⟩, ⟨by repeat (first | (with_reducible first | exact HB.out | apply below_alloc | apply pw_below_drewN | apply below_drew1) | exact HB.out)⟩⟩
              · rw [if_neg c36] at H
                have c36b0 : decide (t245 < 0) = false := decide_eq_false c36
                clear c36
                (first | rw [c36b0] | (simp only [i64_w, i32_w]; rw [c36b0]) | skip)
                replace H := Option.bind_eq_some_iff.mp H
                obtain ⟨t247, A370, H⟩ := H
                replace H : (if t247 = true then (laws_FnExactPartitionMerge.j1 kj9 l0 a1 t229 t230 t236 (t237 != t230)) else (laws_FnExactPartitionMerge.j1 kj9 l0 a1 t229 t230 t236 true)) = some r := H
                have A37 := Aside0.mk A370
                clear A370
                by_cases c38 : t247 = true
                · subst c38
                  have H1 : (laws_FnExactPartitionMerge.j1 kj9 l0 a1 t229 t230 t236 (t237 != t230)) = some r := by rw [if_pos rfl] at H; exact H
                  clear H
                  have H := H1
                  clear H1
                  have H' := Aside0.mk H
                  clear H
                  obtain ⟨Ao39, co39, eo39⟩ := Kd.R_slice HO_9.out
                  subst eo39
                  obtain ⟨Ao40, co40, eo40⟩ := Kd.R_slice HO_6.out
                  subst eo40
                  go_wp2_with (first | (go_at_call 24; (with_reducible refine (laws_eqIntervalS.calls kj9 _ _ t236 _ _ t229 true _ ?side1 ?side2 ?side3 ?side4 A37.out).mono ?_); (case side1 => repeat (first | exact (Kd.R_reads' HO_9.out).2.2 | (with_reducible refine Kd.C_alloc ?_ _) | (with_reducible refine Kd.C_drewN ?_ _) | (with_reducible refine Kd.C_drew ?_))); (case side2 => exact (Kd.R_reads' HO_9.out).2.1); (case side3 => repeat (first | exact (Kd.R_reads' HO_6.out).2.2 | (with_reducible refine Kd.C_alloc ?_ _) | (with_reducible refine Kd.C_drewN ?_ _) | (with_reducible refine Kd.C_drew ?_))); (case side4 => exact (Kd.R_reads' HO_6.out).2.1); rintro e w41 ⟨rfl, hb⟩; have n0_ := Aside0.mk (Kd.R_below (by (with_reducible repeat (first | apply Kd.R_alloc | apply Kd.R_drewN | apply Kd.R_drew)); exact HO_6.out) hb); have n1_ := Aside0.mk (Kd.R_below (by (with_reducible repeat (first | apply Kd.R_alloc | apply Kd.R_drewN | apply Kd.R_drew)); exact HO_8.out) hb); have n2_ := Aside0.mk (Kd.R_below (by (with_reducible repeat (first | apply Kd.R_alloc | apply Kd.R_drewN | apply Kd.R_drew)); exact HO_9.out) hb); have n3_ := Aside0.mk (Kd.R_below (by (with_reducible repeat (first | apply Kd.R_alloc | apply Kd.R_drewN | apply Kd.R_drew)); exact HO243.out) hb); have n4_ := Aside0.mk (below_step (by repeat (first | (with_reducible first | exact HB.out | apply below_alloc | apply pw_below_drewN | apply below_drew1) | exact HB.out)) hb); clear HO_6; clear HO_8; clear HO_9; clear HO243; clear HB; have HO_6 := n0_; have HO_8 := n1_; have HO_9 := n2_; have HO243 := n3_; have HB := n4_; clear n0_ n1_ n2_ n3_ n4_; (try clear hb); (try clear hb2); (try clear hk); (try clear hi)))
                  go_meet
                  case rel => exact ⟨_, ((t237 != t230)), (by first | rfl | (simp; done) | (simp [bne]; done) | (simp [*]; done)), H', ⟨by have := HJ9.out; first | omega | exact Nat.le_refl _⟩, ⟨by (with_reducible repeat (first | apply Kd.R_alloc | apply Kd.R_drewN | apply Kd.R_drew)); exact Kd.R_mono HO_6.out (fun _ hk => hk.2.1)⟩, ⟨by (with_reducible repeat (first | apply Kd.R_alloc | apply Kd.R_drewN | apply Kd.R_drew)); exact Kd.R_mono HO_9.out (fun _ hk => hk.1)⟩, ⟨by repeat (first | (with_reducible first | exact HB.out | apply below_alloc | apply pw_below_drewN | apply below_drew1) | exact HB.out)⟩⟩
                · replace c38 := Bool.eq_false_iff.mpr c38
                  subst c38
                  have H1 : (laws_FnExactPartitionMerge.j1 kj9 l0 a1 t229 t230 t236 true) = some r := by rw [if_neg (show ¬ (false = true) by decide)] at H; exact H
                  clear H
                  have H := H1
                  clear H1
                  have H' := Aside0.mk H
                  clear H
                  obtain ⟨Ao42, co42, eo42⟩ := Kd.R_slice HO_9.out
                  subst eo42
                  obtain ⟨Ao43, co43, eo43⟩ := Kd.R_slice HO_6.out
                  subst eo43
                  go_wp2_with (first | (go_at_call 24; (with_reducible refine (laws_eqIntervalS.calls kj9 _ _ t236 _ _ t229 false _ ?side1 ?side2 ?side3 ?side4 A37.out).mono ?_); (case side1 => repeat (first | exact (Kd.R_reads' HO_9.out).2.2 | (with_reducible refine Kd.C_alloc ?_ _) | (with_reducible refine Kd.C_drewN ?_ _) | (with_reducible refine Kd.C_drew ?_))); (case side2 => exact (Kd.R_reads' HO_9.out).2.1); (case side3 => repeat (first | exact (Kd.R_reads' HO_6.out).2.2 | (with_reducible refine Kd.C_alloc ?_ _) | (with_reducible refine Kd.C_drewN ?_ _) | (with_reducible refine Kd.C_drew ?_))); (case side4 => exact (Kd.R_reads' HO_6.out).2.1); rintro e w44 ⟨rfl, hb⟩; have n0_ := Aside0.mk (Kd.R_below (by (with_reducible repeat (first | apply Kd.R_alloc | apply Kd.R_drewN | apply Kd.R_drew)); exact HO_6.out) hb); have n1_ := Aside0.mk (Kd.R_below (by (with_reducible repeat (first | apply Kd.R_alloc | apply Kd.R_drewN | apply Kd.R_drew)); exact HO_8.out) hb); have n2_ := Aside0.mk (Kd.R_below (by (with_reducible repeat (first | apply Kd.R_alloc | apply Kd.R_drewN | apply Kd.R_drew)); exact HO_9.out) hb); have n3_ := Aside0.mk (Kd.R_below (by (with_reducible repeat (first | apply Kd.R_alloc | apply Kd.R_drewN | apply Kd.R_drew)); exact HO243.out) hb); have n4_ := Aside0.mk (below_step (by repeat (first | (with_reducible first | exact HB.out | apply below_alloc | apply pw_below_drewN | apply below_drew1) | exact HB.out)) hb); clear HO_6; clear HO_8; clear HO_9; clear HO243; clear HB; have HO_6 := n0_; have HO_8 := n1_; have HO_9 := n2_; have HO243 := n3_; have HB := n4_; clear n0_ n1_ n2_ n3_ n4_; (try clear hb); (try clear hb2); (try clear hk); (try clear hi)))
                  go_meet
                  case rel => exact ⟨_, (true), (by first | rfl | (simp; done) | (simp [bne]; done) | (simp [*]; done)), H', ⟨by have := HJ9.out; first | omega | exact Nat.le_refl _⟩, ⟨by (with_reducible repeat (first | apply Kd.R_alloc | apply Kd.R_drewN | apply Kd.R_drew)); exact Kd.R_mono HO_6.out (fun _ hk => hk.2.1)⟩, ⟨by (with_reducible repeat (first | apply Kd.R_alloc | apply Kd.R_drewN | apply Kd.R_drew)); exact Kd.R_mono HO_9.out (fun _ hk => hk.1)⟩, ⟨by repeat (first | (with_reducible first | exact HB.out | apply below_alloc | apply pw_below_drewN | apply below_drew1) | exact HB.out)⟩⟩
            case rest =>
              clear HC31
              try clear c1
              try clear c2
              try clear p2
              try clear c3
              try clear c4
              try clear c4b0
              try clear c5
              try clear c13
              try clear c19
              try clear c20
              try clear c22
              try clear c24
              try clear c26
              try clear c29
              try clear c36
              try clear c36b0
              try clear c38
              try clear c44
              try clear p2
              obtain ⟨kq, x65_30, rfl, HA, HJ30, HO_6, HO_9, HB⟩ := hcut
              cases kq with
              | zero => exact absurd HA.out (by simp [laws_FnExactPartitionMerge.j1])
              | succ kj30 =>
                have H := HA.out
                clear HA
                simp only [laws_FnExactPartitionMerge.j1] at H
                by_cases c45 : x65_30 = true
                · subst c45
                  have H1 : (none) = some r := by rw [if_pos rfl] at H; exact H
                  clear H
                  have H := H1
                  clear H1
                  exact absurd H (by simp)
                · replace c45 := Bool.eq_false_iff.mpr c45
                  subst c45
                  have H1 : ((laws_markIntervalS.f kj30 t236 1).bind fun bt248 => ((laws_heldIntervalS.f kj30 bt248.2 1).bind fun t250 => (if t250 < 0 then (none) else (if t250 = bt248.1 then ((laws_toIntervalS.f kj30 l0).bind fun t251 => ((impl_PartitionMerge.f kj30 t251 a1).bind fun bt254 => ((laws_eqIntervalS.f kj30 bt254.1 t229).bind fun t258 => (if t258 = true then (laws_FnExactPartitionMerge.j2 kj30 bt248.2 bt248.1 (bt254.2 != t230)) else (laws_FnExactPartitionMerge.j2 kj30 bt248.2 bt248.1 true))))) else (none))))) = some r := by rw [if_neg (show ¬ (false = true) by decide)] at H; exact H
                  clear H
                  have H := H1
                  clear H1
                  replace H := Option.bind_eq_some_iff.mp H
                  obtain ⟨⟨t248, t249⟩, A460, H⟩ := H
                  replace H : ((laws_heldIntervalS.f kj30 t249 1).bind fun t250 => (if t250 < 0 then (none) else (if t250 = t248 then ((laws_toIntervalS.f kj30 l0).bind fun t251 => ((impl_PartitionMerge.f kj30 t251 a1).bind fun bt254 => ((laws_eqIntervalS.f kj30 bt254.1 t229).bind fun t258 => (if t258 = true then (laws_FnExactPartitionMerge.j2 kj30 t249 t248 (bt254.2 != t230)) else (laws_FnExactPartitionMerge.j2 kj30 t249 t248 true))))) else (none)))) = some r := H
                  have A46 := Aside0.mk A460
                  clear A460
                  replace H := Option.bind_eq_some_iff.mp H
                  obtain ⟨t250, A470, H⟩ := H
                  replace H : (if t250 < 0 then (none) else (if t250 = t248 then ((laws_toIntervalS.f kj30 l0).bind fun t251 => ((impl_PartitionMerge.f kj30 t251 a1).bind fun bt254 => ((laws_eqIntervalS.f kj30 bt254.1 t229).bind fun t258 => (if t258 = true then (laws_FnExactPartitionMerge.j2 kj30 t249 t248 (bt254.2 != t230)) else (laws_FnExactPartitionMerge.j2 kj30 t249 t248 true))))) else (none))) = some r := H
                  have A47 := Aside0.mk A470
                  clear A470
                  by_cases c48 : t250 < 0
                  · rw [if_pos c48] at H
                    exact absurd H (by simp)
                  · rw [if_neg c48] at H
                    have c48b0 : decide (t250 < 0) = false := decide_eq_false c48
                    clear c48
                    by_cases c49 : t250 = t248
                    · rw [if_pos c49] at H
                      have c49b0 : (t250 == t248) = true := beq_iff_eq.mpr c49
                      have c49b1 : (t250 != t248) = false := bne_eq_false_iff_eq.mpr c49
                      clear c49
                      replace H := Option.bind_eq_some_iff.mp H
                      obtain ⟨t251, A500, H⟩ := H
                      replace H : ((impl_PartitionMerge.f kj30 t251 a1).bind fun bt254 => ((laws_eqIntervalS.f kj30 bt254.1 t229).bind fun t258 => (if t258 = true then (laws_FnExactPartitionMerge.j2 kj30 t249 t248 (bt254.2 != t230)) else (laws_FnExactPartitionMerge.j2 kj30 t249 t248 true)))) = some r := H
                      have A50 := Aside0.mk A500
                      clear A500
                      replace H := Option.bind_eq_some_iff.mp H
                      obtain ⟨⟨t254, t255⟩, A510, H⟩ := H
                      replace H : ((laws_eqIntervalS.f kj30 t254 t229).bind fun t258 => (if t258 = true then (laws_FnExactPartitionMerge.j2 kj30 t249 t248 (t255 != t230)) else (laws_FnExactPartitionMerge.j2 kj30 t249 t248 true))) = some r := H
                      have A51 := Aside0.mk A510
                      clear A510
                      have HC52 := Aside0.mk H
                      clear H
                      obtain ⟨Ao53, co53, eo53⟩ := Kd.R_slice HO_9.out
                      subst eo53
                      go_upto_region 25 with (first | ((with_reducible refine gate_callee (f := 44) rfl ?_); refine goesL_ (some 68) rfl rfl Try.func44 (by kernel_rfl) rfl #[.slice Ao53 t236.length co53, .int .i64 1] rfl (by (try simp only [List.map_toArray, List.map_cons, List.map_nil]); first | done | rfl | (simp only [List.length_drop, List.length_take]; rfl)) ?_; (with_reducible refine (laws_markIntervalS.calls kj30 (fun k_ => some k_ = (.slice Ao53 t236.length co53 : Value).ownBlock) (.slice Ao53 t236.length co53) t236 1 t248 t249 w _ ?side1 ?side2 A46.out).mono ?_); (case side1 => repeat (first | (with_reducible first | exact HB.out | apply below_alloc | apply pw_below_drewN | apply below_drew1) | exact HB.out)); (case side2 => exact Kd.R_tight rfl HO_9.out); rintro e w54 ⟨rfl, hy0, hb, hkp⟩; refine ⟨_, rfl, ?_⟩; have n0_ := Aside0.mk (Kd.R_mono (ok' := fun k_ => some k_ ≠ (.slice Ao53 t236.length co53 : Value).ownBlock) (Kd.R_keptB (HO_6.out) hkp (fun k_ hk_ hs_ => (hk_) hs_)) (fun k_ hk_ => hk_.1)); have n1_ := Aside0.mk (Kd.R_reok rfl hy0 (fun k_ e_ => HO_9.out.1 k_ e_)); have n2_ := Aside0.mk (hb); clear HO_6; clear HO_9; clear HB; have HO_6 := n0_; have HO_9 := n1_; have HB := n2_; clear n0_ n1_ n2_; (try clear hb); (try clear hkp); (try clear hy0)) | ((with_reducible refine gate_callee (f := 45) rfl ?_); refine goesL_ (some 71) rfl rfl Try.func45 (by kernel_rfl) rfl #[.slice Ao53 t249.length co53, .int .i64 1] rfl (by (try simp only [List.map_toArray, List.map_cons, List.map_nil]); first | done | (rw [show t249.length = t236.length from (Kd.R_reads' HO_9.out).1.symm] <;> rfl) | rfl | (simp only [List.length_drop, List.length_take]; rfl)) ?_; (with_reducible refine (laws_heldIntervalS.calls kj30 _ _ t249 1 t250 _ ?side1 ?side2 A47.out).mono ?_); (case side1 => repeat (first | exact (Kd.R_reads' HO_9.out).2.2 | (with_reducible refine Kd.C_alloc ?_ _) | (with_reducible refine Kd.C_drewN ?_ _) | (with_reducible refine Kd.C_drew ?_))); (case side2 => rw [show t249.length = t236.length from (Kd.R_reads' HO_9.out).1.symm]; exact (Kd.R_reads' HO_9.out).2.1); rintro e w55 ⟨rfl, hb⟩; refine ⟨_, rfl, ?_⟩; have n0_ := Aside0.mk (Kd.R_below (by (with_reducible repeat (first | apply Kd.R_alloc | apply Kd.R_drewN | apply Kd.R_drew)); exact HO_6.out) hb); have n1_ := Aside0.mk (Kd.R_below (by (with_reducible repeat (first | apply Kd.R_alloc | apply Kd.R_drewN | apply Kd.R_drew)); exact HO_9.out) hb); have n2_ := Aside0.mk (below_step (by repeat (first | (with_reducible first | exact HB.out | apply below_alloc | apply pw_below_drewN | apply below_drew1) | exact HB.out)) hb); clear HO_6; clear HO_9; clear HB; have HO_6 := n0_; have HO_9 := n1_; have HB := n2_; clear n0_ n1_ n2_; (try clear hb); (try clear hb2); (try clear hk); (try clear hi)) | ((with_reducible refine gate_callee (f := 22) rfl ?_); refine goesL_ (some 79) rfl rfl Try.func22 (by kernel_rfl) rfl #[.slice A0 l0.length c0] rfl (by (try simp only [List.map_toArray, List.map_cons, List.map_nil]); first | done | rfl | (simp only [List.length_drop, List.length_take]; rfl)) ?_; (with_reducible refine (laws_toIntervalS.calls kj30 _ _ l0 t251 _ ?side1 ?side2 A50.out).mono ?_); (case side1 => repeat (first | exact (Kd.C_below HR0.out HB.out) | (with_reducible refine Kd.C_alloc ?_ _) | (with_reducible refine Kd.C_drewN ?_ _) | (with_reducible refine Kd.C_drew ?_))); (case side2 => exact HC0.out); rintro e w56 ⟨v252, rfl, ho0, hb⟩; refine ⟨_, rfl, ?_⟩; have n0_ := Aside0.mk (Kd.R_elder' (by (with_reducible repeat (first | apply Kd.R_alloc | apply Kd.R_drewN | apply Kd.R_drew)); exact HO_6.out) (Kd.R_base ho0) hb); have n1_ := Aside0.mk (Kd.R_elder' (by (with_reducible repeat (first | apply Kd.R_alloc | apply Kd.R_drewN | apply Kd.R_drew)); exact HO_9.out) (Kd.R_base ho0) hb); have n2_ := Aside0.mk (Kd.R_lower (Kd.R_new' (Kd.R_new' ho0 (Kd.R_lt (by (with_reducible repeat (first | apply Kd.R_alloc | apply Kd.R_drewN | apply Kd.R_drew)); exact HO_6.out))) (Kd.R_lt (by (with_reducible repeat (first | apply Kd.R_alloc | apply Kd.R_drewN | apply Kd.R_drew)); exact HO_9.out))) (below_size (by repeat (first | (with_reducible first | exact HB.out | apply below_alloc | apply pw_below_drewN | apply below_drew1) | exact HB.out)))); have n3_ := Aside0.mk (below_step (by repeat (first | (with_reducible first | exact HB.out | apply below_alloc | apply pw_below_drewN | apply below_drew1) | exact HB.out)) hb); clear HO_6; clear HO_9; clear HB; have HO_6 := n0_; have HO_9 := n1_; have HO253 := n2_; have HB := n3_; clear n0_ n1_ n2_ n3_; (try clear hb); (try clear hb2); (try clear hk); (try clear hi); (try clear ho0); obtain ⟨Ao57, co57, eo57⟩ := Kd.R_slice HO253.out; subst eo57) | ((with_reducible refine gate_callee (f := 56) rfl ?_); refine goesL_ (some 81) rfl rfl Try.func56 (by kernel_rfl) rfl #[.slice Ao57 t251.length co57, .int .i64 a1] rfl (by (try simp only [List.map_toArray, List.map_cons, List.map_nil]); first | done | rfl | (simp only [List.length_drop, List.length_take]; rfl)) ?_; (with_reducible refine (impl_PartitionMerge.calls kj30 _ _ t251 a1 t254 t255 _ ?side1 ?side2 A51.out).mono ?_); (case side1 => repeat (first | exact (Kd.R_reads' HO253.out).2.2 | (with_reducible refine Kd.C_alloc ?_ _) | (with_reducible refine Kd.C_drewN ?_ _) | (with_reducible refine Kd.C_drew ?_))); (case side2 => exact (Kd.R_reads' HO253.out).2.1); rintro e w58 ⟨v256, rfl, ho0, hb⟩; refine ⟨_, rfl, ?_⟩; have n0_ := Aside0.mk (Kd.R_elder' (by (with_reducible repeat (first | apply Kd.R_alloc | apply Kd.R_drewN | apply Kd.R_drew)); exact HO_6.out) (Kd.R_base ho0) hb); have n1_ := Aside0.mk (Kd.R_elder' (by (with_reducible repeat (first | apply Kd.R_alloc | apply Kd.R_drewN | apply Kd.R_drew)); exact HO_9.out) (Kd.R_base ho0) hb); have n2_ := Aside0.mk (Kd.R_elder' (by (with_reducible repeat (first | apply Kd.R_alloc | apply Kd.R_drewN | apply Kd.R_drew)); exact HO253.out) (Kd.R_base ho0) hb); have n3_ := Aside0.mk (Kd.R_lower (Kd.R_new' (Kd.R_new' (Kd.R_new' ho0 (Kd.R_lt (by (with_reducible repeat (first | apply Kd.R_alloc | apply Kd.R_drewN | apply Kd.R_drew)); exact HO_6.out))) (Kd.R_lt (by (with_reducible repeat (first | apply Kd.R_alloc | apply Kd.R_drewN | apply Kd.R_drew)); exact HO_9.out))) (Kd.R_lt (by (with_reducible repeat (first | apply Kd.R_alloc | apply Kd.R_drewN | apply Kd.R_drew)); exact HO253.out))) (below_size (by repeat (first | (with_reducible first | exact HB.out | apply below_alloc | apply pw_below_drewN | apply below_drew1) | exact HB.out)))); have n4_ := Aside0.mk (below_step (by repeat (first | (with_reducible first | exact HB.out | apply below_alloc | apply pw_below_drewN | apply below_drew1) | exact HB.out)) hb); clear HO_6; clear HO_9; clear HO253; clear HB; have HO_6 := n0_; have HO_9 := n1_; have HO253 := n2_; have HO257 := n3_; have HB := n4_; clear n0_ n1_ n2_ n3_ n4_; (try clear hb); (try clear hb2); (try clear hk); (try clear hi); (try clear ho0)))
                      (try simp only [Act.put, List.setIfInBounds_toArray, List.set_cons_zero, List.set_cons_succ])
                      go_cut [92] (fun v92 wc => ∃ (kq : Nat) (x92_51 : Bool), v92 = .bool x92_51 ∧ Aside0 (laws_FnExactPartitionMerge.j2 kq t249 t248 x92_51 = some r) ∧ Aside0 (kq ≤ kj30) ∧ Aside0 (Kd.R k79 79 wc w.heap.size (fun _ => True) (.slice Ao53 t236.length co53) t249) ∧ Aside0 (Below w.heap.size w wc))
                      case first =>
                        have H := HC52.out
                        clear HC52
                        replace H := Option.bind_eq_some_iff.mp H
                        obtain ⟨t258, A590, H⟩ := H
                        replace H : (if t258 = true then (laws_FnExactPartitionMerge.j2 kj30 t249 t248 (t255 != t230)) else (laws_FnExactPartitionMerge.j2 kj30 t249 t248 true)) = some r := H
                        have A59 := Aside0.mk A590
                        clear A590
                        by_cases c60 : t258 = true
                        · subst c60
                          have H1 : (laws_FnExactPartitionMerge.j2 kj30 t249 t248 (t255 != t230)) = some r := by rw [if_pos rfl] at H; exact H
                          clear H
                          have H := H1
                          clear H1
                          have H' := Aside0.mk H
                          clear H
                          obtain ⟨Ao61, co61, eo61⟩ := Kd.R_slice HO257.out
                          subst eo61
                          obtain ⟨Ao62, co62, eo62⟩ := Kd.R_slice HO_6.out
                          subst eo62
                          go_wp2_with (first | ((with_reducible refine gate_callee (f := 24) rfl ?_); refine goesL_ (some 86) rfl rfl Try.func24 (by kernel_rfl) rfl #[.slice Ao61 t254.length co61, .slice Ao62 t229.length co62] rfl (by (try simp only [List.map_toArray, List.map_cons, List.map_nil]); first | done | rfl | (simp only [List.length_drop, List.length_take]; rfl)) ?_; (with_reducible refine (laws_eqIntervalS.calls kj30 _ _ t254 _ _ t229 true _ ?side1 ?side2 ?side3 ?side4 A59.out).mono ?_); (case side1 => repeat (first | exact (Kd.R_reads' HO257.out).2.2 | (with_reducible refine Kd.C_alloc ?_ _) | (with_reducible refine Kd.C_drewN ?_ _) | (with_reducible refine Kd.C_drew ?_))); (case side2 => exact (Kd.R_reads' HO257.out).2.1); (case side3 => repeat (first | exact (Kd.R_reads' HO_6.out).2.2 | (with_reducible refine Kd.C_alloc ?_ _) | (with_reducible refine Kd.C_drewN ?_ _) | (with_reducible refine Kd.C_drew ?_))); (case side4 => exact (Kd.R_reads' HO_6.out).2.1); rintro e w63 ⟨rfl, hb⟩; refine ⟨_, rfl, ?_⟩; have n0_ := Aside0.mk (Kd.R_below (by (with_reducible repeat (first | apply Kd.R_alloc | apply Kd.R_drewN | apply Kd.R_drew)); exact HO_6.out) hb); have n1_ := Aside0.mk (Kd.R_below (by (with_reducible repeat (first | apply Kd.R_alloc | apply Kd.R_drewN | apply Kd.R_drew)); exact HO_9.out) hb); have n2_ := Aside0.mk (Kd.R_below (by (with_reducible repeat (first | apply Kd.R_alloc | apply Kd.R_drewN | apply Kd.R_drew)); exact HO253.out) hb); have n3_ := Aside0.mk (Kd.R_below (by (with_reducible repeat (first | apply Kd.R_alloc | apply Kd.R_drewN | apply Kd.R_drew)); exact HO257.out) hb); have n4_ := Aside0.mk (below_step (by repeat (first | (with_reducible first | exact HB.out | apply below_alloc | apply pw_below_drewN | apply below_drew1) | exact HB.out)) hb); clear HO_6; clear HO_9; clear HO253; clear HO257; clear HB; have HO_6 := n0_; have HO_9 := n1_; have HO253 := n2_; have HO257 := n3_; have HB := n4_; clear n0_ n1_ n2_ n3_ n4_; (try clear hb); (try clear hb2); (try clear hk); (try clear hi)))
                          go_meet
                          case rel => exact ⟨_, ((t255 != t230)), (by first | rfl | (simp; done) | (simp [bne]; done) | (simp [*]; done)), H', ⟨by have := HJ9.out; have := HJ30.out; first | omega | exact Nat.le_refl _⟩, ⟨by (with_reducible repeat (first | apply Kd.R_alloc | apply Kd.R_drewN | apply Kd.R_drew)); exact Kd.R_mono HO_9.out (fun _ hk => trivial)⟩, ⟨by repeat (first | (with_reducible first | exact HB.out | apply below_alloc | apply pw_below_drewN | apply below_drew1) | exact HB.out)⟩⟩
                        · replace c60 := Bool.eq_false_iff.mpr c60
                          subst c60
                          have H1 : (laws_FnExactPartitionMerge.j2 kj30 t249 t248 true) = some r := by rw [if_neg (show ¬ (false = true) by decide)] at H; exact H
                          clear H
                          have H := H1
                          clear H1
                          have H' := Aside0.mk H
                          clear H
                          obtain ⟨Ao64, co64, eo64⟩ := Kd.R_slice HO257.out
                          subst eo64
                          obtain ⟨Ao65, co65, eo65⟩ := Kd.R_slice HO_6.out
                          subst eo65
                          go_wp2_with (first | ((with_reducible refine gate_callee (f := 24) rfl ?_); refine goesL_ (some 86) rfl rfl Try.func24 (by kernel_rfl) rfl #[.slice Ao64 t254.length co64, .slice Ao65 t229.length co65] rfl (by (try simp only [List.map_toArray, List.map_cons, List.map_nil]); first | done | rfl | (simp only [List.length_drop, List.length_take]; rfl)) ?_; (with_reducible refine (laws_eqIntervalS.calls kj30 _ _ t254 _ _ t229 false _ ?side1 ?side2 ?side3 ?side4 A59.out).mono ?_); (case side1 => repeat (first | exact (Kd.R_reads' HO257.out).2.2 | (with_reducible refine Kd.C_alloc ?_ _) | (with_reducible refine Kd.C_drewN ?_ _) | (with_reducible refine Kd.C_drew ?_))); (case side2 => exact (Kd.R_reads' HO257.out).2.1); (case side3 => repeat (first | exact (Kd.R_reads' HO_6.out).2.2 | (with_reducible refine Kd.C_alloc ?_ _) | (with_reducible refine Kd.C_drewN ?_ _) | (with_reducible refine Kd.C_drew ?_))); (case side4 => exact (Kd.R_reads' HO_6.out).2.1); rintro e w66 ⟨rfl, hb⟩; refine ⟨_, rfl, ?_⟩; have n0_ := Aside0.mk (Kd.R_below (by (with_reducible repeat (first | apply Kd.R_alloc | apply Kd.R_drewN | apply Kd.R_drew)); exact HO_6.out) hb); have n1_ := Aside0.mk (Kd.R_below (by (with_reducible repeat (first | apply Kd.R_alloc | apply Kd.R_drewN | apply Kd.R_drew)); exact HO_9.out) hb); have n2_ := Aside0.mk (Kd.R_below (by (with_reducible repeat (first | apply Kd.R_alloc | apply Kd.R_drewN | apply Kd.R_drew)); exact HO253.out) hb); have n3_ := Aside0.mk (Kd.R_below (by (with_reducible repeat (first | apply Kd.R_alloc | apply Kd.R_drewN | apply Kd.R_drew)); exact HO257.out) hb); have n4_ := Aside0.mk (below_step (by repeat (first | (with_reducible first | exact HB.out | apply below_alloc | apply pw_below_drewN | apply below_drew1) | exact HB.out)) hb); clear HO_6; clear HO_9; clear HO253; clear HO257; clear HB; have HO_6 := n0_; have HO_9 := n1_; have HO253 := n2_; have HO257 := n3_; have HB := n4_; clear n0_ n1_ n2_ n3_ n4_; (try clear hb); (try clear hb2); (try clear hk); (try clear hi)))
                          go_meet
                          case rel => exact ⟨_, (true), (by first | rfl | (simp; done) | (simp [bne]; done) | (simp [*]; done)), H', ⟨by have := HJ9.out; have := HJ30.out; first | omega | exact Nat.le_refl _⟩, ⟨by (with_reducible repeat (first | apply Kd.R_alloc | apply Kd.R_drewN | apply Kd.R_drew)); exact Kd.R_mono HO_9.out (fun _ hk => trivial)⟩, ⟨by repeat (first | (with_reducible first | exact HB.out | apply below_alloc | apply pw_below_drewN | apply below_drew1) | exact HB.out)⟩⟩
                      case rest =>
                        clear HC52
                        try clear c1
                        try clear c2
                        try clear p2
                        try clear c3
                        try clear c4
                        try clear c4b0
                        try clear c5
                        try clear c6
                        try clear c13
                        try clear c19
                        try clear c20
                        try clear c22
                        try clear c24
                        try clear c26
                        try clear c29
                        try clear c36
                        try clear c36b0
                        try clear c38
                        try clear c44
                        try clear c45
                        try clear c48
                        try clear c48b0
                        try clear c49
                        try clear c49b0
                        try clear c49b1
                        try clear c55
                        try clear c56
                        try clear c60
                        try clear p2
                        obtain ⟨kq, x92_51, rfl, HA, HJ51, HO_9, HB⟩ := hcut
                        have hl9_51 := (Kd.R_reads' HO_9.out).1
                        rw [hl9_51] at HO_9
                        (try simp only [hl9_51])
                        cases kq with
                        | zero => exact absurd HA.out (by simp [laws_FnExactPartitionMerge.j2])
                        | succ kj51 =>
                          have H := HA.out
                          clear HA
                          simp only [laws_FnExactPartitionMerge.j2] at H
                          by_cases c67 : x92_51 = true
                          · subst c67
                            have H1 : (none) = some r := by rw [if_pos rfl] at H; exact H
                            clear H
                            have H := H1
                            clear H1
                            exact absurd H (by simp)
                          · replace c67 := Bool.eq_false_iff.mpr c67
                            subst c67
                            have H1 : ((laws_heldIntervalS.f kj51 t249 1).bind fun t259 => (if t259 < 0 then (none) else (if t259 = t248 then (some true) else (none)))) = some r := by rw [if_neg (show ¬ (false = true) by decide)] at H; exact H
                            clear H
                            have H := H1
                            clear H1
                            replace H := Option.bind_eq_some_iff.mp H
                            obtain ⟨t259, A680, H⟩ := H
                            replace H : (if t259 < 0 then (none) else (if t259 = t248 then (some true) else (none))) = some r := H
                            have A68 := Aside0.mk A680
                            clear A680
                            by_cases c69 : t259 < 0
                            · rw [if_pos c69] at H
                              exact absurd H (by simp)
                            · rw [if_neg c69] at H
                              have c69b0 : decide (t259 < 0) = false := decide_eq_false c69
                              clear c69
                              by_cases c70 : t259 = t248
                              · rw [if_pos c70] at H
                                have c70b0 : (t259 == t248) = true := beq_iff_eq.mpr c70
                                have c70b1 : (t259 != t248) = false := bne_eq_false_iff_eq.mpr c70
                                clear c70
                                obtain rfl := Option.some.inj H
                                go_wp2_with (first | ((with_reducible refine gate_callee (f := 45) rfl ?_); refine goesL_ (some 95) rfl rfl Try.func45 (by kernel_rfl) rfl #[.slice Ao53 t249.length co53, .int .i64 1] rfl (by (try simp only [List.map_toArray, List.map_cons, List.map_nil]); first | done | rfl | (simp only [List.length_drop, List.length_take]; rfl)) ?_; (with_reducible refine (laws_heldIntervalS.calls kj51 _ _ t249 1 t259 _ ?side1 ?side2 A68.out).mono ?_); (case side1 => repeat (first | exact (Kd.R_reads' HO_9.out).2.2 | (with_reducible refine Kd.C_alloc ?_ _) | (with_reducible refine Kd.C_drewN ?_ _) | (with_reducible refine Kd.C_drew ?_))); (case side2 => exact (Kd.R_reads' HO_9.out).2.1); rintro e w71 ⟨rfl, hb⟩; refine ⟨_, rfl, ?_⟩; have n0_ := Aside0.mk (Kd.R_below (by (with_reducible repeat (first | apply Kd.R_alloc | apply Kd.R_drewN | apply Kd.R_drew)); exact HO_9.out) hb); have n1_ := Aside0.mk (below_step (by repeat (first | (with_reducible first | exact HB.out | apply below_alloc | apply pw_below_drewN | apply below_drew1) | exact HB.out)) hb); clear HO_9; clear HB; have HO_9 := n0_; have HB := n1_; clear n0_ n1_; (try clear hb); (try clear hb2); (try clear hk); (try clear hi)))
                                go_ret
                                exact ⟨by first | rfl | (simp only [u8_w_, w64_u8_]; done) | (simp only [u8_w_, w64_u8_]; rfl) | (simp [errW_none, errW_some] <;> rfl) | (simp [*, errW_none, errW_some] <;> rfl), by repeat (first | (with_reducible first | exact HB.out | apply below_alloc | apply pw_below_drewN | apply below_drew1) | exact HB.out)⟩
                              · rw [if_neg c70] at H
                                exact absurd H (by simp)
                    · rw [if_neg c49] at H
                      exact absurd H (by simp)
          · replace c29 := Bool.eq_false_iff.mpr c29
            subst c29
            have H1 : (none) = some r := by rw [if_neg (show ¬ (false = true) by decide)] at H; exact H
            clear H
            have H := H1
            clear H1
            exact absurd H (by simp)

end Go.Proofs.Yteomkhlhjhmbmaa.PFnExactPartitionMerge
