-- Written for this claim by a program of this session (wip/myprint in the proofs' repo)
import Derived.Test.YtgpffbijmohfjaaPFnKeyOrderx0
import Derived.Test.YtgpffbijmohfjaaPFnKeyOrderx1
import Derived.Test.YtgpffbijmohfjaaPFnKeyOrderx2
namespace Go.Proofs.Ytgpffbijmohfjaa.PFnKeyOrder
open Go.RowKit Go.Proofs.YtgpffbijmohfjaaW.PrintWords Go.Proofs.YtgpffbijmohfjaaW.PrintLast Go.Proofs.YtgpffbijmohfjaaW.PrintMore
attribute [local go_sem] max2_int min2_int max_two min_two max_three min_three max_four min_four max2_strs min2_strs   -- for this text's walks alone
set_option linter.unusedVariables false
set_option linter.unusedSimpArgs false

/-! ### laws_FnKeyOrder: function 4 -/
def laws_FnKeyOrder.f (k : Nat) (l0 : List Int) : Option (Bool) := if (l0.length : Int) > 1048576 then (some true) else ((spec_DrawKeyOrder.f k l0).bind fun bt154 => ((impl_KeyOrder.f k bt154.1 bt154.2).bind fun t156 => ((spec_KeyOrder.f k bt154.1 bt154.2).bind fun t157 => (if t156 = t157 then (if t156 = 2 then ((impl_KeyValid.f k bt154.1).bind fun t158 => (if t158 = true then ((impl_KeyValid.f k bt154.2).bind fun t159 => (if t159 = true then (none) else ((laws_alive.f k).bind fun t160 => (some t160)))) else ((laws_alive.f k).bind fun t161 => (some t161)))) else ((impl_KeyRank.f k bt154.1).bind fun t162 => ((impl_KeyRank.f k bt154.2).bind fun t163 => ((impl_KeyOrder.f k bt154.2 bt154.1).bind fun t164 => (if t164 = (wrap64 (-t156)) then (if ((t156 == 0) == (bt154.1.toList == bt154.2.toList)) = true then (if ((decide (t156 < 0)) == (decide (t162 < t163))) = true then (some ((decide (t156 > 0)) == (decide (t162 > t163)))) else (none)) else (none)) else (none)))))) else (none)))))
theorem laws_FnKeyOrder.mono : ∀ a0 k, LeO (laws_FnKeyOrder.f k a0) (laws_FnKeyOrder.f (k + 1) a0) := by
  intro a0 k
  unfold laws_FnKeyOrder.f
  repeat' first
      | (with_reducible exact impl_KeyOrder.mono _ _ _)
      | (with_reducible exact impl_KeyRank.mono _ _)
      | (with_reducible exact impl_KeyValid.mono _ _)
      | (with_reducible exact laws_alive.mono _)
      | (with_reducible exact spec_DrawKeyOrder.mono _ _)
      | (with_reducible exact spec_KeyOrder.mono _ _ _)
      | (with_reducible exact LeO.refl _)
      | (with_reducible exact LeO.none _)
      | (with_reducible refine LeO.ite ?_ ?_)
      | (with_reducible refine LeO.bind ?_ (fun _ => ?_))
      | exact impl_KeyOrder.mono _ _ _
      | exact impl_KeyRank.mono _ _
      | exact impl_KeyValid.mono _ _
      | exact laws_alive.mono _
      | exact spec_DrawKeyOrder.mono _ _
      | exact spec_KeyOrder.mono _ _ _
      | exact LeO.none _
      | refine LeO.ite ?_ ?_
      | refine LeO.bind ?_ (fun _ => ?_)
set_option maxHeartbeats 8000000 in
set_option maxRecDepth 100000 in
theorem laws_FnKeyOrder.calls (k : Nat) (A0 : Option Addr) (c0 : Nat) (l0 : List Int) (r : Bool) (w : World) (hr0 : Kd.C (Kd.int .u8) w A0 l0.length l0) (hc0 : l0.length ≤ c0) (h : laws_FnKeyOrder.f k l0 = some r) :
    Calls Try.prog 4 #[.slice A0 l0.length c0] w fun e w' => e = .returned (.bool r) ∧ Below w.heap.size w w' := by
  have HR0 := Aside0.mk hr0
  have HC0 := Aside0.mk hc0
  clear hr0 hc0
  have HB := Aside0.mk (Below.refl w.heap.size w)
  have H : (if (l0.length : Int) > 1048576 then (some true) else ((spec_DrawKeyOrder.f k l0).bind fun bt154 => ((impl_KeyOrder.f k bt154.1 bt154.2).bind fun t156 => ((spec_KeyOrder.f k bt154.1 bt154.2).bind fun t157 => (if t156 = t157 then (if t156 = 2 then ((impl_KeyValid.f k bt154.1).bind fun t158 => (if t158 = true then ((impl_KeyValid.f k bt154.2).bind fun t159 => (if t159 = true then (none) else ((laws_alive.f k).bind fun t160 => (some t160)))) else ((laws_alive.f k).bind fun t161 => (some t161)))) else ((impl_KeyRank.f k bt154.1).bind fun t162 => ((impl_KeyRank.f k bt154.2).bind fun t163 => ((impl_KeyOrder.f k bt154.2 bt154.1).bind fun t164 => (if t164 = (wrap64 (-t156)) then (if ((t156 == 0) == (bt154.1.toList == bt154.2.toList)) = true then (if ((decide (t156 < 0)) == (decide (t162 < t163))) = true then (some ((decide (t156 > 0)) == (decide (t162 > t163)))) else (none)) else (none)) else (none)))))) else (none)))))) = some r := h
  clear h
  by_cases c2 : (l0.length : Int) > 1048576
  · rw [if_pos c2] at H
    have c2b0 : decide (1048576 < (l0.length : Int)) = true := decide_eq_true c2
    have c2b1 : decide (1048576 < l0.length) = true := decide_eq_true (by omega)
    clear c2
    obtain rfl := Option.some.inj H
    go_enter Try.func4, Try.ntmps4
    go_wp2
    go_ret
    exact ⟨by first | rfl | (simp only [u8_w_, w64_u8_]; done) | (simp only [u8_w_, w64_u8_]; rfl) | (simp [errW_none, errW_some] <;> rfl) | (simp [*, errW_none, errW_some] <;> rfl), by repeat (first | (with_reducible first | exact HB.out | apply below_alloc | apply pw_below_drewN | apply below_drew1) | exact HB.out)⟩
  · rw [if_neg c2] at H
    have c2b0 : decide (1048576 < (l0.length : Int)) = false := decide_eq_false c2
    have c2b1 : decide (1048576 < l0.length) = false := decide_eq_false (by omega)
    clear c2
    replace H := Option.bind_eq_some_iff.mp H
    obtain ⟨⟨t154, t155⟩, A30, H⟩ := H
    replace H : ((impl_KeyOrder.f k t154 t155).bind fun t156 => ((spec_KeyOrder.f k t154 t155).bind fun t157 => (if t156 = t157 then (if t156 = 2 then ((impl_KeyValid.f k t154).bind fun t158 => (if t158 = true then ((impl_KeyValid.f k t155).bind fun t159 => (if t159 = true then (none) else ((laws_alive.f k).bind fun t160 => (some t160)))) else ((laws_alive.f k).bind fun t161 => (some t161)))) else ((impl_KeyRank.f k t154).bind fun t162 => ((impl_KeyRank.f k t155).bind fun t163 => ((impl_KeyOrder.f k t155 t154).bind fun t164 => (if t164 = (wrap64 (-t156)) then (if ((t156 == 0) == (t154.toList == t155.toList)) = true then (if ((decide (t156 < 0)) == (decide (t162 < t163))) = true then (some ((decide (t156 > 0)) == (decide (t162 > t163)))) else (none)) else (none)) else (none)))))) else (none)))) = some r := H
    have A3 := Aside0.mk A30
    clear A30
    replace H := Option.bind_eq_some_iff.mp H
    obtain ⟨t156, A40, H⟩ := H
    replace H : ((spec_KeyOrder.f k t154 t155).bind fun t157 => (if t156 = t157 then (if t156 = 2 then ((impl_KeyValid.f k t154).bind fun t158 => (if t158 = true then ((impl_KeyValid.f k t155).bind fun t159 => (if t159 = true then (none) else ((laws_alive.f k).bind fun t160 => (some t160)))) else ((laws_alive.f k).bind fun t161 => (some t161)))) else ((impl_KeyRank.f k t154).bind fun t162 => ((impl_KeyRank.f k t155).bind fun t163 => ((impl_KeyOrder.f k t155 t154).bind fun t164 => (if t164 = (wrap64 (-t156)) then (if ((t156 == 0) == (t154.toList == t155.toList)) = true then (if ((decide (t156 < 0)) == (decide (t162 < t163))) = true then (some ((decide (t156 > 0)) == (decide (t162 > t163)))) else (none)) else (none)) else (none)))))) else (none))) = some r := H
    have A4 := Aside0.mk A40
    clear A40
    replace H := Option.bind_eq_some_iff.mp H
    obtain ⟨t157, A50, H⟩ := H
    replace H : (if t156 = t157 then (if t156 = 2 then ((impl_KeyValid.f k t154).bind fun t158 => (if t158 = true then ((impl_KeyValid.f k t155).bind fun t159 => (if t159 = true then (none) else ((laws_alive.f k).bind fun t160 => (some t160)))) else ((laws_alive.f k).bind fun t161 => (some t161)))) else ((impl_KeyRank.f k t154).bind fun t162 => ((impl_KeyRank.f k t155).bind fun t163 => ((impl_KeyOrder.f k t155 t154).bind fun t164 => (if t164 = (wrap64 (-t156)) then (if ((t156 == 0) == (t154.toList == t155.toList)) = true then (if ((decide (t156 < 0)) == (decide (t162 < t163))) = true then (some ((decide (t156 > 0)) == (decide (t162 > t163)))) else (none)) else (none)) else (none)))))) else (none)) = some r := H
    have A5 := Aside0.mk A50
    clear A50
    by_cases c6 : t156 = t157
    · rw [if_pos c6] at H
      have c6b0 : (t156 == t157) = true := beq_iff_eq.mpr c6
      have c6b1 : (t156 != t157) = false := bne_eq_false_iff_eq.mpr c6
      clear c6
      by_cases c7 : t156 = 2
      · rw [if_pos c7] at H
        have c7b0 : (t156 == 2) = true := beq_iff_eq.mpr c7
        have c7b1 : (t156 != 2) = false := bne_eq_false_iff_eq.mpr c7
        clear c7
        replace H := Option.bind_eq_some_iff.mp H
        obtain ⟨t158, A80, H⟩ := H
        replace H : (if t158 = true then ((impl_KeyValid.f k t155).bind fun t159 => (if t159 = true then (none) else ((laws_alive.f k).bind fun t160 => (some t160)))) else ((laws_alive.f k).bind fun t161 => (some t161))) = some r := H
        have A8 := Aside0.mk A80
        clear A80
        by_cases c9 : t158 = true
        · subst c9
          have H1 : ((impl_KeyValid.f k t155).bind fun t159 => (if t159 = true then (none) else ((laws_alive.f k).bind fun t160 => (some t160)))) = some r := by rw [if_pos rfl] at H; exact H
          clear H
          have H := H1
          clear H1
          replace H := Option.bind_eq_some_iff.mp H
          obtain ⟨t159, A100, H⟩ := H
          replace H : (if t159 = true then (none) else ((laws_alive.f k).bind fun t160 => (some t160))) = some r := H
          have A10 := Aside0.mk A100
          clear A100
          by_cases c11 : t159 = true
          · subst c11
            have H1 : (none) = some r := by rw [if_pos rfl] at H; exact H
            clear H
            have H := H1
            clear H1
            exact absurd H (by simp)
          · replace c11 := Bool.eq_false_iff.mpr c11
            subst c11
            have H1 : ((laws_alive.f k).bind fun t160 => (some t160)) = some r := by rw [if_neg (show ¬ (false = true) by decide)] at H; exact H
            clear H
            have H := H1
            clear H1
            replace H := Option.bind_eq_some_iff.mp H
            obtain ⟨t160, A120, H⟩ := H
            replace H : (some t160) = some r := H
            have A12 := Aside0.mk A120
            clear A120
            obtain rfl := Option.some.inj H
            go_enter Try.func4, Try.ntmps4
            go_wp2_with (first | ((with_reducible refine gate_callee (f := 17) rfl ?_); refine goesL_ (some 13) rfl rfl Try.func17 (by kernel_rfl) rfl #[.slice A0 l0.length c0] rfl (by (try simp only [List.map_toArray, List.map_cons, List.map_nil]); first | done | rfl | (simp only [List.length_drop, List.length_take]; rfl)) ?_; (with_reducible refine (spec_DrawKeyOrder.calls k _ _ l0 t154 t155 _ ?side1 ?side2 A3.out).mono ?_); (case side1 => repeat (first | exact HR0.out | (with_reducible refine Kd.C_alloc ?_ _) | (with_reducible refine Kd.C_drewN ?_ _) | (with_reducible refine Kd.C_drew ?_))); (case side2 => exact HC0.out); rintro e w13 ⟨rfl, hb⟩; refine ⟨_, rfl, ?_⟩; have n0_ := Aside0.mk (below_step (by repeat (first | (with_reducible first | exact HB.out | apply below_alloc | apply pw_below_drewN | apply below_drew1) | exact HB.out)) hb); clear HB; have HB := n0_; clear n0_; (try clear hb); (try clear hb2); (try clear hk); (try clear hi)) | ((with_reducible refine gate_callee (f := 18) rfl ?_); refine goesL_ (some 18) rfl rfl Try.func18 (by kernel_rfl) rfl #[.string t154, .string t155] rfl (by (try simp only [List.map_toArray, List.map_cons, List.map_nil]); first | done | rfl | (simp only [List.length_drop, List.length_take]; rfl)) ?_; (with_reducible refine (impl_KeyOrder.calls k t154 t155 t156 _ A4.out).mono ?_); rintro e w' ⟨rfl, ⟨nd, rfl⟩⟩; refine ⟨_, rfl, ?_⟩) | ((with_reducible refine gate_callee (f := 19) rfl ?_); refine goesL_ (some 22) rfl rfl Try.func19 (by kernel_rfl) rfl #[.string t154, .string t155] rfl (by (try simp only [List.map_toArray, List.map_cons, List.map_nil]); first | done | rfl | (simp only [List.length_drop, List.length_take]; rfl)) ?_; (with_reducible refine (spec_KeyOrder.calls k t154 t155 t157 _ A5.out).mono ?_); rintro e w' ⟨rfl, ⟨nd, rfl⟩⟩; refine ⟨_, rfl, ?_⟩) | ((with_reducible refine gate_callee (f := 14) rfl ?_); refine goesL_ (some 27) rfl rfl Try.func14 (by kernel_rfl) rfl #[.string t154] rfl (by (try simp only [List.map_toArray, List.map_cons, List.map_nil]); first | done | rfl | (simp only [List.length_drop, List.length_take]; rfl)) ?_; (with_reducible refine (impl_KeyValid.calls k t154 true _ A8.out).mono ?_); rintro e w' ⟨rfl, ⟨nd, rfl⟩⟩; refine ⟨_, rfl, ?_⟩) | (go_at_call 14; (with_reducible refine (impl_KeyValid.calls k t155 false _ A10.out).mono ?_); rintro e w' ⟨rfl, ⟨nd, rfl⟩⟩) | (go_at_call 16; (with_reducible refine (laws_alive.calls k  t160 _ A12.out).mono ?_); rintro e w14 ⟨rfl, hb⟩; have n0_ := Aside0.mk (below_step (by repeat (first | (with_reducible first | exact HB.out | apply below_alloc | apply pw_below_drewN | apply below_drew1) | exact HB.out)) hb); clear HB; have HB := n0_; clear n0_; (try clear hb); (try clear hb2); (try clear hk); (try clear hi)))
            go_ret
            exact ⟨by first | rfl | (simp only [u8_w_, w64_u8_]; done) | (simp only [u8_w_, w64_u8_]; rfl) | (simp [errW_none, errW_some] <;> rfl) | (simp [*, errW_none, errW_some] <;> rfl), by repeat (first | (with_reducible first | exact HB.out | apply below_alloc | apply pw_below_drewN | apply below_drew1) | exact HB.out)⟩
        · replace c9 := Bool.eq_false_iff.mpr c9
          subst c9
          have H1 : ((laws_alive.f k).bind fun t161 => (some t161)) = some r := by rw [if_neg (show ¬ (false = true) by decide)] at H; exact H
          clear H
          have H := H1
          clear H1
          replace H := Option.bind_eq_some_iff.mp H
          obtain ⟨t161, A150, H⟩ := H
          replace H : (some t161) = some r := H
          have A15 := Aside0.mk A150
          clear A150
          obtain rfl := Option.some.inj H
          go_enter Try.func4, Try.ntmps4
          go_wp2_with (first | ((with_reducible refine gate_callee (f := 17) rfl ?_); refine goesL_ (some 13) rfl rfl Try.func17 (by kernel_rfl) rfl #[.slice A0 l0.length c0] rfl (by (try simp only [List.map_toArray, List.map_cons, List.map_nil]); first | done | rfl | (simp only [List.length_drop, List.length_take]; rfl)) ?_; (with_reducible refine (spec_DrawKeyOrder.calls k _ _ l0 t154 t155 _ ?side1 ?side2 A3.out).mono ?_); (case side1 => repeat (first | exact HR0.out | (with_reducible refine Kd.C_alloc ?_ _) | (with_reducible refine Kd.C_drewN ?_ _) | (with_reducible refine Kd.C_drew ?_))); (case side2 => exact HC0.out); rintro e w16 ⟨rfl, hb⟩; refine ⟨_, rfl, ?_⟩; have n0_ := Aside0.mk (below_step (by repeat (first | (with_reducible first | exact HB.out | apply below_alloc | apply pw_below_drewN | apply below_drew1) | exact HB.out)) hb); clear HB; have HB := n0_; clear n0_; (try clear hb); (try clear hb2); (try clear hk); (try clear hi)) | ((with_reducible refine gate_callee (f := 18) rfl ?_); refine goesL_ (some 18) rfl rfl Try.func18 (by kernel_rfl) rfl #[.string t154, .string t155] rfl (by (try simp only [List.map_toArray, List.map_cons, List.map_nil]); first | done | rfl | (simp only [List.length_drop, List.length_take]; rfl)) ?_; (with_reducible refine (impl_KeyOrder.calls k t154 t155 t156 _ A4.out).mono ?_); rintro e w' ⟨rfl, ⟨nd, rfl⟩⟩; refine ⟨_, rfl, ?_⟩) | ((with_reducible refine gate_callee (f := 19) rfl ?_); refine goesL_ (some 22) rfl rfl Try.func19 (by kernel_rfl) rfl #[.string t154, .string t155] rfl (by (try simp only [List.map_toArray, List.map_cons, List.map_nil]); first | done | rfl | (simp only [List.length_drop, List.length_take]; rfl)) ?_; (with_reducible refine (spec_KeyOrder.calls k t154 t155 t157 _ A5.out).mono ?_); rintro e w' ⟨rfl, ⟨nd, rfl⟩⟩; refine ⟨_, rfl, ?_⟩) | ((with_reducible refine gate_callee (f := 14) rfl ?_); refine goesL_ (some 27) rfl rfl Try.func14 (by kernel_rfl) rfl #[.string t154] rfl (by (try simp only [List.map_toArray, List.map_cons, List.map_nil]); first | done | rfl | (simp only [List.length_drop, List.length_take]; rfl)) ?_; (with_reducible refine (impl_KeyValid.calls k t154 false _ A8.out).mono ?_); rintro e w' ⟨rfl, ⟨nd, rfl⟩⟩; refine ⟨_, rfl, ?_⟩) | (go_at_call 16; (with_reducible refine (laws_alive.calls k  t161 _ A15.out).mono ?_); rintro e w17 ⟨rfl, hb⟩; have n0_ := Aside0.mk (below_step (by repeat (first | (with_reducible first | exact HB.out | apply below_alloc | apply pw_below_drewN | apply below_drew1) | exact HB.out)) hb); clear HB; have HB := n0_; clear n0_; (try clear hb); (try clear hb2); (try clear hk); (try clear hi)))
          go_ret
          exact ⟨by first | rfl | (simp only [u8_w_, w64_u8_]; done) | (simp only [u8_w_, w64_u8_]; rfl) | (simp [errW_none, errW_some] <;> rfl) | (simp [*, errW_none, errW_some] <;> rfl), by repeat (first | (with_reducible first | exact HB.out | apply below_alloc | apply pw_below_drewN | apply below_drew1) | exact HB.out)⟩
      · rw [if_neg c7] at H
        have c7b0 : (t156 == 2) = false := beq_eq_false_iff_ne.mpr c7
        have c7b1 : (t156 != 2) = true := bne_iff_ne.mpr c7
        replace H := Option.bind_eq_some_iff.mp H
        obtain ⟨t162, A180, H⟩ := H
        replace H : ((impl_KeyRank.f k t155).bind fun t163 => ((impl_KeyOrder.f k t155 t154).bind fun t164 => (if t164 = (wrap64 (-t156)) then (if ((t156 == 0) == (t154.toList == t155.toList)) = true then (if ((decide (t156 < 0)) == (decide (t162 < t163))) = true then (some ((decide (t156 > 0)) == (decide (t162 > t163)))) else (none)) else (none)) else (none)))) = some r := H
        have A18 := Aside0.mk A180
        clear A180
        replace H := Option.bind_eq_some_iff.mp H
        obtain ⟨t163, A190, H⟩ := H
        replace H : ((impl_KeyOrder.f k t155 t154).bind fun t164 => (if t164 = (wrap64 (-t156)) then (if ((t156 == 0) == (t154.toList == t155.toList)) = true then (if ((decide (t156 < 0)) == (decide (t162 < t163))) = true then (some ((decide (t156 > 0)) == (decide (t162 > t163)))) else (none)) else (none)) else (none))) = some r := H
        have A19 := Aside0.mk A190
        clear A190
        replace H := Option.bind_eq_some_iff.mp H
        obtain ⟨t164, A200, H⟩ := H
        replace H : (if t164 = (wrap64 (-t156)) then (if ((t156 == 0) == (t154.toList == t155.toList)) = true then (if ((decide (t156 < 0)) == (decide (t162 < t163))) = true then (some ((decide (t156 > 0)) == (decide (t162 > t163)))) else (none)) else (none)) else (none)) = some r := H
        have A20 := Aside0.mk A200
        clear A200
        by_cases c21 : t164 = (wrap64 (-t156))
        · rw [if_pos c21] at H
          have c21b0 : (t164 == (wrap64 (-t156))) = true := beq_iff_eq.mpr c21
          have c21b1 : (t164 != (wrap64 (-t156))) = false := bne_eq_false_iff_eq.mpr c21
          clear c21
          by_cases c22 : ((t156 == 0) == (t154.toList == t155.toList)) = true
          · rw [if_pos c22] at H
            have c22b0 : ((t156 == 0) == (t154.toList == t155.toList)) = true := c22
            (try (have c22b1 : decide ((t156 == 0) = (t154.toList == t155.toList)) = true := by simpa using c22))
            (try (have c22b2 : ((t156 == 0) == (t154.toList == t155.toList)) = true := by simpa using c22))
            clear c22
            by_cases c23 : ((decide (t156 < 0)) == (decide (t162 < t163))) = true
            · rw [if_pos c23] at H
              have c23b0 : ((decide (t156 < 0)) == (decide (t162 < t163))) = true := c23
              (try (have c23b1 : decide ((decide (t156 < 0)) = (decide (t162 < t163))) = true := by simpa using c23))
              (try (have c23b2 : ((decide (t156 < 0)) == (decide (t162 < t163))) = true := by simpa using c23))
              clear c23
              obtain rfl := Option.some.inj H
              go_enter Try.func4, Try.ntmps4
              go_wp2_with (first | ((with_reducible refine gate_callee (f := 17) rfl ?_); refine goesL_ (some 13) rfl rfl Try.func17 (by kernel_rfl) rfl #[.slice A0 l0.length c0] rfl (by (try simp only [List.map_toArray, List.map_cons, List.map_nil]); first | done | rfl | (simp only [List.length_drop, List.length_take]; rfl)) ?_; (with_reducible refine (spec_DrawKeyOrder.calls k _ _ l0 t154 t155 _ ?side1 ?side2 A3.out).mono ?_); (case side1 => repeat (first | exact HR0.out | (with_reducible refine Kd.C_alloc ?_ _) | (with_reducible refine Kd.C_drewN ?_ _) | (with_reducible refine Kd.C_drew ?_))); (case side2 => exact HC0.out); rintro e w24 ⟨rfl, hb⟩; refine ⟨_, rfl, ?_⟩; have n0_ := Aside0.mk (below_step (by repeat (first | (with_reducible first | exact HB.out | apply below_alloc | apply pw_below_drewN | apply below_drew1) | exact HB.out)) hb); clear HB; have HB := n0_; clear n0_; (try clear hb); (try clear hb2); (try clear hk); (try clear hi)) | ((with_reducible refine gate_callee (f := 18) rfl ?_); refine goesL_ (some 18) rfl rfl Try.func18 (by kernel_rfl) rfl #[.string t154, .string t155] rfl (by (try simp only [List.map_toArray, List.map_cons, List.map_nil]); first | done | rfl | (simp only [List.length_drop, List.length_take]; rfl)) ?_; (with_reducible refine (impl_KeyOrder.calls k t154 t155 t156 _ A4.out).mono ?_); rintro e w' ⟨rfl, ⟨nd, rfl⟩⟩; refine ⟨_, rfl, ?_⟩) | ((with_reducible refine gate_callee (f := 19) rfl ?_); refine goesL_ (some 22) rfl rfl Try.func19 (by kernel_rfl) rfl #[.string t154, .string t155] rfl (by (try simp only [List.map_toArray, List.map_cons, List.map_nil]); first | done | rfl | (simp only [List.length_drop, List.length_take]; rfl)) ?_; (with_reducible refine (spec_KeyOrder.calls k t154 t155 t157 _ A5.out).mono ?_); rintro e w' ⟨rfl, ⟨nd, rfl⟩⟩; refine ⟨_, rfl, ?_⟩) | ((with_reducible refine gate_callee (f := 20) rfl ?_); refine goesL_ (some 38) rfl rfl Try.func20 (by kernel_rfl) rfl #[.string t154] rfl (by (try simp only [List.map_toArray, List.map_cons, List.map_nil]); first | done | rfl | (simp only [List.length_drop, List.length_take]; rfl)) ?_; (with_reducible refine (impl_KeyRank.calls k t154 t162 _ A18.out).mono ?_); rintro e w25 ⟨rfl, hb⟩; refine ⟨_, rfl, ?_⟩; have n0_ := Aside0.mk (below_step (by repeat (first | (with_reducible first | exact HB.out | apply below_alloc | apply pw_below_drewN | apply below_drew1) | exact HB.out)) hb); clear HB; have HB := n0_; clear n0_; (try clear hb); (try clear hb2); (try clear hk); (try clear hi)) | ((with_reducible refine gate_callee (f := 20) rfl ?_); refine goesL_ (some 40) rfl rfl Try.func20 (by kernel_rfl) rfl #[.string t155] rfl (by (try simp only [List.map_toArray, List.map_cons, List.map_nil]); first | done | rfl | (simp only [List.length_drop, List.length_take]; rfl)) ?_; (with_reducible refine (impl_KeyRank.calls k t155 t163 _ A19.out).mono ?_); rintro e w26 ⟨rfl, hb⟩; refine ⟨_, rfl, ?_⟩; have n0_ := Aside0.mk (below_step (by repeat (first | (with_reducible first | exact HB.out | apply below_alloc | apply pw_below_drewN | apply below_drew1) | exact HB.out)) hb); clear HB; have HB := n0_; clear n0_; (try clear hb); (try clear hb2); (try clear hk); (try clear hi)) | ((with_reducible refine gate_callee (f := 18) rfl ?_); refine goesL_ (some 43) rfl rfl Try.func18 (by kernel_rfl) rfl #[.string t155, .string t154] rfl (by (try simp only [List.map_toArray, List.map_cons, List.map_nil]); first | done | rfl | (simp only [List.length_drop, List.length_take]; rfl)) ?_; (with_reducible refine (impl_KeyOrder.calls k t155 t154 t164 _ A20.out).mono ?_); rintro e w' ⟨rfl, ⟨nd, rfl⟩⟩; refine ⟨_, rfl, ?_⟩))
              go_ret
              exact ⟨by first | rfl | (simp only [u8_w_, w64_u8_]; done) | (simp only [u8_w_, w64_u8_]; rfl) | (simp [errW_none, errW_some] <;> rfl) | (simp [*, errW_none, errW_some] <;> rfl), by repeat (first | (with_reducible first | exact HB.out | apply below_alloc | apply pw_below_drewN | apply below_drew1) | exact HB.out)⟩
            · rw [if_neg c23] at H
              exact absurd H (by simp)
          · rw [if_neg c22] at H
            exact absurd H (by simp)
        · rw [if_neg c21] at H
          exact absurd H (by simp)
    · rw [if_neg c6] at H
      exact absurd H (by simp)

/-- THE ONE PURE STATEMENT of laws_FnKeyOrder: yours. -/
def laws_FnKeyOrder.Pure : Prop := ∀ (l0 : List Int), l0.length ≤ maxLen → l0.length * 1 ≤ 140737488351232 → (∀ x ∈ l0, (Lit.int .u8 x).wf = true) → ∃ k, laws_FnKeyOrder.f k l0 = some true
theorem laws_FnKeyOrder.walk (P : laws_FnKeyOrder.Pure) (a0 : Option Addr) (len0 cap0 : Nat) (z0 : List Int) (w : World) (w0 : (a0 = none ∧ len0 = 0 ∧ cap0 = 0 ∧ z0 = []) ∨ ∃ x, a0 = some x ∧ len0 ≤ cap0 ∧ cap0 ≤ maxLen ∧ z0.length = cap0 ∧ (∀ i, i < z0.length → w.cell? (x.add i) = some (.int .u8 (z0.getD i 0))) ∧ ∀ n ∈ z0, (Lit.int .u8 n).wf = true) (y0 : len0 * 1 ≤ 140737488351232) :
    Calls Try.prog 4 #[.slice a0 len0 cap0] w fun e w' => e = .returned (.bool true) ∧ Below w.heap.size w w' := by
  obtain ⟨l0, rfl, hr0, hm0, hw0, hc0⟩ := ReadsInt.ofRowC w0
  obtain ⟨k, h⟩ := P l0 hm0 y0 hw0
  refine (laws_FnKeyOrder.calls k _ _ l0 true w (Kd.C_of_reads (d := (0 : Int)) (h1 := fun _ => rfl) hr0) hc0 h).mono ?_
  rintro e w' ⟨rfl, hd⟩
  exact ⟨rfl, hd⟩

end Go.Proofs.Ytgpffbijmohfjaa.PFnKeyOrder
