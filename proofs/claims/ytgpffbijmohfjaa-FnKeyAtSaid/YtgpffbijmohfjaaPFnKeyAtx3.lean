-- Written for this claim by a program of this session (wip/myprint in the proofs' repo)
import Derived.Test.YtgpffbijmohfjaaPFnKeyAtx0
import Derived.Test.YtgpffbijmohfjaaPFnKeyAtx1
import Derived.Test.YtgpffbijmohfjaaPFnKeyAtx2
namespace Go.Proofs.Ytgpffbijmohfjaa.PFnKeyAt
open Go.RowKit Go.Proofs.YtgpffbijmohfjaaW.PrintWords Go.Proofs.YtgpffbijmohfjaaW.PrintLast Go.Proofs.YtgpffbijmohfjaaW.PrintMore
attribute [local go_sem] max2_int min2_int max_two min_two max_three min_three max_four min_four max2_strs min2_strs   -- for this text's walks alone
set_option linter.unusedVariables false
set_option linter.unusedSimpArgs false

/-! ### laws_FnKeyAt: function 5 -/
def laws_FnKeyAt.f (k : Nat) (l0 : List Int) : Option (Bool) := if (l0.length : Int) > 1048576 then (some true) else ((spec_DrawKeyAt.f k l0).bind fun t149 => ((impl_KeyAt.f k t149).bind fun t150 => ((spec_KeyAt.f k t149).bind fun t151 => (if t150.toList = t151.toList then (if t150.toList = ([] : List UInt8) then (if t149 < 0 then ((laws_alive.f k).bind fun t152 => (some t152)) else (if t149 > 475253 then ((laws_alive.f k).bind fun t153 => (some t153)) else (none))) else ((impl_KeyRank.f k t150).bind fun t154 => (if t154 = t149 then (if t149 = 475253 then (some true) else ((impl_KeyAt.f k (wrap64 (t149 + 1))).bind fun t155 => ((impl_KeyNext.f k t150).bind fun t156 => (some (t155.toList == t156.toList))))) else (none)))) else (none)))))
theorem laws_FnKeyAt.mono : ∀ a0 k, LeO (laws_FnKeyAt.f k a0) (laws_FnKeyAt.f (k + 1) a0) := by
  intro a0 k
  unfold laws_FnKeyAt.f
  repeat' first
      | (with_reducible exact impl_KeyAt.mono _ _)
      | (with_reducible exact impl_KeyNext.mono _ _)
      | (with_reducible exact impl_KeyRank.mono _ _)
      | (with_reducible exact laws_alive.mono _)
      | (with_reducible exact spec_DrawKeyAt.mono _ _)
      | (with_reducible exact spec_KeyAt.mono _ _)
      | (with_reducible exact LeO.refl _)
      | (with_reducible exact LeO.none _)
      | (with_reducible refine LeO.ite ?_ ?_)
      | (with_reducible refine LeO.bind ?_ (fun _ => ?_))
      | exact impl_KeyAt.mono _ _
      | exact impl_KeyNext.mono _ _
      | exact impl_KeyRank.mono _ _
      | exact laws_alive.mono _
      | exact spec_DrawKeyAt.mono _ _
      | exact spec_KeyAt.mono _ _
      | exact LeO.none _
      | refine LeO.ite ?_ ?_
      | refine LeO.bind ?_ (fun _ => ?_)
set_option maxHeartbeats 8000000 in
set_option maxRecDepth 100000 in
theorem laws_FnKeyAt.calls (k : Nat) (A0 : Option Addr) (c0 : Nat) (l0 : List Int) (r : Bool) (w : World) (hr0 : Kd.C (Kd.int .u8) w A0 l0.length l0) (hc0 : l0.length ≤ c0) (h : laws_FnKeyAt.f k l0 = some r) :
    Calls Try.prog 5 #[.slice A0 l0.length c0] w fun e w' => e = .returned (.bool r) ∧ Below w.heap.size w w' := by
  have HR0 := Aside0.mk hr0
  have HC0 := Aside0.mk hc0
  clear hr0 hc0
  have HB := Aside0.mk (Below.refl w.heap.size w)
  have H : (if (l0.length : Int) > 1048576 then (some true) else ((spec_DrawKeyAt.f k l0).bind fun t149 => ((impl_KeyAt.f k t149).bind fun t150 => ((spec_KeyAt.f k t149).bind fun t151 => (if t150.toList = t151.toList then (if t150.toList = ([] : List UInt8) then (if t149 < 0 then ((laws_alive.f k).bind fun t152 => (some t152)) else (if t149 > 475253 then ((laws_alive.f k).bind fun t153 => (some t153)) else (none))) else ((impl_KeyRank.f k t150).bind fun t154 => (if t154 = t149 then (if t149 = 475253 then (some true) else ((impl_KeyAt.f k (wrap64 (t149 + 1))).bind fun t155 => ((impl_KeyNext.f k t150).bind fun t156 => (some (t155.toList == t156.toList))))) else (none)))) else (none)))))) = some r := h
  clear h
  by_cases c2 : (l0.length : Int) > 1048576
  · rw [if_pos c2] at H
    have c2b0 : decide (1048576 < (l0.length : Int)) = true := decide_eq_true c2
    have c2b1 : decide (1048576 < l0.length) = true := decide_eq_true (by omega)
    clear c2
    obtain rfl := Option.some.inj H
    go_enter Try.func5, Try.ntmps5
    go_wp2
    go_ret
    exact ⟨by first | rfl | (simp only [u8_w_, w64_u8_]; done) | (simp only [u8_w_, w64_u8_]; rfl) | (simp [errW_none, errW_some] <;> rfl) | (simp [*, errW_none, errW_some] <;> rfl), by repeat (first | (with_reducible first | exact HB.out | apply below_alloc | apply pw_below_drewN | apply below_drew1) | exact HB.out)⟩
  · rw [if_neg c2] at H
    have c2b0 : decide (1048576 < (l0.length : Int)) = false := decide_eq_false c2
    have c2b1 : decide (1048576 < l0.length) = false := decide_eq_false (by omega)
    clear c2
    replace H := Option.bind_eq_some_iff.mp H
    obtain ⟨t149, A30, H⟩ := H
    replace H : ((impl_KeyAt.f k t149).bind fun t150 => ((spec_KeyAt.f k t149).bind fun t151 => (if t150.toList = t151.toList then (if t150.toList = ([] : List UInt8) then (if t149 < 0 then ((laws_alive.f k).bind fun t152 => (some t152)) else (if t149 > 475253 then ((laws_alive.f k).bind fun t153 => (some t153)) else (none))) else ((impl_KeyRank.f k t150).bind fun t154 => (if t154 = t149 then (if t149 = 475253 then (some true) else ((impl_KeyAt.f k (wrap64 (t149 + 1))).bind fun t155 => ((impl_KeyNext.f k t150).bind fun t156 => (some (t155.toList == t156.toList))))) else (none)))) else (none)))) = some r := H
    have A3 := Aside0.mk A30
    clear A30
    replace H := Option.bind_eq_some_iff.mp H
    obtain ⟨t150, A40, H⟩ := H
    replace H : ((spec_KeyAt.f k t149).bind fun t151 => (if t150.toList = t151.toList then (if t150.toList = ([] : List UInt8) then (if t149 < 0 then ((laws_alive.f k).bind fun t152 => (some t152)) else (if t149 > 475253 then ((laws_alive.f k).bind fun t153 => (some t153)) else (none))) else ((impl_KeyRank.f k t150).bind fun t154 => (if t154 = t149 then (if t149 = 475253 then (some true) else ((impl_KeyAt.f k (wrap64 (t149 + 1))).bind fun t155 => ((impl_KeyNext.f k t150).bind fun t156 => (some (t155.toList == t156.toList))))) else (none)))) else (none))) = some r := H
    have A4 := Aside0.mk A40
    clear A40
    replace H := Option.bind_eq_some_iff.mp H
    obtain ⟨t151, A50, H⟩ := H
    replace H : (if t150.toList = t151.toList then (if t150.toList = ([] : List UInt8) then (if t149 < 0 then ((laws_alive.f k).bind fun t152 => (some t152)) else (if t149 > 475253 then ((laws_alive.f k).bind fun t153 => (some t153)) else (none))) else ((impl_KeyRank.f k t150).bind fun t154 => (if t154 = t149 then (if t149 = 475253 then (some true) else ((impl_KeyAt.f k (wrap64 (t149 + 1))).bind fun t155 => ((impl_KeyNext.f k t150).bind fun t156 => (some (t155.toList == t156.toList))))) else (none)))) else (none)) = some r := H
    have A5 := Aside0.mk A50
    clear A50
    by_cases c6 : t150.toList = t151.toList
    · rw [if_pos c6] at H
      have c6b0 : (t150.toList == t151.toList) = true := beq_iff_eq.mpr c6
      have c6b1 : (t150.toList != t151.toList) = false := bne_eq_false_iff_eq.mpr c6
      clear c6
      by_cases c7 : t150.toList = ([] : List UInt8)
      · rw [if_pos c7] at H
        have c7b0 : (t150.toList == ([] : List UInt8)) = true := beq_iff_eq.mpr c7
        have c7b1 : (t150.toList != ([] : List UInt8)) = false := bne_eq_false_iff_eq.mpr c7
        clear c7
        by_cases c8 : t149 < 0
        · rw [if_pos c8] at H
          have c8b0 : decide (t149 < 0) = true := decide_eq_true c8
          clear c8
          replace H := Option.bind_eq_some_iff.mp H
          obtain ⟨t152, A90, H⟩ := H
          replace H : (some t152) = some r := H
          have A9 := Aside0.mk A90
          clear A90
          obtain rfl := Option.some.inj H
          go_enter Try.func5, Try.ntmps5
          go_wp2_with (first | ((with_reducible refine gate_callee (f := 21) rfl ?_); refine goesL_ (some 9) rfl rfl Try.func21 (by kernel_rfl) rfl #[.slice A0 l0.length c0] rfl (by (try simp only [List.map_toArray, List.map_cons, List.map_nil]); first | done | rfl | (simp only [List.length_drop, List.length_take]; rfl)) ?_; (with_reducible refine (spec_DrawKeyAt.calls k _ _ l0 t149 _ ?side1 ?side2 A3.out).mono ?_); (case side1 => repeat (first | exact HR0.out | (with_reducible refine Kd.C_alloc ?_ _) | (with_reducible refine Kd.C_drewN ?_ _) | (with_reducible refine Kd.C_drew ?_))); (case side2 => exact HC0.out); rintro e w10 ⟨rfl, hb⟩; refine ⟨_, rfl, ?_⟩; have n0_ := Aside0.mk (below_step (by repeat (first | (with_reducible first | exact HB.out | apply below_alloc | apply pw_below_drewN | apply below_drew1) | exact HB.out)) hb); clear HB; have HB := n0_; clear n0_; (try clear hb); (try clear hb2); (try clear hk); (try clear hi)) | ((with_reducible refine gate_callee (f := 22) rfl ?_); refine goesL_ (some 11) rfl rfl Try.func22 (by kernel_rfl) rfl #[.int .i64 t149] rfl (by (try simp only [List.map_toArray, List.map_cons, List.map_nil]); first | done | rfl | (simp only [List.length_drop, List.length_take]; rfl)) ?_; (with_reducible refine (impl_KeyAt.calls k t149 t150 _ A4.out).mono ?_); rintro e w' ⟨rfl, ⟨nd, rfl⟩⟩; refine ⟨_, rfl, ?_⟩) | ((with_reducible refine gate_callee (f := 23) rfl ?_); refine goesL_ (some 14) rfl rfl Try.func23 (by kernel_rfl) rfl #[.int .i64 t149] rfl (by (try simp only [List.map_toArray, List.map_cons, List.map_nil]); first | done | rfl | (simp only [List.length_drop, List.length_take]; rfl)) ?_; (with_reducible refine (spec_KeyAt.calls k t149 t151 _ A5.out).mono ?_); rintro e w11 ⟨rfl, hb⟩; refine ⟨_, rfl, ?_⟩; have n0_ := Aside0.mk (below_step (by repeat (first | (with_reducible first | exact HB.out | apply below_alloc | apply pw_below_drewN | apply below_drew1) | exact HB.out)) hb); clear HB; have HB := n0_; clear n0_; (try clear hb); (try clear hb2); (try clear hk); (try clear hi)) | (go_at_call 16; (with_reducible refine (laws_alive.calls k  t152 _ A9.out).mono ?_); rintro e w12 ⟨rfl, hb⟩; have n0_ := Aside0.mk (below_step (by repeat (first | (with_reducible first | exact HB.out | apply below_alloc | apply pw_below_drewN | apply below_drew1) | exact HB.out)) hb); clear HB; have HB := n0_; clear n0_; (try clear hb); (try clear hb2); (try clear hk); (try clear hi)))
          go_ret
          exact ⟨by first | rfl | (simp only [u8_w_, w64_u8_]; done) | (simp only [u8_w_, w64_u8_]; rfl) | (simp [errW_none, errW_some] <;> rfl) | (simp [*, errW_none, errW_some] <;> rfl), by repeat (first | (with_reducible first | exact HB.out | apply below_alloc | apply pw_below_drewN | apply below_drew1) | exact HB.out)⟩
        · rw [if_neg c8] at H
          have c8b0 : decide (t149 < 0) = false := decide_eq_false c8
          clear c8
          by_cases c13 : t149 > 475253
          · rw [if_pos c13] at H
            have c13b0 : decide (475253 < t149) = true := decide_eq_true c13
            clear c13
            replace H := Option.bind_eq_some_iff.mp H
            obtain ⟨t153, A140, H⟩ := H
            replace H : (some t153) = some r := H
            have A14 := Aside0.mk A140
            clear A140
            obtain rfl := Option.some.inj H
            go_enter Try.func5, Try.ntmps5
            go_wp2_with (first | ((with_reducible refine gate_callee (f := 21) rfl ?_); refine goesL_ (some 9) rfl rfl Try.func21 (by kernel_rfl) rfl #[.slice A0 l0.length c0] rfl (by (try simp only [List.map_toArray, List.map_cons, List.map_nil]); first | done | rfl | (simp only [List.length_drop, List.length_take]; rfl)) ?_; (with_reducible refine (spec_DrawKeyAt.calls k _ _ l0 t149 _ ?side1 ?side2 A3.out).mono ?_); (case side1 => repeat (first | exact HR0.out | (with_reducible refine Kd.C_alloc ?_ _) | (with_reducible refine Kd.C_drewN ?_ _) | (with_reducible refine Kd.C_drew ?_))); (case side2 => exact HC0.out); rintro e w15 ⟨rfl, hb⟩; refine ⟨_, rfl, ?_⟩; have n0_ := Aside0.mk (below_step (by repeat (first | (with_reducible first | exact HB.out | apply below_alloc | apply pw_below_drewN | apply below_drew1) | exact HB.out)) hb); clear HB; have HB := n0_; clear n0_; (try clear hb); (try clear hb2); (try clear hk); (try clear hi)) | ((with_reducible refine gate_callee (f := 22) rfl ?_); refine goesL_ (some 11) rfl rfl Try.func22 (by kernel_rfl) rfl #[.int .i64 t149] rfl (by (try simp only [List.map_toArray, List.map_cons, List.map_nil]); first | done | rfl | (simp only [List.length_drop, List.length_take]; rfl)) ?_; (with_reducible refine (impl_KeyAt.calls k t149 t150 _ A4.out).mono ?_); rintro e w' ⟨rfl, ⟨nd, rfl⟩⟩; refine ⟨_, rfl, ?_⟩) | ((with_reducible refine gate_callee (f := 23) rfl ?_); refine goesL_ (some 14) rfl rfl Try.func23 (by kernel_rfl) rfl #[.int .i64 t149] rfl (by (try simp only [List.map_toArray, List.map_cons, List.map_nil]); first | done | rfl | (simp only [List.length_drop, List.length_take]; rfl)) ?_; (with_reducible refine (spec_KeyAt.calls k t149 t151 _ A5.out).mono ?_); rintro e w16 ⟨rfl, hb⟩; refine ⟨_, rfl, ?_⟩; have n0_ := Aside0.mk (below_step (by repeat (first | (with_reducible first | exact HB.out | apply below_alloc | apply pw_below_drewN | apply below_drew1) | exact HB.out)) hb); clear HB; have HB := n0_; clear n0_; (try clear hb); (try clear hb2); (try clear hk); (try clear hi)) | (go_at_call 16; (with_reducible refine (laws_alive.calls k  t153 _ A14.out).mono ?_); rintro e w17 ⟨rfl, hb⟩; have n0_ := Aside0.mk (below_step (by repeat (first | (with_reducible first | exact HB.out | apply below_alloc | apply pw_below_drewN | apply below_drew1) | exact HB.out)) hb); clear HB; have HB := n0_; clear n0_; (try clear hb); (try clear hb2); (try clear hk); (try clear hi)))
            go_ret
            exact ⟨by first | rfl | (simp only [u8_w_, w64_u8_]; done) | (simp only [u8_w_, w64_u8_]; rfl) | (simp [errW_none, errW_some] <;> rfl) | (simp [*, errW_none, errW_some] <;> rfl), by repeat (first | (with_reducible first | exact HB.out | apply below_alloc | apply pw_below_drewN | apply below_drew1) | exact HB.out)⟩
          · rw [if_neg c13] at H
            exact absurd H (by simp)
      · rw [if_neg c7] at H
        have c7b0 : (t150.toList == ([] : List UInt8)) = false := beq_eq_false_iff_ne.mpr c7
        have c7b1 : (t150.toList != ([] : List UInt8)) = true := bne_iff_ne.mpr c7
        replace H := Option.bind_eq_some_iff.mp H
        obtain ⟨t154, A180, H⟩ := H
        replace H : (if t154 = t149 then (if t149 = 475253 then (some true) else ((impl_KeyAt.f k (wrap64 (t149 + 1))).bind fun t155 => ((impl_KeyNext.f k t150).bind fun t156 => (some (t155.toList == t156.toList))))) else (none)) = some r := H
        have A18 := Aside0.mk A180
        clear A180
        by_cases c19 : t154 = t149
        · rw [if_pos c19] at H
          have c19b0 : (t154 == t149) = true := beq_iff_eq.mpr c19
          have c19b1 : (t154 != t149) = false := bne_eq_false_iff_eq.mpr c19
          clear c19
          by_cases c20 : t149 = 475253
          · rw [if_pos c20] at H
            have c20b0 : (t149 == 475253) = true := beq_iff_eq.mpr c20
            have c20b1 : (t149 != 475253) = false := bne_eq_false_iff_eq.mpr c20
            clear c20
            obtain rfl := Option.some.inj H
            go_enter Try.func5, Try.ntmps5
            go_wp2_with (first | ((with_reducible refine gate_callee (f := 21) rfl ?_); refine goesL_ (some 9) rfl rfl Try.func21 (by kernel_rfl) rfl #[.slice A0 l0.length c0] rfl (by (try simp only [List.map_toArray, List.map_cons, List.map_nil]); first | done | rfl | (simp only [List.length_drop, List.length_take]; rfl)) ?_; (with_reducible refine (spec_DrawKeyAt.calls k _ _ l0 t149 _ ?side1 ?side2 A3.out).mono ?_); (case side1 => repeat (first | exact HR0.out | (with_reducible refine Kd.C_alloc ?_ _) | (with_reducible refine Kd.C_drewN ?_ _) | (with_reducible refine Kd.C_drew ?_))); (case side2 => exact HC0.out); rintro e w21 ⟨rfl, hb⟩; refine ⟨_, rfl, ?_⟩; have n0_ := Aside0.mk (below_step (by repeat (first | (with_reducible first | exact HB.out | apply below_alloc | apply pw_below_drewN | apply below_drew1) | exact HB.out)) hb); clear HB; have HB := n0_; clear n0_; (try clear hb); (try clear hb2); (try clear hk); (try clear hi)) | ((with_reducible refine gate_callee (f := 22) rfl ?_); refine goesL_ (some 11) rfl rfl Try.func22 (by kernel_rfl) rfl #[.int .i64 t149] rfl (by (try simp only [List.map_toArray, List.map_cons, List.map_nil]); first | done | rfl | (simp only [List.length_drop, List.length_take]; rfl)) ?_; (with_reducible refine (impl_KeyAt.calls k t149 t150 _ A4.out).mono ?_); rintro e w' ⟨rfl, ⟨nd, rfl⟩⟩; refine ⟨_, rfl, ?_⟩) | ((with_reducible refine gate_callee (f := 23) rfl ?_); refine goesL_ (some 14) rfl rfl Try.func23 (by kernel_rfl) rfl #[.int .i64 t149] rfl (by (try simp only [List.map_toArray, List.map_cons, List.map_nil]); first | done | rfl | (simp only [List.length_drop, List.length_take]; rfl)) ?_; (with_reducible refine (spec_KeyAt.calls k t149 t151 _ A5.out).mono ?_); rintro e w22 ⟨rfl, hb⟩; refine ⟨_, rfl, ?_⟩; have n0_ := Aside0.mk (below_step (by repeat (first | (with_reducible first | exact HB.out | apply below_alloc | apply pw_below_drewN | apply below_drew1) | exact HB.out)) hb); clear HB; have HB := n0_; clear n0_; (try clear hb); (try clear hb2); (try clear hk); (try clear hi)) | ((with_reducible refine gate_callee (f := 20) rfl ?_); refine goesL_ (some 28) rfl rfl Try.func20 (by kernel_rfl) rfl #[.string t150] rfl (by (try simp only [List.map_toArray, List.map_cons, List.map_nil]); first | done | rfl | (simp only [List.length_drop, List.length_take]; rfl)) ?_; (with_reducible refine (impl_KeyRank.calls k t150 t154 _ A18.out).mono ?_); rintro e w23 ⟨rfl, hb⟩; refine ⟨_, rfl, ?_⟩; have n0_ := Aside0.mk (below_step (by repeat (first | (with_reducible first | exact HB.out | apply below_alloc | apply pw_below_drewN | apply below_drew1) | exact HB.out)) hb); clear HB; have HB := n0_; clear n0_; (try clear hb); (try clear hb2); (try clear hk); (try clear hi)))
            go_ret
            exact ⟨by first | rfl | (simp only [u8_w_, w64_u8_]; done) | (simp only [u8_w_, w64_u8_]; rfl) | (simp [errW_none, errW_some] <;> rfl) | (simp [*, errW_none, errW_some] <;> rfl), by repeat (first | (with_reducible first | exact HB.out | apply below_alloc | apply pw_below_drewN | apply below_drew1) | exact HB.out)⟩
          · rw [if_neg c20] at H
            have c20b0 : (t149 == 475253) = false := beq_eq_false_iff_ne.mpr c20
            have c20b1 : (t149 != 475253) = true := bne_iff_ne.mpr c20
            replace H := Option.bind_eq_some_iff.mp H
            obtain ⟨t155, A240, H⟩ := H
            replace H : ((impl_KeyNext.f k t150).bind fun t156 => (some (t155.toList == t156.toList))) = some r := H
            have A24 := Aside0.mk A240
            clear A240
            replace H := Option.bind_eq_some_iff.mp H
            obtain ⟨t156, A250, H⟩ := H
            replace H : (some (t155.toList == t156.toList)) = some r := H
            have A25 := Aside0.mk A250
            clear A250
            obtain rfl := Option.some.inj H
            go_enter Try.func5, Try.ntmps5
            go_wp2_with (first | ((with_reducible refine gate_callee (f := 21) rfl ?_); refine goesL_ (some 9) rfl rfl Try.func21 (by kernel_rfl) rfl #[.slice A0 l0.length c0] rfl (by (try simp only [List.map_toArray, List.map_cons, List.map_nil]); first | done | rfl | (simp only [List.length_drop, List.length_take]; rfl)) ?_; (with_reducible refine (spec_DrawKeyAt.calls k _ _ l0 t149 _ ?side1 ?side2 A3.out).mono ?_); (case side1 => repeat (first | exact HR0.out | (with_reducible refine Kd.C_alloc ?_ _) | (with_reducible refine Kd.C_drewN ?_ _) | (with_reducible refine Kd.C_drew ?_))); (case side2 => exact HC0.out); rintro e w26 ⟨rfl, hb⟩; refine ⟨_, rfl, ?_⟩; have n0_ := Aside0.mk (below_step (by repeat (first | (with_reducible first | exact HB.out | apply below_alloc | apply pw_below_drewN | apply below_drew1) | exact HB.out)) hb); clear HB; have HB := n0_; clear n0_; (try clear hb); (try clear hb2); (try clear hk); (try clear hi)) | ((with_reducible refine gate_callee (f := 22) rfl ?_); refine goesL_ (some 11) rfl rfl Try.func22 (by kernel_rfl) rfl #[.int .i64 t149] rfl (by (try simp only [List.map_toArray, List.map_cons, List.map_nil]); first | done | rfl | (simp only [List.length_drop, List.length_take]; rfl)) ?_; (with_reducible refine (impl_KeyAt.calls k t149 t150 _ A4.out).mono ?_); rintro e w' ⟨rfl, ⟨nd, rfl⟩⟩; refine ⟨_, rfl, ?_⟩) | ((with_reducible refine gate_callee (f := 23) rfl ?_); refine goesL_ (some 14) rfl rfl Try.func23 (by kernel_rfl) rfl #[.int .i64 t149] rfl (by (try simp only [List.map_toArray, List.map_cons, List.map_nil]); first | done | rfl | (simp only [List.length_drop, List.length_take]; rfl)) ?_; (with_reducible refine (spec_KeyAt.calls k t149 t151 _ A5.out).mono ?_); rintro e w27 ⟨rfl, hb⟩; refine ⟨_, rfl, ?_⟩; have n0_ := Aside0.mk (below_step (by repeat (first | (with_reducible first | exact HB.out | apply below_alloc | apply pw_below_drewN | apply below_drew1) | exact HB.out)) hb); clear HB; have HB := n0_; clear n0_; (try clear hb); (try clear hb2); (try clear hk); (try clear hi)) | ((with_reducible refine gate_callee (f := 20) rfl ?_); refine goesL_ (some 28) rfl rfl Try.func20 (by kernel_rfl) rfl #[.string t150] rfl (by (try simp only [List.map_toArray, List.map_cons, List.map_nil]); first | done | rfl | (simp only [List.length_drop, List.length_take]; rfl)) ?_; (with_reducible refine (impl_KeyRank.calls k t150 t154 _ A18.out).mono ?_); rintro e w28 ⟨rfl, hb⟩; refine ⟨_, rfl, ?_⟩; have n0_ := Aside0.mk (below_step (by repeat (first | (with_reducible first | exact HB.out | apply below_alloc | apply pw_below_drewN | apply below_drew1) | exact HB.out)) hb); clear HB; have HB := n0_; clear n0_; (try clear hb); (try clear hb2); (try clear hk); (try clear hi)) | (go_at_call 22; (with_reducible refine (impl_KeyAt.calls k (wrap64 (t149 + 1)) t155 _ A24.out).mono ?_); rintro e w' ⟨rfl, ⟨nd, rfl⟩⟩) | (go_at_call 24; (with_reducible refine (impl_KeyNext.calls k t150 t156 _ A25.out).mono ?_); rintro e w' ⟨rfl, ⟨nd, rfl⟩⟩))
            go_ret
            exact ⟨by first | rfl | (simp only [u8_w_, w64_u8_]; done) | (simp only [u8_w_, w64_u8_]; rfl) | (simp [errW_none, errW_some] <;> rfl) | (simp [*, errW_none, errW_some] <;> rfl), by repeat (first | (with_reducible first | exact HB.out | apply below_alloc | apply pw_below_drewN | apply below_drew1) | exact HB.out)⟩
        · rw [if_neg c19] at H
          exact absurd H (by simp)
    · rw [if_neg c6] at H
      exact absurd H (by simp)

/-- THE ONE PURE STATEMENT of laws_FnKeyAt: yours. -/
def laws_FnKeyAt.Pure : Prop := ∀ (l0 : List Int), l0.length ≤ maxLen → l0.length * 1 ≤ 140737488351232 → (∀ x ∈ l0, (Lit.int .u8 x).wf = true) → ∃ k, laws_FnKeyAt.f k l0 = some true
theorem laws_FnKeyAt.walk (P : laws_FnKeyAt.Pure) (a0 : Option Addr) (len0 cap0 : Nat) (z0 : List Int) (w : World) (w0 : (a0 = none ∧ len0 = 0 ∧ cap0 = 0 ∧ z0 = []) ∨ ∃ x, a0 = some x ∧ len0 ≤ cap0 ∧ cap0 ≤ maxLen ∧ z0.length = cap0 ∧ (∀ i, i < z0.length → w.cell? (x.add i) = some (.int .u8 (z0.getD i 0))) ∧ ∀ n ∈ z0, (Lit.int .u8 n).wf = true) (y0 : len0 * 1 ≤ 140737488351232) :
    Calls Try.prog 5 #[.slice a0 len0 cap0] w fun e w' => e = .returned (.bool true) ∧ Below w.heap.size w w' := by
  obtain ⟨l0, rfl, hr0, hm0, hw0, hc0⟩ := ReadsInt.ofRowC w0
  obtain ⟨k, h⟩ := P l0 hm0 y0 hw0
  refine (laws_FnKeyAt.calls k _ _ l0 true w (Kd.C_of_reads (d := (0 : Int)) (h1 := fun _ => rfl) hr0) hc0 h).mono ?_
  rintro e w' ⟨rfl, hd⟩
  exact ⟨rfl, hd⟩

end Go.Proofs.Ytgpffbijmohfjaa.PFnKeyAt
