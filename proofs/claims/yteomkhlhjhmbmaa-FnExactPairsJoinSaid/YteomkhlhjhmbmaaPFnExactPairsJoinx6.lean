-- Written for this claim by a program of this session (wip/myprint in the proofs' repo)
import Derived.Test.YteomkhlhjhmbmaaPFnExactPairsJoinx0
import Derived.Test.YteomkhlhjhmbmaaPFnExactPairsJoinx1
import Derived.Test.YteomkhlhjhmbmaaPFnExactPairsJoinx4
import Derived.Test.YteomkhlhjhmbmaaPFnExactPairsJoinx5
namespace Go.Proofs.Yteomkhlhjhmbmaa.PFnExactPairsJoin
open Go.RowKit Go.Proofs.YteomkhlhjhmbmaaW.PrintWords Go.Proofs.YteomkhlhjhmbmaaW.PrintLast Go.Proofs.YteomkhlhjhmbmaaW.PrintMore
attribute [local go_sem] max2_int min2_int max_two min_two max_three min_three max_four min_four max2_strs min2_strs   -- for this text's walks alone
set_option linter.unusedVariables false
set_option linter.unusedSimpArgs false

/-! ### laws_FnExactPairsJoin: function 5 -/
mutual
def laws_FnExactPairsJoin.j0 : Nat → List (S69) → List (S69) → List (S71) → Bool → List (S71) → List (S71) → List (S71) → Bool → Bool → Option (Bool)
  | 0, _, _, _, _, _, _, _, _, _ => none
  | k + 1, x0, x1, x6, x7, x8, x9, x10, x11, x53 => if x53 = true then (none) else ((laws_toPairS.f k x0).bind fun t190 => ((laws_eqPairS.f k x8 t190).bind fun t193 => (if t193 = true then ((laws_toPairS.f k x1).bind fun t194 => ((laws_eqPairS.f k x9 t194).bind fun t197 => (if t197 = true then ((laws_markPairS.f k x8 1).bind fun bt198 => ((laws_markPairS.f k x9 bt198.1).bind fun bt200 => (if bt200.1 < 0 then (laws_FnExactPairsJoin.j1 k x0 x1 x6 x7 x10 true) else ((laws_eqPairS.f k x10 x6).bind fun t202 => (if t202 = true then (laws_FnExactPairsJoin.j1 k x0 x1 x6 x7 x10 (x11 != x7)) else (laws_FnExactPairsJoin.j1 k x0 x1 x6 x7 x10 true)))))) else (none)))) else (none))))
def laws_FnExactPairsJoin.j1 : Nat → List (S69) → List (S69) → List (S71) → Bool → List (S71) → Bool → Option (Bool)
  | 0, _, _, _, _, _, _ => none
  | k + 1, x0, x1, x6, x7, x10, x82 => if x82 = true then (none) else ((laws_markPairS.f k x10 1).bind fun bt203 => ((laws_heldPairS.f k bt203.2 1).bind fun t205 => (if t205 < 0 then (none) else (if t205 = bt203.1 then ((laws_toPairS.f k x0).bind fun t206 => ((laws_toPairS.f k x1).bind fun t209 => ((impl_PairsJoin.f k t206 t209).bind fun bt212 => ((laws_eqPairS.f k bt212.1 x6).bind fun t216 => (if t216 = true then (laws_FnExactPairsJoin.j2 k bt203.2 bt203.1 (bt212.2 != x7)) else (laws_FnExactPairsJoin.j2 k bt203.2 bt203.1 true)))))) else (none)))))
def laws_FnExactPairsJoin.j2 : Nat → List (S71) → Int → Bool → Option (Bool)
  | 0, _, _, _ => none
  | k + 1, x10, x13, x110 => if x110 = true then (none) else ((laws_heldPairS.f k x10 1).bind fun t217 => (if t217 < 0 then (none) else (if t217 = x13 then (some true) else (none))))
end
def laws_FnExactPairsJoin.f (k : Nat) (l0 : List (S69)) (l1 : List (S69)) : Option (Bool) := (laws_szPairS.f k l0 1048576).bind fun t167 => (if t167 < 0 then (some true) else ((laws_szPairS.f k l1 t167).bind fun t168 => (if t168 < 0 then (some true) else ((laws_toPairS.f k l0).bind fun t169 => ((laws_toPairS.f k l1).bind fun t172 => ((spec_PairsJoin.f k t169 t172).bind fun bt175 => ((laws_toPairS.f k l0).bind fun t179 => ((laws_toPairS.f k l1).bind fun t182 => ((impl_PairsJoin.f k t179 t182).bind fun bt185 => ((laws_eqPairS.f k bt185.1 bt175.1).bind fun t189 => (if t189 = true then (laws_FnExactPairsJoin.j0 k l0 l1 bt175.1 bt175.2 t179 t182 bt185.1 bt185.2 (bt185.2 != bt175.2)) else (laws_FnExactPairsJoin.j0 k l0 l1 bt175.1 bt175.2 t179 t182 bt185.1 bt185.2 true))))))))))))
theorem laws_FnExactPairsJoin.mono_l : ∀ k, (∀ y0 y1 y2 y3 y4 y5 y6 y7 y8, LeO (laws_FnExactPairsJoin.j0 k y0 y1 y2 y3 y4 y5 y6 y7 y8) (laws_FnExactPairsJoin.j0 (k + 1) y0 y1 y2 y3 y4 y5 y6 y7 y8)) ∧ (∀ y0 y1 y2 y3 y4 y5, LeO (laws_FnExactPairsJoin.j1 k y0 y1 y2 y3 y4 y5) (laws_FnExactPairsJoin.j1 (k + 1) y0 y1 y2 y3 y4 y5)) ∧ (∀ y0 y1 y2, LeO (laws_FnExactPairsJoin.j2 k y0 y1 y2) (laws_FnExactPairsJoin.j2 (k + 1) y0 y1 y2))
  | 0 => ⟨fun _ _ _ _ _ _ _ _ _ r h => by simp [laws_FnExactPairsJoin.j0] at h, fun _ _ _ _ _ _ r h => by simp [laws_FnExactPairsJoin.j1] at h, fun _ _ _ r h => by simp [laws_FnExactPairsJoin.j2] at h⟩
  | k + 1 => by
    obtain ⟨ih0, ih1, ih2⟩ := laws_FnExactPairsJoin.mono_l k
    refine ⟨?_, ?_, ?_⟩
    · intro y0 y1 y2 y3 y4 y5 y6 y7 y8
      unfold laws_FnExactPairsJoin.j0
      repeat' first
      | (with_reducible exact ih0 _ _ _ _ _ _ _ _ _)
      | (with_reducible exact ih1 _ _ _ _ _ _)
      | (with_reducible exact ih2 _ _ _)
      | (with_reducible exact impl_PairsJoin.mono _ _ _)
      | (with_reducible exact laws_eqPairS.mono _ _ _)
      | (with_reducible exact laws_heldPairS.mono _ _ _)
      | (with_reducible exact laws_markPairS.mono _ _ _)
      | (with_reducible exact laws_szPairS.mono _ _ _)
      | (with_reducible exact laws_toPairS.mono _ _)
      | (with_reducible exact spec_PairsJoin.mono _ _ _)
      | (with_reducible exact LeO.refl _)
      | (with_reducible exact LeO.none _)
      | (with_reducible refine LeO.ite ?_ ?_)
      | (with_reducible refine LeO.bind ?_ (fun _ => ?_))
      | exact ih0 _ _ _ _ _ _ _ _ _
      | exact ih1 _ _ _ _ _ _
      | exact ih2 _ _ _
      | exact impl_PairsJoin.mono _ _ _
      | exact laws_eqPairS.mono _ _ _
      | exact laws_heldPairS.mono _ _ _
      | exact laws_markPairS.mono _ _ _
      | exact laws_szPairS.mono _ _ _
      | exact laws_toPairS.mono _ _
      | exact spec_PairsJoin.mono _ _ _
      | exact LeO.none _
      | refine LeO.ite ?_ ?_
      | refine LeO.bind ?_ (fun _ => ?_)
    · intro y0 y1 y2 y3 y4 y5
      unfold laws_FnExactPairsJoin.j1
      repeat' first
      | (with_reducible exact ih0 _ _ _ _ _ _ _ _ _)
      | (with_reducible exact ih1 _ _ _ _ _ _)
      | (with_reducible exact ih2 _ _ _)
      | (with_reducible exact impl_PairsJoin.mono _ _ _)
      | (with_reducible exact laws_eqPairS.mono _ _ _)
      | (with_reducible exact laws_heldPairS.mono _ _ _)
      | (with_reducible exact laws_markPairS.mono _ _ _)
      | (with_reducible exact laws_szPairS.mono _ _ _)
      | (with_reducible exact laws_toPairS.mono _ _)
      | (with_reducible exact spec_PairsJoin.mono _ _ _)
      | (with_reducible exact LeO.refl _)
      | (with_reducible exact LeO.none _)
      | (with_reducible refine LeO.ite ?_ ?_)
      | (with_reducible refine LeO.bind ?_ (fun _ => ?_))
      | exact ih0 _ _ _ _ _ _ _ _ _
      | exact ih1 _ _ _ _ _ _
      | exact ih2 _ _ _
      | exact impl_PairsJoin.mono _ _ _
      | exact laws_eqPairS.mono _ _ _
      | exact laws_heldPairS.mono _ _ _
      | exact laws_markPairS.mono _ _ _
      | exact laws_szPairS.mono _ _ _
      | exact laws_toPairS.mono _ _
      | exact spec_PairsJoin.mono _ _ _
      | exact LeO.none _
      | refine LeO.ite ?_ ?_
      | refine LeO.bind ?_ (fun _ => ?_)
    · intro y0 y1 y2
      unfold laws_FnExactPairsJoin.j2
      repeat' first
      | (with_reducible exact ih0 _ _ _ _ _ _ _ _ _)
      | (with_reducible exact ih1 _ _ _ _ _ _)
      | (with_reducible exact ih2 _ _ _)
      | (with_reducible exact impl_PairsJoin.mono _ _ _)
      | (with_reducible exact laws_eqPairS.mono _ _ _)
      | (with_reducible exact laws_heldPairS.mono _ _ _)
      | (with_reducible exact laws_markPairS.mono _ _ _)
      | (with_reducible exact laws_szPairS.mono _ _ _)
      | (with_reducible exact laws_toPairS.mono _ _)
      | (with_reducible exact spec_PairsJoin.mono _ _ _)
      | (with_reducible exact LeO.refl _)
      | (with_reducible exact LeO.none _)
      | (with_reducible refine LeO.ite ?_ ?_)
      | (with_reducible refine LeO.bind ?_ (fun _ => ?_))
      | exact ih0 _ _ _ _ _ _ _ _ _
      | exact ih1 _ _ _ _ _ _
      | exact ih2 _ _ _
      | exact impl_PairsJoin.mono _ _ _
      | exact laws_eqPairS.mono _ _ _
      | exact laws_heldPairS.mono _ _ _
      | exact laws_markPairS.mono _ _ _
      | exact laws_szPairS.mono _ _ _
      | exact laws_toPairS.mono _ _
      | exact spec_PairsJoin.mono _ _ _
      | exact LeO.none _
      | refine LeO.ite ?_ ?_
      | refine LeO.bind ?_ (fun _ => ?_)
theorem laws_FnExactPairsJoin.mono : ∀ a0 a1 k, LeO (laws_FnExactPairsJoin.f k a0 a1) (laws_FnExactPairsJoin.f (k + 1) a0 a1) := by
  intro a0 a1 k
  obtain ⟨ih0, ih1, ih2⟩ := laws_FnExactPairsJoin.mono_l k
  unfold laws_FnExactPairsJoin.f
  repeat' first
      | (with_reducible exact ih0 _ _ _ _ _ _ _ _ _)
      | (with_reducible exact ih1 _ _ _ _ _ _)
      | (with_reducible exact ih2 _ _ _)
      | (with_reducible exact impl_PairsJoin.mono _ _ _)
      | (with_reducible exact laws_eqPairS.mono _ _ _)
      | (with_reducible exact laws_heldPairS.mono _ _ _)
      | (with_reducible exact laws_markPairS.mono _ _ _)
      | (with_reducible exact laws_szPairS.mono _ _ _)
      | (with_reducible exact laws_toPairS.mono _ _)
      | (with_reducible exact spec_PairsJoin.mono _ _ _)
      | (with_reducible exact LeO.refl _)
      | (with_reducible exact LeO.none _)
      | (with_reducible refine LeO.ite ?_ ?_)
      | (with_reducible refine LeO.bind ?_ (fun _ => ?_))
      | exact ih0 _ _ _ _ _ _ _ _ _
      | exact ih1 _ _ _ _ _ _
      | exact ih2 _ _ _
      | exact impl_PairsJoin.mono _ _ _
      | exact laws_eqPairS.mono _ _ _
      | exact laws_heldPairS.mono _ _ _
      | exact laws_markPairS.mono _ _ _
      | exact laws_szPairS.mono _ _ _
      | exact laws_toPairS.mono _ _
      | exact spec_PairsJoin.mono _ _ _
      | exact LeO.none _
      | refine LeO.ite ?_ ?_
      | refine LeO.bind ?_ (fun _ => ?_)
set_option maxHeartbeats 8000000 in
set_option maxRecDepth 100000 in
theorem laws_FnExactPairsJoin.calls (k : Nat) (A0 : Option Addr) (c0 : Nat) (l0 : List (S69)) (A1 : Option Addr) (c1 : Nat) (l1 : List (S69)) (r : Bool) (w : World) (hr0 : Kd.C k69 w A0 l0.length l0) (hc0 : l0.length ≤ c0) (hr1 : Kd.C k69 w A1 l1.length l1) (hc1 : l1.length ≤ c1) (h : laws_FnExactPairsJoin.f k l0 l1 = some r) :
    Calls Try.prog 5 #[.slice A0 l0.length c0, .slice A1 l1.length c1] w fun e w' => e = .returned (.bool r) ∧ Below w.heap.size w w' := by
  have HR0 := Aside0.mk hr0
  have HC0 := Aside0.mk hc0
  clear hr0 hc0
  have HR1 := Aside0.mk hr1
  have HC1 := Aside0.mk hc1
  clear hr1 hc1
  have HB := Aside0.mk (Below.refl w.heap.size w)
  have H : ((laws_szPairS.f k l0 1048576).bind fun t167 => (if t167 < 0 then (some true) else ((laws_szPairS.f k l1 t167).bind fun t168 => (if t168 < 0 then (some true) else ((laws_toPairS.f k l0).bind fun t169 => ((laws_toPairS.f k l1).bind fun t172 => ((spec_PairsJoin.f k t169 t172).bind fun bt175 => ((laws_toPairS.f k l0).bind fun t179 => ((laws_toPairS.f k l1).bind fun t182 => ((impl_PairsJoin.f k t179 t182).bind fun bt185 => ((laws_eqPairS.f k bt185.1 bt175.1).bind fun t189 => (if t189 = true then (laws_FnExactPairsJoin.j0 k l0 l1 bt175.1 bt175.2 t179 t182 bt185.1 bt185.2 (bt185.2 != bt175.2)) else (laws_FnExactPairsJoin.j0 k l0 l1 bt175.1 bt175.2 t179 t182 bt185.1 bt185.2 true))))))))))))) = some r := h
  clear h
  replace H := Option.bind_eq_some_iff.mp H
  obtain ⟨t167, A30, H⟩ := H
  replace H : (if t167 < 0 then (some true) else ((laws_szPairS.f k l1 t167).bind fun t168 => (if t168 < 0 then (some true) else ((laws_toPairS.f k l0).bind fun t169 => ((laws_toPairS.f k l1).bind fun t172 => ((spec_PairsJoin.f k t169 t172).bind fun bt175 => ((laws_toPairS.f k l0).bind fun t179 => ((laws_toPairS.f k l1).bind fun t182 => ((impl_PairsJoin.f k t179 t182).bind fun bt185 => ((laws_eqPairS.f k bt185.1 bt175.1).bind fun t189 => (if t189 = true then (laws_FnExactPairsJoin.j0 k l0 l1 bt175.1 bt175.2 t179 t182 bt185.1 bt185.2 (bt185.2 != bt175.2)) else (laws_FnExactPairsJoin.j0 k l0 l1 bt175.1 bt175.2 t179 t182 bt185.1 bt185.2 true)))))))))))) = some r := H
  have A3 := Aside0.mk A30
  clear A30
  by_cases c4 : t167 < 0
  · rw [if_pos c4] at H
    have c4b0 : decide (t167 < 0) = true := decide_eq_true c4
    clear c4
    obtain rfl := Option.some.inj H
    go_enter Try.func5, Try.ntmps5
    go_wp2_with (first | ((with_reducible refine gate_callee (f := 15) rfl ?_); refine goesL_ (some 19) rfl rfl Try.func15 (by kernel_rfl) rfl #[.slice A0 l0.length c0, .int .i64 1048576] rfl (by (try simp only [List.map_toArray, List.map_cons, List.map_nil]); first | done | rfl | (simp only [List.length_drop, List.length_take]; rfl)) ?_; (with_reducible refine (laws_szPairS.calls k _ _ l0 1048576 t167 _ ?side1 ?side2 A3.out).mono ?_); (case side1 => repeat (first | exact HR0.out | (with_reducible refine Kd.C_alloc ?_ _) | (with_reducible refine Kd.C_drewN ?_ _) | (with_reducible refine Kd.C_drew ?_))); (case side2 => exact HC0.out); rintro e w5 ⟨rfl, hb⟩; refine ⟨_, rfl, ?_⟩; have n0_ := Aside0.mk (below_step (by repeat (first | (with_reducible first | exact HB.out | apply below_alloc | apply pw_below_drewN | apply below_drew1) | exact HB.out)) hb); clear HB; have HB := n0_; clear n0_; (try clear hb); (try clear hb2); (try clear hk); (try clear hi)))
    go_ret
    exact ⟨by first | rfl | (simp only [u8_w_, w64_u8_]; done) | (simp only [u8_w_, w64_u8_]; rfl) | (simp [errW_none, errW_some] <;> rfl) | (simp [*, errW_none, errW_some] <;> rfl), by repeat (first | (with_reducible first | exact HB.out | apply below_alloc | apply pw_below_drewN | apply below_drew1) | exact HB.out)⟩
  · rw [if_neg c4] at H
    have c4b0 : decide (t167 < 0) = false := decide_eq_false c4
    clear c4
    replace H := Option.bind_eq_some_iff.mp H
    obtain ⟨t168, A60, H⟩ := H
    replace H : (if t168 < 0 then (some true) else ((laws_toPairS.f k l0).bind fun t169 => ((laws_toPairS.f k l1).bind fun t172 => ((spec_PairsJoin.f k t169 t172).bind fun bt175 => ((laws_toPairS.f k l0).bind fun t179 => ((laws_toPairS.f k l1).bind fun t182 => ((impl_PairsJoin.f k t179 t182).bind fun bt185 => ((laws_eqPairS.f k bt185.1 bt175.1).bind fun t189 => (if t189 = true then (laws_FnExactPairsJoin.j0 k l0 l1 bt175.1 bt175.2 t179 t182 bt185.1 bt185.2 (bt185.2 != bt175.2)) else (laws_FnExactPairsJoin.j0 k l0 l1 bt175.1 bt175.2 t179 t182 bt185.1 bt185.2 true)))))))))) = some r := H
    have A6 := Aside0.mk A60
    clear A60
    by_cases c7 : t168 < 0
    · rw [if_pos c7] at H
      have c7b0 : decide (t168 < 0) = true := decide_eq_true c7
      clear c7
      obtain rfl := Option.some.inj H
      go_enter Try.func5, Try.ntmps5
      go_wp2_with (first | ((with_reducible refine gate_callee (f := 15) rfl ?_); refine goesL_ (some 19) rfl rfl Try.func15 (by kernel_rfl) rfl #[.slice A0 l0.length c0, .int .i64 1048576] rfl (by (try simp only [List.map_toArray, List.map_cons, List.map_nil]); first | done | rfl | (simp only [List.length_drop, List.length_take]; rfl)) ?_; (with_reducible refine (laws_szPairS.calls k _ _ l0 1048576 t167 _ ?side1 ?side2 A3.out).mono ?_); (case side1 => repeat (first | exact HR0.out | (with_reducible refine Kd.C_alloc ?_ _) | (with_reducible refine Kd.C_drewN ?_ _) | (with_reducible refine Kd.C_drew ?_))); (case side2 => exact HC0.out); rintro e w8 ⟨rfl, hb⟩; refine ⟨_, rfl, ?_⟩; have n0_ := Aside0.mk (below_step (by repeat (first | (with_reducible first | exact HB.out | apply below_alloc | apply pw_below_drewN | apply below_drew1) | exact HB.out)) hb); clear HB; have HB := n0_; clear n0_; (try clear hb); (try clear hb2); (try clear hk); (try clear hi)) | ((with_reducible refine gate_callee (f := 15) rfl ?_); refine goesL_ (some 24) rfl rfl Try.func15 (by kernel_rfl) rfl #[.slice A1 l1.length c1, .int .i64 t167] rfl (by (try simp only [List.map_toArray, List.map_cons, List.map_nil]); first | done | rfl | (simp only [List.length_drop, List.length_take]; rfl)) ?_; (with_reducible refine (laws_szPairS.calls k _ _ l1 t167 t168 _ ?side1 ?side2 A6.out).mono ?_); (case side1 => repeat (first | exact (Kd.C_below HR1.out HB.out) | (with_reducible refine Kd.C_alloc ?_ _) | (with_reducible refine Kd.C_drewN ?_ _) | (with_reducible refine Kd.C_drew ?_))); (case side2 => exact HC1.out); rintro e w9 ⟨rfl, hb⟩; refine ⟨_, rfl, ?_⟩; have n0_ := Aside0.mk (below_step (by repeat (first | (with_reducible first | exact HB.out | apply below_alloc | apply pw_below_drewN | apply below_drew1) | exact HB.out)) hb); clear HB; have HB := n0_; clear n0_; (try clear hb); (try clear hb2); (try clear hk); (try clear hi)))
      go_ret
      exact ⟨by first | rfl | (simp only [u8_w_, w64_u8_]; done) | (simp only [u8_w_, w64_u8_]; rfl) | (simp [errW_none, errW_some] <;> rfl) | (simp [*, errW_none, errW_some] <;> rfl), by repeat (first | (with_reducible first | exact HB.out | apply below_alloc | apply pw_below_drewN | apply below_drew1) | exact HB.out)⟩
    · rw [if_neg c7] at H
      have c7b0 : decide (t168 < 0) = false := decide_eq_false c7
      clear c7
      replace H := Option.bind_eq_some_iff.mp H
      obtain ⟨t169, A100, H⟩ := H
      replace H : ((laws_toPairS.f k l1).bind fun t172 => ((spec_PairsJoin.f k t169 t172).bind fun bt175 => ((laws_toPairS.f k l0).bind fun t179 => ((laws_toPairS.f k l1).bind fun t182 => ((impl_PairsJoin.f k t179 t182).bind fun bt185 => ((laws_eqPairS.f k bt185.1 bt175.1).bind fun t189 => (if t189 = true then (laws_FnExactPairsJoin.j0 k l0 l1 bt175.1 bt175.2 t179 t182 bt185.1 bt185.2 (bt185.2 != bt175.2)) else (laws_FnExactPairsJoin.j0 k l0 l1 bt175.1 bt175.2 t179 t182 bt185.1 bt185.2 true)))))))) = some r := H
      have A10 := Aside0.mk A100
      clear A100
      replace H := Option.bind_eq_some_iff.mp H
      obtain ⟨t172, A110, H⟩ := H
      replace H : ((spec_PairsJoin.f k t169 t172).bind fun bt175 => ((laws_toPairS.f k l0).bind fun t179 => ((laws_toPairS.f k l1).bind fun t182 => ((impl_PairsJoin.f k t179 t182).bind fun bt185 => ((laws_eqPairS.f k bt185.1 bt175.1).bind fun t189 => (if t189 = true then (laws_FnExactPairsJoin.j0 k l0 l1 bt175.1 bt175.2 t179 t182 bt185.1 bt185.2 (bt185.2 != bt175.2)) else (laws_FnExactPairsJoin.j0 k l0 l1 bt175.1 bt175.2 t179 t182 bt185.1 bt185.2 true))))))) = some r := H
      have A11 := Aside0.mk A110
      clear A110
      replace H := Option.bind_eq_some_iff.mp H
      obtain ⟨⟨t175, t176⟩, A120, H⟩ := H
      replace H : ((laws_toPairS.f k l0).bind fun t179 => ((laws_toPairS.f k l1).bind fun t182 => ((impl_PairsJoin.f k t179 t182).bind fun bt185 => ((laws_eqPairS.f k bt185.1 t175).bind fun t189 => (if t189 = true then (laws_FnExactPairsJoin.j0 k l0 l1 t175 t176 t179 t182 bt185.1 bt185.2 (bt185.2 != t176)) else (laws_FnExactPairsJoin.j0 k l0 l1 t175 t176 t179 t182 bt185.1 bt185.2 true)))))) = some r := H
      have A12 := Aside0.mk A120
      clear A120
      replace H := Option.bind_eq_some_iff.mp H
      obtain ⟨t179, A130, H⟩ := H
      replace H : ((laws_toPairS.f k l1).bind fun t182 => ((impl_PairsJoin.f k t179 t182).bind fun bt185 => ((laws_eqPairS.f k bt185.1 t175).bind fun t189 => (if t189 = true then (laws_FnExactPairsJoin.j0 k l0 l1 t175 t176 t179 t182 bt185.1 bt185.2 (bt185.2 != t176)) else (laws_FnExactPairsJoin.j0 k l0 l1 t175 t176 t179 t182 bt185.1 bt185.2 true))))) = some r := H
      have A13 := Aside0.mk A130
      clear A130
      replace H := Option.bind_eq_some_iff.mp H
      obtain ⟨t182, A140, H⟩ := H
      replace H : ((impl_PairsJoin.f k t179 t182).bind fun bt185 => ((laws_eqPairS.f k bt185.1 t175).bind fun t189 => (if t189 = true then (laws_FnExactPairsJoin.j0 k l0 l1 t175 t176 t179 t182 bt185.1 bt185.2 (bt185.2 != t176)) else (laws_FnExactPairsJoin.j0 k l0 l1 t175 t176 t179 t182 bt185.1 bt185.2 true)))) = some r := H
      have A14 := Aside0.mk A140
      clear A140
      replace H := Option.bind_eq_some_iff.mp H
      obtain ⟨⟨t185, t186⟩, A150, H⟩ := H
      replace H : ((laws_eqPairS.f k t185 t175).bind fun t189 => (if t189 = true then (laws_FnExactPairsJoin.j0 k l0 l1 t175 t176 t179 t182 t185 t186 (t186 != t176)) else (laws_FnExactPairsJoin.j0 k l0 l1 t175 t176 t179 t182 t185 t186 true))) = some r := H
      have A15 := Aside0.mk A150
      clear A150
      have HC16 := Aside0.mk H
      clear H
      go_enter Try.func5, Try.ntmps5
      go_upto_region 12 with (first | ((with_reducible refine gate_callee (f := 15) rfl ?_); refine goesL_ (some 19) rfl rfl Try.func15 (by kernel_rfl) rfl #[.slice A0 l0.length c0, .int .i64 1048576] rfl (by (try simp only [List.map_toArray, List.map_cons, List.map_nil]); first | done | rfl | (simp only [List.length_drop, List.length_take]; rfl)) ?_; (with_reducible refine (laws_szPairS.calls k _ _ l0 1048576 t167 _ ?side1 ?side2 A3.out).mono ?_); (case side1 => repeat (first | exact HR0.out | (with_reducible refine Kd.C_alloc ?_ _) | (with_reducible refine Kd.C_drewN ?_ _) | (with_reducible refine Kd.C_drew ?_))); (case side2 => exact HC0.out); rintro e w17 ⟨rfl, hb⟩; refine ⟨_, rfl, ?_⟩; have n0_ := Aside0.mk (below_step (by repeat (first | (with_reducible first | exact HB.out | apply below_alloc | apply pw_below_drewN | apply below_drew1) | exact HB.out)) hb); clear HB; have HB := n0_; clear n0_; (try clear hb); (try clear hb2); (try clear hk); (try clear hi)) | ((with_reducible refine gate_callee (f := 15) rfl ?_); refine goesL_ (some 24) rfl rfl Try.func15 (by kernel_rfl) rfl #[.slice A1 l1.length c1, .int .i64 t167] rfl (by (try simp only [List.map_toArray, List.map_cons, List.map_nil]); first | done | rfl | (simp only [List.length_drop, List.length_take]; rfl)) ?_; (with_reducible refine (laws_szPairS.calls k _ _ l1 t167 t168 _ ?side1 ?side2 A6.out).mono ?_); (case side1 => repeat (first | exact (Kd.C_below HR1.out HB.out) | (with_reducible refine Kd.C_alloc ?_ _) | (with_reducible refine Kd.C_drewN ?_ _) | (with_reducible refine Kd.C_drew ?_))); (case side2 => exact HC1.out); rintro e w18 ⟨rfl, hb⟩; refine ⟨_, rfl, ?_⟩; have n0_ := Aside0.mk (below_step (by repeat (first | (with_reducible first | exact HB.out | apply below_alloc | apply pw_below_drewN | apply below_drew1) | exact HB.out)) hb); clear HB; have HB := n0_; clear n0_; (try clear hb); (try clear hb2); (try clear hk); (try clear hi)) | ((with_reducible refine gate_callee (f := 17) rfl ?_); refine goesL_ (some 29) rfl rfl Try.func17 (by kernel_rfl) rfl #[.slice A0 l0.length c0] rfl (by (try simp only [List.map_toArray, List.map_cons, List.map_nil]); first | done | rfl | (simp only [List.length_drop, List.length_take]; rfl)) ?_; (with_reducible refine (laws_toPairS.calls k _ _ l0 t169 _ ?side1 ?side2 A10.out).mono ?_); (case side1 => repeat (first | exact (Kd.C_below HR0.out HB.out) | (with_reducible refine Kd.C_alloc ?_ _) | (with_reducible refine Kd.C_drewN ?_ _) | (with_reducible refine Kd.C_drew ?_))); (case side2 => exact HC0.out); rintro e w19 ⟨v170, rfl, ho0, hb⟩; refine ⟨_, rfl, ?_⟩; have n0_ := Aside0.mk (Kd.R_lower ho0 (below_size (by repeat (first | (with_reducible first | exact HB.out | apply below_alloc | apply pw_below_drewN | apply below_drew1) | exact HB.out)))); have n1_ := Aside0.mk (below_step (by repeat (first | (with_reducible first | exact HB.out | apply below_alloc | apply pw_below_drewN | apply below_drew1) | exact HB.out)) hb); clear HB; have HO171 := n0_; have HB := n1_; clear n0_ n1_; (try clear hb); (try clear hb2); (try clear hk); (try clear hi); (try clear ho0)) | ((with_reducible refine gate_callee (f := 17) rfl ?_); refine goesL_ (some 31) rfl rfl Try.func17 (by kernel_rfl) rfl #[.slice A1 l1.length c1] rfl (by (try simp only [List.map_toArray, List.map_cons, List.map_nil]); first | done | rfl | (simp only [List.length_drop, List.length_take]; rfl)) ?_; (with_reducible refine (laws_toPairS.calls k _ _ l1 t172 _ ?side1 ?side2 A11.out).mono ?_); (case side1 => repeat (first | exact (Kd.C_below HR1.out HB.out) | (with_reducible refine Kd.C_alloc ?_ _) | (with_reducible refine Kd.C_drewN ?_ _) | (with_reducible refine Kd.C_drew ?_))); (case side2 => exact HC1.out); rintro e w20 ⟨v173, rfl, ho0, hb⟩; refine ⟨_, rfl, ?_⟩; have n0_ := Aside0.mk (Kd.R_elder' (by (with_reducible repeat (first | apply Kd.R_alloc | apply Kd.R_drewN | apply Kd.R_drew)); exact HO171.out) (Kd.R_base ho0) hb); have n1_ := Aside0.mk (Kd.R_lower (Kd.R_new' ho0 (Kd.R_lt (by (with_reducible repeat (first | apply Kd.R_alloc | apply Kd.R_drewN | apply Kd.R_drew)); exact HO171.out))) (below_size (by repeat (first | (with_reducible first | exact HB.out | apply below_alloc | apply pw_below_drewN | apply below_drew1) | exact HB.out)))); have n2_ := Aside0.mk (below_step (by repeat (first | (with_reducible first | exact HB.out | apply below_alloc | apply pw_below_drewN | apply below_drew1) | exact HB.out)) hb); clear HO171; clear HB; have HO171 := n0_; have HO174 := n1_; have HB := n2_; clear n0_ n1_ n2_; (try clear hb); (try clear hb2); (try clear hk); (try clear hi); (try clear ho0); obtain ⟨Ao21, co21, eo21⟩ := Kd.R_slice HO171.out; subst eo21; obtain ⟨Ao22, co22, eo22⟩ := Kd.R_slice HO174.out; subst eo22) | ((with_reducible refine gate_callee (f := 25) rfl ?_); refine goesL_ (some 32) rfl rfl Try.func25 (by kernel_rfl) rfl #[.slice Ao21 t169.length co21, .slice Ao22 t172.length co22] rfl (by (try simp only [List.map_toArray, List.map_cons, List.map_nil]); first | done | rfl | (simp only [List.length_drop, List.length_take]; rfl)) ?_; (with_reducible refine (spec_PairsJoin.calls k _ _ t169 _ _ t172 t175 t176 _ ?side1 ?side2 ?side3 ?side4 A12.out).mono ?_); (case side1 => repeat (first | exact (Kd.R_reads' HO171.out).2.2 | (with_reducible refine Kd.C_alloc ?_ _) | (with_reducible refine Kd.C_drewN ?_ _) | (with_reducible refine Kd.C_drew ?_))); (case side2 => exact (Kd.R_reads' HO171.out).2.1); (case side3 => repeat (first | exact (Kd.R_reads' HO174.out).2.2 | (with_reducible refine Kd.C_alloc ?_ _) | (with_reducible refine Kd.C_drewN ?_ _) | (with_reducible refine Kd.C_drew ?_))); (case side4 => exact (Kd.R_reads' HO174.out).2.1); rintro e w23 ⟨v177, rfl, ho0, hb⟩; refine ⟨_, rfl, ?_⟩; have n0_ := Aside0.mk (Kd.R_elder' (by (with_reducible repeat (first | apply Kd.R_alloc | apply Kd.R_drewN | apply Kd.R_drew)); exact HO171.out) (Kd.R_base ho0) hb); have n1_ := Aside0.mk (Kd.R_elder' (by (with_reducible repeat (first | apply Kd.R_alloc | apply Kd.R_drewN | apply Kd.R_drew)); exact HO174.out) (Kd.R_base ho0) hb); have n2_ := Aside0.mk (Kd.R_lower (Kd.R_new' (Kd.R_new' ho0 (Kd.R_lt (by (with_reducible repeat (first | apply Kd.R_alloc | apply Kd.R_drewN | apply Kd.R_drew)); exact HO171.out))) (Kd.R_lt (by (with_reducible repeat (first | apply Kd.R_alloc | apply Kd.R_drewN | apply Kd.R_drew)); exact HO174.out))) (below_size (by repeat (first | (with_reducible first | exact HB.out | apply below_alloc | apply pw_below_drewN | apply below_drew1) | exact HB.out)))); have n3_ := Aside0.mk (below_step (by repeat (first | (with_reducible first | exact HB.out | apply below_alloc | apply pw_below_drewN | apply below_drew1) | exact HB.out)) hb); clear HO171; clear HO174; clear HB; have HO171 := n0_; have HO174 := n1_; have HO178 := n2_; have HB := n3_; clear n0_ n1_ n2_ n3_; (try clear hb); (try clear hb2); (try clear hk); (try clear hi); (try clear ho0)) | ((with_reducible refine gate_callee (f := 17) rfl ?_); refine goesL_ (some 36) rfl rfl Try.func17 (by kernel_rfl) rfl #[.slice A0 l0.length c0] rfl (by (try simp only [List.map_toArray, List.map_cons, List.map_nil]); first | done | rfl | (simp only [List.length_drop, List.length_take]; rfl)) ?_; (with_reducible refine (laws_toPairS.calls k _ _ l0 t179 _ ?side1 ?side2 A13.out).mono ?_); (case side1 => repeat (first | exact (Kd.C_below HR0.out HB.out) | (with_reducible refine Kd.C_alloc ?_ _) | (with_reducible refine Kd.C_drewN ?_ _) | (with_reducible refine Kd.C_drew ?_))); (case side2 => exact HC0.out); rintro e w24 ⟨v180, rfl, ho0, hb⟩; refine ⟨_, rfl, ?_⟩; have n0_ := Aside0.mk (Kd.R_elder' (by (with_reducible repeat (first | apply Kd.R_alloc | apply Kd.R_drewN | apply Kd.R_drew)); exact HO171.out) (Kd.R_base ho0) hb); have n1_ := Aside0.mk (Kd.R_elder' (by (with_reducible repeat (first | apply Kd.R_alloc | apply Kd.R_drewN | apply Kd.R_drew)); exact HO174.out) (Kd.R_base ho0) hb); have n2_ := Aside0.mk (Kd.R_elder' (by (with_reducible repeat (first | apply Kd.R_alloc | apply Kd.R_drewN | apply Kd.R_drew)); exact HO178.out) (Kd.R_base ho0) hb); have n3_ := Aside0.mk (Kd.R_lower (Kd.R_new' (Kd.R_new' (Kd.R_new' ho0 (Kd.R_lt (by (with_reducible repeat (first | apply Kd.R_alloc | apply Kd.R_drewN | apply Kd.R_drew)); exact HO171.out))) (Kd.R_lt (by (with_reducible repeat (first | apply Kd.R_alloc | apply Kd.R_drewN | apply Kd.R_drew)); exact HO174.out))) (Kd.R_lt (by (with_reducible repeat (first | apply Kd.R_alloc | apply Kd.R_drewN | apply Kd.R_drew)); exact HO178.out))) (below_size (by repeat (first | (with_reducible first | exact HB.out | apply below_alloc | apply pw_below_drewN | apply below_drew1) | exact HB.out)))); have n4_ := Aside0.mk (below_step (by repeat (first | (with_reducible first | exact HB.out | apply below_alloc | apply pw_below_drewN | apply below_drew1) | exact HB.out)) hb); clear HO171; clear HO174; clear HO178; clear HB; have HO171 := n0_; have HO174 := n1_; have HO178 := n2_; have HO181 := n3_; have HB := n4_; clear n0_ n1_ n2_ n3_ n4_; (try clear hb); (try clear hb2); (try clear hk); (try clear hi); (try clear ho0)) | ((with_reducible refine gate_callee (f := 17) rfl ?_); refine goesL_ (some 38) rfl rfl Try.func17 (by kernel_rfl) rfl #[.slice A1 l1.length c1] rfl (by (try simp only [List.map_toArray, List.map_cons, List.map_nil]); first | done | rfl | (simp only [List.length_drop, List.length_take]; rfl)) ?_; (with_reducible refine (laws_toPairS.calls k _ _ l1 t182 _ ?side1 ?side2 A14.out).mono ?_); (case side1 => repeat (first | exact (Kd.C_below HR1.out HB.out) | (with_reducible refine Kd.C_alloc ?_ _) | (with_reducible refine Kd.C_drewN ?_ _) | (with_reducible refine Kd.C_drew ?_))); (case side2 => exact HC1.out); rintro e w25 ⟨v183, rfl, ho0, hb⟩; refine ⟨_, rfl, ?_⟩; have n0_ := Aside0.mk (Kd.R_elder' (by (with_reducible repeat (first | apply Kd.R_alloc | apply Kd.R_drewN | apply Kd.R_drew)); exact HO171.out) (Kd.R_base ho0) hb); have n1_ := Aside0.mk (Kd.R_elder' (by (with_reducible repeat (first | apply Kd.R_alloc | apply Kd.R_drewN | apply Kd.R_drew)); exact HO174.out) (Kd.R_base ho0) hb); have n2_ := Aside0.mk (Kd.R_elder' (by (with_reducible repeat (first | apply Kd.R_alloc | apply Kd.R_drewN | apply Kd.R_drew)); exact HO178.out) (Kd.R_base ho0) hb); have n3_ := Aside0.mk (Kd.R_elder' (by (with_reducible repeat (first | apply Kd.R_alloc | apply Kd.R_drewN | apply Kd.R_drew)); exact HO181.out) (Kd.R_base ho0) hb); have n4_ := Aside0.mk (Kd.R_lower (Kd.R_new' (Kd.R_new' (Kd.R_new' (Kd.R_new' ho0 (Kd.R_lt (by (with_reducible repeat (first | apply Kd.R_alloc | apply Kd.R_drewN | apply Kd.R_drew)); exact HO171.out))) (Kd.R_lt (by (with_reducible repeat (first | apply Kd.R_alloc | apply Kd.R_drewN | apply Kd.R_drew)); exact HO174.out))) (Kd.R_lt (by (with_reducible repeat (first | apply Kd.R_alloc | apply Kd.R_drewN | apply Kd.R_drew)); exact HO178.out))) (Kd.R_lt (by (with_reducible repeat (first | apply Kd.R_alloc | apply Kd.R_drewN | apply Kd.R_drew)); exact HO181.out))) (below_size (by repeat (first | (with_reducible first | exact HB.out | apply below_alloc | apply pw_below_drewN | apply below_drew1) | exact HB.out)))); have n5_ := Aside0.mk (below_step (by repeat (first | (with_reducible first | exact HB.out | apply below_alloc | apply pw_below_drewN | apply below_drew1) | exact HB.out)) hb); clear HO171; clear HO174; clear HO178; clear HO181; clear HB; have HO171 := n0_; have HO174 := n1_; have HO178 := n2_; have HO181 := n3_; have HO184 := n4_; have HB := n5_; clear n0_ n1_ n2_ n3_ n4_ n5_; (try clear hb); (try clear hb2); (try clear hk); (try clear hi); (try clear ho0); obtain ⟨Ao26, co26, eo26⟩ := Kd.R_slice HO181.out; subst eo26; obtain ⟨Ao27, co27, eo27⟩ := Kd.R_slice HO184.out; subst eo27) | ((with_reducible refine gate_callee (f := 26) rfl ?_); refine goesL_ (some 42) rfl rfl Try.func26 (by kernel_rfl) rfl #[.slice Ao26 t179.length co26, .slice Ao27 t182.length co27] rfl (by (try simp only [List.map_toArray, List.map_cons, List.map_nil]); first | done | rfl | (simp only [List.length_drop, List.length_take]; rfl)) ?_; (with_reducible refine (impl_PairsJoin.calls k _ _ t179 _ _ t182 t185 t186 _ ?side1 ?side2 ?side3 ?side4 A15.out).mono ?_); (case side1 => repeat (first | exact (Kd.R_reads' HO181.out).2.2 | (with_reducible refine Kd.C_alloc ?_ _) | (with_reducible refine Kd.C_drewN ?_ _) | (with_reducible refine Kd.C_drew ?_))); (case side2 => exact (Kd.R_reads' HO181.out).2.1); (case side3 => repeat (first | exact (Kd.R_reads' HO184.out).2.2 | (with_reducible refine Kd.C_alloc ?_ _) | (with_reducible refine Kd.C_drewN ?_ _) | (with_reducible refine Kd.C_drew ?_))); (case side4 => exact (Kd.R_reads' HO184.out).2.1); rintro e w28 ⟨v187, rfl, ho0, hb⟩; refine ⟨_, rfl, ?_⟩; have n0_ := Aside0.mk (Kd.R_elder' (by (with_reducible repeat (first | apply Kd.R_alloc | apply Kd.R_drewN | apply Kd.R_drew)); exact HO171.out) (Kd.R_base ho0) hb); have n1_ := Aside0.mk (Kd.R_elder' (by (with_reducible repeat (first | apply Kd.R_alloc | apply Kd.R_drewN | apply Kd.R_drew)); exact HO174.out) (Kd.R_base ho0) hb); have n2_ := Aside0.mk (Kd.R_elder' (by (with_reducible repeat (first | apply Kd.R_alloc | apply Kd.R_drewN | apply Kd.R_drew)); exact HO178.out) (Kd.R_base ho0) hb); have n3_ := Aside0.mk (Kd.R_elder' (by (with_reducible repeat (first | apply Kd.R_alloc | apply Kd.R_drewN | apply Kd.R_drew)); exact HO181.out) (Kd.R_base ho0) hb); have n4_ := Aside0.mk (Kd.R_elder' (by (with_reducible repeat (first | apply Kd.R_alloc | apply Kd.R_drewN | apply Kd.R_drew)); exact HO184.out) (Kd.R_base ho0) hb); have n5_ := Aside0.mk (Kd.R_lower (Kd.R_new' (Kd.R_new' (Kd.R_new' (Kd.R_new' (Kd.R_new' ho0 (Kd.R_lt (by (with_reducible repeat (first | apply Kd.R_alloc | apply Kd.R_drewN | apply Kd.R_drew)); exact HO171.out))) (Kd.R_lt (by (with_reducible repeat (first | apply Kd.R_alloc | apply Kd.R_drewN | apply Kd.R_drew)); exact HO174.out))) (Kd.R_lt (by (with_reducible repeat (first | apply Kd.R_alloc | apply Kd.R_drewN | apply Kd.R_drew)); exact HO178.out))) (Kd.R_lt (by (with_reducible repeat (first | apply Kd.R_alloc | apply Kd.R_drewN | apply Kd.R_drew)); exact HO181.out))) (Kd.R_lt (by (with_reducible repeat (first | apply Kd.R_alloc | apply Kd.R_drewN | apply Kd.R_drew)); exact HO184.out))) (below_size (by repeat (first | (with_reducible first | exact HB.out | apply below_alloc | apply pw_below_drewN | apply below_drew1) | exact HB.out)))); have n6_ := Aside0.mk (below_step (by repeat (first | (with_reducible first | exact HB.out | apply below_alloc | apply pw_below_drewN | apply below_drew1) | exact HB.out)) hb); clear HO171; clear HO174; clear HO178; clear HO181; clear HO184; clear HB; have HO171 := n0_; have HO174 := n1_; have HO178 := n2_; have HO181 := n3_; have HO184 := n4_; have HO188 := n5_; have HB := n6_; clear n0_ n1_ n2_ n3_ n4_ n5_ n6_; (try clear hb); (try clear hb2); (try clear hk); (try clear hi); (try clear ho0)))
      (try simp only [Act.put, List.setIfInBounds_toArray, List.set_cons_zero, List.set_cons_succ])
      go_cut [53] (fun v53 wc => ∃ (kq : Nat) (x53_15 : Bool), v53 = .bool x53_15 ∧ Aside0 (laws_FnExactPairsJoin.j0 kq l0 l1 t175 t176 t179 t182 t185 t186 x53_15 = some r) ∧ Aside0 (kq ≤ k) ∧ Aside0 (Kd.R k71 71 wc w.heap.size (fun k_ => some k_ ≠ ((.slice Ao26 t179.length co26) : Value).ownBlock ∧ some k_ ≠ ((.slice Ao27 t182.length co27) : Value).ownBlock ∧ some k_ ≠ (v187 : Value).ownBlock) v177 t175) ∧ Aside0 (Kd.R k71 71 wc w.heap.size (fun k_ => some k_ ≠ (v177 : Value).ownBlock ∧ some k_ ≠ ((.slice Ao27 t182.length co27) : Value).ownBlock ∧ some k_ ≠ (v187 : Value).ownBlock) (.slice Ao26 t179.length co26) t179) ∧ Aside0 (Kd.R k71 71 wc w.heap.size (fun k_ => some k_ ≠ (v177 : Value).ownBlock ∧ some k_ ≠ ((.slice Ao26 t179.length co26) : Value).ownBlock ∧ some k_ ≠ (v187 : Value).ownBlock) (.slice Ao27 t182.length co27) t182) ∧ Aside0 (Kd.R k71 71 wc w.heap.size (fun k_ => some k_ ≠ (v177 : Value).ownBlock ∧ some k_ ≠ ((.slice Ao26 t179.length co26) : Value).ownBlock ∧ some k_ ≠ ((.slice Ao27 t182.length co27) : Value).ownBlock) v187 t185) ∧ Aside0 (Below w.heap.size w wc))
      case first =>
        have H := HC16.out
        clear HC16
        replace H := Option.bind_eq_some_iff.mp H
        obtain ⟨t189, A290, H⟩ := H
        replace H : (if t189 = true then (laws_FnExactPairsJoin.j0 k l0 l1 t175 t176 t179 t182 t185 t186 (t186 != t176)) else (laws_FnExactPairsJoin.j0 k l0 l1 t175 t176 t179 t182 t185 t186 true)) = some r := H
        have A29 := Aside0.mk A290
        clear A290
        by_cases c30 : t189 = true
        · subst c30
          have H1 : (laws_FnExactPairsJoin.j0 k l0 l1 t175 t176 t179 t182 t185 t186 (t186 != t176)) = some r := by rw [if_pos rfl] at H; exact H
          clear H
          have H := H1
          clear H1
          have H' := Aside0.mk H
          clear H
          obtain ⟨Ao31, co31, eo31⟩ := Kd.R_slice HO188.out
          subst eo31
          obtain ⟨Ao32, co32, eo32⟩ := Kd.R_slice HO178.out
          subst eo32
          go_wp2_with (first | ((with_reducible refine gate_callee (f := 19) rfl ?_); refine goesL_ (some 47) rfl rfl Try.func19 (by kernel_rfl) rfl #[.slice Ao31 t185.length co31, .slice Ao32 t175.length co32] rfl (by (try simp only [List.map_toArray, List.map_cons, List.map_nil]); first | done | rfl | (simp only [List.length_drop, List.length_take]; rfl)) ?_; (with_reducible refine (laws_eqPairS.calls k _ _ t185 _ _ t175 true _ ?side1 ?side2 ?side3 ?side4 A29.out).mono ?_); (case side1 => repeat (first | exact (Kd.R_reads' HO188.out).2.2 | (with_reducible refine Kd.C_alloc ?_ _) | (with_reducible refine Kd.C_drewN ?_ _) | (with_reducible refine Kd.C_drew ?_))); (case side2 => exact (Kd.R_reads' HO188.out).2.1); (case side3 => repeat (first | exact (Kd.R_reads' HO178.out).2.2 | (with_reducible refine Kd.C_alloc ?_ _) | (with_reducible refine Kd.C_drewN ?_ _) | (with_reducible refine Kd.C_drew ?_))); (case side4 => exact (Kd.R_reads' HO178.out).2.1); rintro e w33 ⟨rfl, hb⟩; refine ⟨_, rfl, ?_⟩; have n0_ := Aside0.mk (Kd.R_below (by (with_reducible repeat (first | apply Kd.R_alloc | apply Kd.R_drewN | apply Kd.R_drew)); exact HO171.out) hb); have n1_ := Aside0.mk (Kd.R_below (by (with_reducible repeat (first | apply Kd.R_alloc | apply Kd.R_drewN | apply Kd.R_drew)); exact HO174.out) hb); have n2_ := Aside0.mk (Kd.R_below (by (with_reducible repeat (first | apply Kd.R_alloc | apply Kd.R_drewN | apply Kd.R_drew)); exact HO178.out) hb); have n3_ := Aside0.mk (Kd.R_below (by (with_reducible repeat (first | apply Kd.R_alloc | apply Kd.R_drewN | apply Kd.R_drew)); exact HO181.out) hb); have n4_ := Aside0.mk (Kd.R_below (by (with_reducible repeat (first | apply Kd.R_alloc | apply Kd.R_drewN | apply Kd.R_drew)); exact HO184.out) hb); have n5_ := Aside0.mk (Kd.R_below (by (with_reducible repeat (first | apply Kd.R_alloc | apply Kd.R_drewN | apply Kd.R_drew)); exact HO188.out) hb); have n6_ := Aside0.mk (below_step (by repeat (first | (with_reducible first | exact HB.out | apply below_alloc | apply pw_below_drewN | apply below_drew1) | exact HB.out)) hb); clear HO171; clear HO174; clear HO178; clear HO181; clear HO184; clear HO188; clear HB; have HO171 := n0_; have HO174 := n1_; have HO178 := n2_; have HO181 := n3_; have HO184 := n4_; have HO188 := n5_; have HB := n6_; clear n0_ n1_ n2_ n3_ n4_ n5_ n6_; (try clear hb); (try clear hb2); (try clear hk); (try clear hi)))
          go_meet
          case rel => exact ⟨_, ((t186 != t176)), (by first | rfl | (simp; done) | (simp [bne]; done) | (simp [*]; done)), H', ⟨by first | omega | exact Nat.le_refl _⟩, ⟨by (with_reducible repeat (first | apply Kd.R_alloc | apply Kd.R_drewN | apply Kd.R_drew)); exact Kd.R_mono HO178.out (fun _ hk => ⟨hk.1.1.2, ⟨hk.1.2, hk.2⟩⟩)⟩, ⟨by (with_reducible repeat (first | apply Kd.R_alloc | apply Kd.R_drewN | apply Kd.R_drew)); exact Kd.R_mono HO181.out (fun _ hk => ⟨hk.1.1.2, ⟨hk.1.2, hk.2⟩⟩)⟩, ⟨by (with_reducible repeat (first | apply Kd.R_alloc | apply Kd.R_drewN | apply Kd.R_drew)); exact Kd.R_mono HO184.out (fun _ hk => ⟨hk.1.1.2, ⟨hk.1.2, hk.2⟩⟩)⟩, ⟨by (with_reducible repeat (first | apply Kd.R_alloc | apply Kd.R_drewN | apply Kd.R_drew)); exact Kd.R_mono HO188.out (fun _ hk => ⟨hk.1.1.2, ⟨hk.1.2, hk.2⟩⟩)⟩, ⟨by repeat (first | (with_reducible first | exact HB.out | apply below_alloc | apply pw_below_drewN | apply below_drew1) | exact HB.out)⟩⟩
        · replace c30 := Bool.eq_false_iff.mpr c30
          subst c30
          have H1 : (laws_FnExactPairsJoin.j0 k l0 l1 t175 t176 t179 t182 t185 t186 true) = some r := by rw [if_neg (show ¬ (false = true) by decide)] at H; exact H
          clear H
          have H := H1
          clear H1
          have H' := Aside0.mk H
          clear H
          obtain ⟨Ao34, co34, eo34⟩ := Kd.R_slice HO188.out
          subst eo34
          obtain ⟨Ao35, co35, eo35⟩ := Kd.R_slice HO178.out
          subst eo35
          go_wp2_with (first | ((with_reducible refine gate_callee (f := 19) rfl ?_); refine goesL_ (some 47) rfl rfl Try.func19 (by kernel_rfl) rfl #[.slice Ao34 t185.length co34, .slice Ao35 t175.length co35] rfl (by (try simp only [List.map_toArray, List.map_cons, List.map_nil]); first | done | rfl | (simp only [List.length_drop, List.length_take]; rfl)) ?_; (with_reducible refine (laws_eqPairS.calls k _ _ t185 _ _ t175 false _ ?side1 ?side2 ?side3 ?side4 A29.out).mono ?_); (case side1 => repeat (first | exact (Kd.R_reads' HO188.out).2.2 | (with_reducible refine Kd.C_alloc ?_ _) | (with_reducible refine Kd.C_drewN ?_ _) | (with_reducible refine Kd.C_drew ?_))); (case side2 => exact (Kd.R_reads' HO188.out).2.1); (case side3 => repeat (first | exact (Kd.R_reads' HO178.out).2.2 | (with_reducible refine Kd.C_alloc ?_ _) | (with_reducible refine Kd.C_drewN ?_ _) | (with_reducible refine Kd.C_drew ?_))); (case side4 => exact (Kd.R_reads' HO178.out).2.1); rintro e w36 ⟨rfl, hb⟩; refine ⟨_, rfl, ?_⟩; have n0_ := Aside0.mk (Kd.R_below (by (with_reducible repeat (first | apply Kd.R_alloc | apply Kd.R_drewN | apply Kd.R_drew)); exact HO171.out) hb); have n1_ := Aside0.mk (Kd.R_below (by (with_reducible repeat (first | apply Kd.R_alloc | apply Kd.R_drewN | apply Kd.R_drew)); exact HO174.out) hb); have n2_ := Aside0.mk (Kd.R_below (by (with_reducible repeat (first | apply Kd.R_alloc | apply Kd.R_drewN | apply Kd.R_drew)); exact HO178.out) hb); have n3_ := Aside0.mk (Kd.R_below (by (with_reducible repeat (first | apply Kd.R_alloc | apply Kd.R_drewN | apply Kd.R_drew)); exact HO181.out) hb); have n4_ := Aside0.mk (Kd.R_below (by (with_reducible repeat (first | apply Kd.R_alloc | apply Kd.R_drewN | apply Kd.R_drew)); exact HO184.out) hb); have n5_ := Aside0.mk (Kd.R_below (by (with_reducible repeat (first | apply Kd.R_alloc | apply Kd.R_drewN | apply Kd.R_drew)); exact HO188.out) hb); have n6_ := Aside0.mk (below_step (by repeat (first | (with_reducible first | exact HB.out | apply below_alloc | apply pw_below_drewN | apply below_drew1) | exact HB.out)) hb); clear HO171; clear HO174; clear HO178; clear HO181; clear HO184; clear HO188; clear HB; have HO171 := n0_; have HO174 := n1_; have HO178 := n2_; have HO181 := n3_; have HO184 := n4_; have HO188 := n5_; have HB := n6_; clear n0_ n1_ n2_ n3_ n4_ n5_ n6_; (try clear hb); (try clear hb2); (try clear hk); (try clear hi)))
          go_meet
          case rel => exact ⟨_, (true), (by first | rfl | (simp; done) | (simp [bne]; done) | (simp [*]; done)), H', ⟨by first | omega | exact Nat.le_refl _⟩, ⟨by (with_reducible repeat (first | apply Kd.R_alloc | apply Kd.R_drewN | apply Kd.R_drew)); exact Kd.R_mono HO178.out (fun _ hk => ⟨hk.1.1.2, ⟨hk.1.2, hk.2⟩⟩)⟩, ⟨by (with_reducible repeat (first | apply Kd.R_alloc | apply Kd.R_drewN | apply Kd.R_drew)); exact Kd.R_mono HO181.out (fun _ hk => ⟨hk.1.1.2, ⟨hk.1.2, hk.2⟩⟩)⟩, ⟨by (with_reducible repeat (first | apply Kd.R_alloc | apply Kd.R_drewN | apply Kd.R_drew)); exact Kd.R_mono HO184.out (fun _ hk => ⟨hk.1.1.2, ⟨hk.1.2, hk.2⟩⟩)⟩, ⟨by (with_reducible repeat (first | apply Kd.R_alloc | apply Kd.R_drewN | apply Kd.R_drew)); exact Kd.R_mono HO188.out (fun _ hk => ⟨hk.1.1.2, ⟨hk.1.2, hk.2⟩⟩)⟩, ⟨by repeat (first | (with_reducible first | exact HB.out | apply below_alloc | apply pw_below_drewN | apply below_drew1) | exact HB.out)⟩⟩
      case rest =>
        clear HC16
        try clear c1
        try clear c2
        try clear p2
        try clear c3
        try clear c4
        try clear c4b0
        try clear c5
        try clear c7
        try clear c7b0
        try clear c15
        try clear c17
        try clear c19
        try clear c25
        try clear c26
        try clear c30
        obtain ⟨kq, x53_15, rfl, HA, HJ15, HO_6, HO_8, HO_9, HO_10, HB⟩ := hcut
        cases kq with
        | zero => exact absurd HA.out (by simp [laws_FnExactPairsJoin.j0])
        | succ kj15 =>
          have H := HA.out
          clear HA
          simp only [laws_FnExactPairsJoin.j0] at H
          by_cases c37 : x53_15 = true
          · subst c37
            have H1 : (none) = some r := by rw [if_pos rfl] at H; exact H
            clear H
            have H := H1
            clear H1
            exact absurd H (by simp)
          · replace c37 := Bool.eq_false_iff.mpr c37
            subst c37
            have H1 : ((laws_toPairS.f kj15 l0).bind fun t190 => ((laws_eqPairS.f kj15 t179 t190).bind fun t193 => (if t193 = true then ((laws_toPairS.f kj15 l1).bind fun t194 => ((laws_eqPairS.f kj15 t182 t194).bind fun t197 => (if t197 = true then ((laws_markPairS.f kj15 t179 1).bind fun bt198 => ((laws_markPairS.f kj15 t182 bt198.1).bind fun bt200 => (if bt200.1 < 0 then (laws_FnExactPairsJoin.j1 kj15 l0 l1 t175 t176 t185 true) else ((laws_eqPairS.f kj15 t185 t175).bind fun t202 => (if t202 = true then (laws_FnExactPairsJoin.j1 kj15 l0 l1 t175 t176 t185 (t186 != t176)) else (laws_FnExactPairsJoin.j1 kj15 l0 l1 t175 t176 t185 true)))))) else (none)))) else (none)))) = some r := by rw [if_neg (show ¬ (false = true) by decide)] at H; exact H
            clear H
            have H := H1
            clear H1
            replace H := Option.bind_eq_some_iff.mp H
            obtain ⟨t190, A380, H⟩ := H
            replace H : ((laws_eqPairS.f kj15 t179 t190).bind fun t193 => (if t193 = true then ((laws_toPairS.f kj15 l1).bind fun t194 => ((laws_eqPairS.f kj15 t182 t194).bind fun t197 => (if t197 = true then ((laws_markPairS.f kj15 t179 1).bind fun bt198 => ((laws_markPairS.f kj15 t182 bt198.1).bind fun bt200 => (if bt200.1 < 0 then (laws_FnExactPairsJoin.j1 kj15 l0 l1 t175 t176 t185 true) else ((laws_eqPairS.f kj15 t185 t175).bind fun t202 => (if t202 = true then (laws_FnExactPairsJoin.j1 kj15 l0 l1 t175 t176 t185 (t186 != t176)) else (laws_FnExactPairsJoin.j1 kj15 l0 l1 t175 t176 t185 true)))))) else (none)))) else (none))) = some r := H
            have A38 := Aside0.mk A380
            clear A380
            replace H := Option.bind_eq_some_iff.mp H
            obtain ⟨t193, A390, H⟩ := H
            replace H : (if t193 = true then ((laws_toPairS.f kj15 l1).bind fun t194 => ((laws_eqPairS.f kj15 t182 t194).bind fun t197 => (if t197 = true then ((laws_markPairS.f kj15 t179 1).bind fun bt198 => ((laws_markPairS.f kj15 t182 bt198.1).bind fun bt200 => (if bt200.1 < 0 then (laws_FnExactPairsJoin.j1 kj15 l0 l1 t175 t176 t185 true) else ((laws_eqPairS.f kj15 t185 t175).bind fun t202 => (if t202 = true then (laws_FnExactPairsJoin.j1 kj15 l0 l1 t175 t176 t185 (t186 != t176)) else (laws_FnExactPairsJoin.j1 kj15 l0 l1 t175 t176 t185 true)))))) else (none)))) else (none)) = some r := H
            have A39 := Aside0.mk A390
            clear A390
            by_cases c40 : t193 = true
            · subst c40
              have H1 : ((laws_toPairS.f kj15 l1).bind fun t194 => ((laws_eqPairS.f kj15 t182 t194).bind fun t197 => (if t197 = true then ((laws_markPairS.f kj15 t179 1).bind fun bt198 => ((laws_markPairS.f kj15 t182 bt198.1).bind fun bt200 => (if bt200.1 < 0 then (laws_FnExactPairsJoin.j1 kj15 l0 l1 t175 t176 t185 true) else ((laws_eqPairS.f kj15 t185 t175).bind fun t202 => (if t202 = true then (laws_FnExactPairsJoin.j1 kj15 l0 l1 t175 t176 t185 (t186 != t176)) else (laws_FnExactPairsJoin.j1 kj15 l0 l1 t175 t176 t185 true)))))) else (none)))) = some r := by rw [if_pos rfl] at H; exact H
              clear H
              have H := H1
              clear H1
              replace H := Option.bind_eq_some_iff.mp H
              obtain ⟨t194, A410, H⟩ := H
              replace H : ((laws_eqPairS.f kj15 t182 t194).bind fun t197 => (if t197 = true then ((laws_markPairS.f kj15 t179 1).bind fun bt198 => ((laws_markPairS.f kj15 t182 bt198.1).bind fun bt200 => (if bt200.1 < 0 then (laws_FnExactPairsJoin.j1 kj15 l0 l1 t175 t176 t185 true) else ((laws_eqPairS.f kj15 t185 t175).bind fun t202 => (if t202 = true then (laws_FnExactPairsJoin.j1 kj15 l0 l1 t175 t176 t185 (t186 != t176)) else (laws_FnExactPairsJoin.j1 kj15 l0 l1 t175 t176 t185 true)))))) else (none))) = some r := H
              have A41 := Aside0.mk A410
              clear A410
              replace H := Option.bind_eq_some_iff.mp H
              obtain ⟨t197, A420, H⟩ := H
              replace H : (if t197 = true then ((laws_markPairS.f kj15 t179 1).bind fun bt198 => ((laws_markPairS.f kj15 t182 bt198.1).bind fun bt200 => (if bt200.1 < 0 then (laws_FnExactPairsJoin.j1 kj15 l0 l1 t175 t176 t185 true) else ((laws_eqPairS.f kj15 t185 t175).bind fun t202 => (if t202 = true then (laws_FnExactPairsJoin.j1 kj15 l0 l1 t175 t176 t185 (t186 != t176)) else (laws_FnExactPairsJoin.j1 kj15 l0 l1 t175 t176 t185 true)))))) else (none)) = some r := H
              have A42 := Aside0.mk A420
              clear A420
              by_cases c43 : t197 = true
              · subst c43
                have H1 : ((laws_markPairS.f kj15 t179 1).bind fun bt198 => ((laws_markPairS.f kj15 t182 bt198.1).bind fun bt200 => (if bt200.1 < 0 then (laws_FnExactPairsJoin.j1 kj15 l0 l1 t175 t176 t185 true) else ((laws_eqPairS.f kj15 t185 t175).bind fun t202 => (if t202 = true then (laws_FnExactPairsJoin.j1 kj15 l0 l1 t175 t176 t185 (t186 != t176)) else (laws_FnExactPairsJoin.j1 kj15 l0 l1 t175 t176 t185 true)))))) = some r := by rw [if_pos rfl] at H; exact H
                clear H
                have H := H1
                clear H1
                replace H := Option.bind_eq_some_iff.mp H
                obtain ⟨⟨t198, t199⟩, A440, H⟩ := H
                replace H : ((laws_markPairS.f kj15 t182 t198).bind fun bt200 => (if bt200.1 < 0 then (laws_FnExactPairsJoin.j1 kj15 l0 l1 t175 t176 t185 true) else ((laws_eqPairS.f kj15 t185 t175).bind fun t202 => (if t202 = true then (laws_FnExactPairsJoin.j1 kj15 l0 l1 t175 t176 t185 (t186 != t176)) else (laws_FnExactPairsJoin.j1 kj15 l0 l1 t175 t176 t185 true))))) = some r := H
                have A44 := Aside0.mk A440
                clear A440
                replace H := Option.bind_eq_some_iff.mp H
                obtain ⟨⟨t200, t201⟩, A450, H⟩ := H
                replace H : (if t200 < 0 then (laws_FnExactPairsJoin.j1 kj15 l0 l1 t175 t176 t185 true) else ((laws_eqPairS.f kj15 t185 t175).bind fun t202 => (if t202 = true then (laws_FnExactPairsJoin.j1 kj15 l0 l1 t175 t176 t185 (t186 != t176)) else (laws_FnExactPairsJoin.j1 kj15 l0 l1 t175 t176 t185 true)))) = some r := H
                have A45 := Aside0.mk A450
                clear A450
                have HC46 := Aside0.mk H
                clear H
                go_upto_region 21 with (first | ((with_reducible refine gate_callee (f := 17) rfl ?_); refine goesL_ (some 56) rfl rfl Try.func17 (by kernel_rfl) rfl #[.slice A0 l0.length c0] rfl (by (try simp only [List.map_toArray, List.map_cons, List.map_nil]); first | done | rfl | (simp only [List.length_drop, List.length_take]; rfl)) ?_; (with_reducible refine (laws_toPairS.calls kj15 _ _ l0 t190 _ ?side1 ?side2 A38.out).mono ?_); (case side1 => repeat (first | exact (Kd.C_below HR0.out HB.out) | (with_reducible refine Kd.C_alloc ?_ _) | (with_reducible refine Kd.C_drewN ?_ _) | (with_reducible refine Kd.C_drew ?_))); (case side2 => exact HC0.out); rintro e w47 ⟨v191, rfl, ho0, hb⟩; refine ⟨_, rfl, ?_⟩; have n0_ := Aside0.mk (Kd.R_elder' (by (with_reducible repeat (first | apply Kd.R_alloc | apply Kd.R_drewN | apply Kd.R_drew)); exact HO_6.out) (Kd.R_base ho0) hb); have n1_ := Aside0.mk (Kd.R_elder' (by (with_reducible repeat (first | apply Kd.R_alloc | apply Kd.R_drewN | apply Kd.R_drew)); exact HO_8.out) (Kd.R_base ho0) hb); have n2_ := Aside0.mk (Kd.R_elder' (by (with_reducible repeat (first | apply Kd.R_alloc | apply Kd.R_drewN | apply Kd.R_drew)); exact HO_9.out) (Kd.R_base ho0) hb); have n3_ := Aside0.mk (Kd.R_elder' (by (with_reducible repeat (first | apply Kd.R_alloc | apply Kd.R_drewN | apply Kd.R_drew)); exact HO_10.out) (Kd.R_base ho0) hb); have n4_ := Aside0.mk (Kd.R_lower (Kd.R_new' (Kd.R_new' (Kd.R_new' (Kd.R_new' ho0 (Kd.R_lt (by (with_reducible repeat (first | apply Kd.R_alloc | apply Kd.R_drewN | apply Kd.R_drew)); exact HO_6.out))) (Kd.R_lt (by (with_reducible repeat (first | apply Kd.R_alloc | apply Kd.R_drewN | apply Kd.R_drew)); exact HO_8.out))) (Kd.R_lt (by (with_reducible repeat (first | apply Kd.R_alloc | apply Kd.R_drewN | apply Kd.R_drew)); exact HO_9.out))) (Kd.R_lt (by (with_reducible repeat (first | apply Kd.R_alloc | apply Kd.R_drewN | apply Kd.R_drew)); exact HO_10.out))) (below_size (by repeat (first | (with_reducible first | exact HB.out | apply below_alloc | apply pw_below_drewN | apply below_drew1) | exact HB.out)))); have n5_ := Aside0.mk (below_step (by repeat (first | (with_reducible first | exact HB.out | apply below_alloc | apply pw_below_drewN | apply below_drew1) | exact HB.out)) hb); clear HO_6; clear HO_8; clear HO_9; clear HO_10; clear HB; have HO_6 := n0_; have HO_8 := n1_; have HO_9 := n2_; have HO_10 := n3_; have HO192 := n4_; have HB := n5_; clear n0_ n1_ n2_ n3_ n4_ n5_; (try clear hb); (try clear hb2); (try clear hk); (try clear hi); (try clear ho0); obtain ⟨Ao48, co48, eo48⟩ := Kd.R_slice HO192.out; subst eo48) | ((with_reducible refine gate_callee (f := 19) rfl ?_); refine goesL_ (some 57) rfl rfl Try.func19 (by kernel_rfl) rfl #[.slice Ao26 t179.length co26, .slice Ao48 t190.length co48] rfl (by (try simp only [List.map_toArray, List.map_cons, List.map_nil]); first | done | rfl | (simp only [List.length_drop, List.length_take]; rfl)) ?_; (with_reducible refine (laws_eqPairS.calls kj15 _ _ t179 _ _ t190 true _ ?side1 ?side2 ?side3 ?side4 A39.out).mono ?_); (case side1 => repeat (first | exact (Kd.R_reads' HO_8.out).2.2 | (with_reducible refine Kd.C_alloc ?_ _) | (with_reducible refine Kd.C_drewN ?_ _) | (with_reducible refine Kd.C_drew ?_))); (case side2 => exact (Kd.R_reads' HO_8.out).2.1); (case side3 => repeat (first | exact (Kd.R_reads' HO192.out).2.2 | (with_reducible refine Kd.C_alloc ?_ _) | (with_reducible refine Kd.C_drewN ?_ _) | (with_reducible refine Kd.C_drew ?_))); (case side4 => exact (Kd.R_reads' HO192.out).2.1); rintro e w49 ⟨rfl, hb⟩; refine ⟨_, rfl, ?_⟩; have n0_ := Aside0.mk (Kd.R_below (by (with_reducible repeat (first | apply Kd.R_alloc | apply Kd.R_drewN | apply Kd.R_drew)); exact HO_6.out) hb); have n1_ := Aside0.mk (Kd.R_below (by (with_reducible repeat (first | apply Kd.R_alloc | apply Kd.R_drewN | apply Kd.R_drew)); exact HO_8.out) hb); have n2_ := Aside0.mk (Kd.R_below (by (with_reducible repeat (first | apply Kd.R_alloc | apply Kd.R_drewN | apply Kd.R_drew)); exact HO_9.out) hb); have n3_ := Aside0.mk (Kd.R_below (by (with_reducible repeat (first | apply Kd.R_alloc | apply Kd.R_drewN | apply Kd.R_drew)); exact HO_10.out) hb); have n4_ := Aside0.mk (Kd.R_below (by (with_reducible repeat (first | apply Kd.R_alloc | apply Kd.R_drewN | apply Kd.R_drew)); exact HO192.out) hb); have n5_ := Aside0.mk (below_step (by repeat (first | (with_reducible first | exact HB.out | apply below_alloc | apply pw_below_drewN | apply below_drew1) | exact HB.out)) hb); clear HO_6; clear HO_8; clear HO_9; clear HO_10; clear HO192; clear HB; have HO_6 := n0_; have HO_8 := n1_; have HO_9 := n2_; have HO_10 := n3_; have HO192 := n4_; have HB := n5_; clear n0_ n1_ n2_ n3_ n4_ n5_; (try clear hb); (try clear hb2); (try clear hk); (try clear hi)) | ((with_reducible refine gate_callee (f := 17) rfl ?_); refine goesL_ (some 61) rfl rfl Try.func17 (by kernel_rfl) rfl #[.slice A1 l1.length c1] rfl (by (try simp only [List.map_toArray, List.map_cons, List.map_nil]); first | done | rfl | (simp only [List.length_drop, List.length_take]; rfl)) ?_; (with_reducible refine (laws_toPairS.calls kj15 _ _ l1 t194 _ ?side1 ?side2 A41.out).mono ?_); (case side1 => repeat (first | exact (Kd.C_below HR1.out HB.out) | (with_reducible refine Kd.C_alloc ?_ _) | (with_reducible refine Kd.C_drewN ?_ _) | (with_reducible refine Kd.C_drew ?_))); (case side2 => exact HC1.out); rintro e w50 ⟨v195, rfl, ho0, hb⟩; refine ⟨_, rfl, ?_⟩; have n0_ := Aside0.mk (Kd.R_elder' (by (with_reducible repeat (first | apply Kd.R_alloc | apply Kd.R_drewN | apply Kd.R_drew)); exact HO_6.out) (Kd.R_base ho0) hb); have n1_ := Aside0.mk (Kd.R_elder' (by (with_reducible repeat (first | apply Kd.R_alloc | apply Kd.R_drewN | apply Kd.R_drew)); exact HO_8.out) (Kd.R_base ho0) hb); have n2_ := Aside0.mk (Kd.R_elder' (by (with_reducible repeat (first | apply Kd.R_alloc | apply Kd.R_drewN | apply Kd.R_drew)); exact HO_9.out) (Kd.R_base ho0) hb); have n3_ := Aside0.mk (Kd.R_elder' (by (with_reducible repeat (first | apply Kd.R_alloc | apply Kd.R_drewN | apply Kd.R_drew)); exact HO_10.out) (Kd.R_base ho0) hb); have n4_ := Aside0.mk (Kd.R_elder' (by (with_reducible repeat (first | apply Kd.R_alloc | apply Kd.R_drewN | apply Kd.R_drew)); exact HO192.out) (Kd.R_base ho0) hb); have n5_ := Aside0.mk (Kd.R_lower (Kd.R_new' (Kd.R_new' (Kd.R_new' (Kd.R_new' (Kd.R_new' ho0 (Kd.R_lt (by (with_reducible repeat (first | apply Kd.R_alloc | apply Kd.R_drewN | apply Kd.R_drew)); exact HO_6.out))) (Kd.R_lt (by (with_reducible repeat (first | apply Kd.R_alloc | apply Kd.R_drewN | apply Kd.R_drew)); exact HO_8.out))) (Kd.R_lt (by (with_reducible repeat (first | apply Kd.R_alloc | apply Kd.R_drewN | apply Kd.R_drew)); exact HO_9.out))) (Kd.R_lt (by (with_reducible repeat (first | apply Kd.R_alloc | apply Kd.R_drewN | apply Kd.R_drew)); exact HO_10.out))) (Kd.R_lt (by (with_reducible repeat (first | apply Kd.R_alloc | apply Kd.R_drewN | apply Kd.R_drew)); exact HO192.out))) (below_size (by repeat (first | (with_reducible first | exact HB.out | apply below_alloc | apply pw_below_drewN | apply below_drew1) | exact HB.out)))); have n6_ := Aside0.mk (below_step (by repeat (first | (with_reducible first | exact HB.out | apply below_alloc | apply pw_below_drewN | apply below_drew1) | exact HB.out)) hb); clear HO_6; clear HO_8; clear HO_9; clear HO_10; clear HO192; clear HB; have HO_6 := n0_; have HO_8 := n1_; have HO_9 := n2_; have HO_10 := n3_; have HO192 := n4_; have HO196 := n5_; have HB := n6_; clear n0_ n1_ n2_ n3_ n4_ n5_ n6_; (try clear hb); (try clear hb2); (try clear hk); (try clear hi); (try clear ho0); obtain ⟨Ao51, co51, eo51⟩ := Kd.R_slice HO196.out; subst eo51) | ((with_reducible refine gate_callee (f := 19) rfl ?_); refine goesL_ (some 62) rfl rfl Try.func19 (by kernel_rfl) rfl #[.slice Ao27 t182.length co27, .slice Ao51 t194.length co51] rfl (by (try simp only [List.map_toArray, List.map_cons, List.map_nil]); first | done | rfl | (simp only [List.length_drop, List.length_take]; rfl)) ?_; (with_reducible refine (laws_eqPairS.calls kj15 _ _ t182 _ _ t194 true _ ?side1 ?side2 ?side3 ?side4 A42.out).mono ?_); (case side1 => repeat (first | exact (Kd.R_reads' HO_9.out).2.2 | (with_reducible refine Kd.C_alloc ?_ _) | (with_reducible refine Kd.C_drewN ?_ _) | (with_reducible refine Kd.C_drew ?_))); (case side2 => exact (Kd.R_reads' HO_9.out).2.1); (case side3 => repeat (first | exact (Kd.R_reads' HO196.out).2.2 | (with_reducible refine Kd.C_alloc ?_ _) | (with_reducible refine Kd.C_drewN ?_ _) | (with_reducible refine Kd.C_drew ?_))); (case side4 => exact (Kd.R_reads' HO196.out).2.1); rintro e w52 ⟨rfl, hb⟩; refine ⟨_, rfl, ?_⟩; have n0_ := Aside0.mk (Kd.R_below (by (with_reducible repeat (first | apply Kd.R_alloc | apply Kd.R_drewN | apply Kd.R_drew)); exact HO_6.out) hb); have n1_ := Aside0.mk (Kd.R_below (by (with_reducible repeat (first | apply Kd.R_alloc | apply Kd.R_drewN | apply Kd.R_drew)); exact HO_8.out) hb); have n2_ := Aside0.mk (Kd.R_below (by (with_reducible repeat (first | apply Kd.R_alloc | apply Kd.R_drewN | apply Kd.R_drew)); exact HO_9.out) hb); have n3_ := Aside0.mk (Kd.R_below (by (with_reducible repeat (first | apply Kd.R_alloc | apply Kd.R_drewN | apply Kd.R_drew)); exact HO_10.out) hb); have n4_ := Aside0.mk (Kd.R_below (by (with_reducible repeat (first | apply Kd.R_alloc | apply Kd.R_drewN | apply Kd.R_drew)); exact HO192.out) hb); have n5_ := Aside0.mk (Kd.R_below (by (with_reducible repeat (first | apply Kd.R_alloc | apply Kd.R_drewN | apply Kd.R_drew)); exact HO196.out) hb); have n6_ := Aside0.mk (below_step (by repeat (first | (with_reducible first | exact HB.out | apply below_alloc | apply pw_below_drewN | apply below_drew1) | exact HB.out)) hb); clear HO_6; clear HO_8; clear HO_9; clear HO_10; clear HO192; clear HO196; clear HB; have HO_6 := n0_; have HO_8 := n1_; have HO_9 := n2_; have HO_10 := n3_; have HO192 := n4_; have HO196 := n5_; have HB := n6_; clear n0_ n1_ n2_ n3_ n4_ n5_ n6_; (try clear hb); (try clear hb2); (try clear hk); (try clear hi)) | ((with_reducible refine gate_callee (f := 27) rfl ?_); refine goesL_ (some 66) rfl rfl Try.func27 (by kernel_rfl) rfl #[.slice Ao26 t179.length co26, .int .i64 1] rfl (by (try simp only [List.map_toArray, List.map_cons, List.map_nil]); first | done | rfl | (simp only [List.length_drop, List.length_take]; rfl)) ?_; (with_reducible refine (laws_markPairS.calls kj15 (fun k_ => some k_ = (.slice Ao26 t179.length co26 : Value).ownBlock) (.slice Ao26 t179.length co26) t179 1 t198 t199 w _ ?side1 ?side2 A44.out).mono ?_); (case side1 => repeat (first | (with_reducible first | exact HB.out | apply below_alloc | apply pw_below_drewN | apply below_drew1) | exact HB.out)); (case side2 => exact Kd.R_tight rfl HO_8.out); rintro e w53 ⟨rfl, hy0, hb, hkp⟩; refine ⟨_, rfl, ?_⟩; have n0_ := Aside0.mk (Kd.R_mono (ok' := fun k_ => some k_ ≠ (.slice Ao26 t179.length co26 : Value).ownBlock ∧ some k_ ≠ (.slice Ao27 t182.length co27 : Value).ownBlock ∧ some k_ ≠ (v187 : Value).ownBlock ∧ some k_ ≠ (.slice Ao48 t190.length co48 : Value).ownBlock ∧ some k_ ≠ (.slice Ao51 t194.length co51 : Value).ownBlock) (Kd.R_keptB (HO_6.out) hkp (fun k_ hk_ hs_ => (hk_.1.1.1) hs_)) (fun k_ hk_ => ⟨hk_.1.1.1.1, hk_.1.1.1.2.1, hk_.1.1.1.2.2, hk_.1.1.2, hk_.1.2⟩)); have n1_ := Aside0.mk (Kd.R_reok rfl hy0 (fun k_ e_ => HO_8.out.1 k_ e_)); have n2_ := Aside0.mk (Kd.R_mono (ok' := fun k_ => some k_ ≠ (v177 : Value).ownBlock ∧ some k_ ≠ (.slice Ao26 t179.length co26 : Value).ownBlock ∧ some k_ ≠ (v187 : Value).ownBlock ∧ some k_ ≠ (.slice Ao48 t190.length co48 : Value).ownBlock ∧ some k_ ≠ (.slice Ao51 t194.length co51 : Value).ownBlock) (Kd.R_keptB (HO_9.out) hkp (fun k_ hk_ hs_ => (hk_.1.1.2.1) hs_)) (fun k_ hk_ => ⟨hk_.1.1.1.1, hk_.1.1.1.2.1, hk_.1.1.1.2.2, hk_.1.1.2, hk_.1.2⟩)); have n3_ := Aside0.mk (Kd.R_mono (ok' := fun k_ => some k_ ≠ (v177 : Value).ownBlock ∧ some k_ ≠ (.slice Ao26 t179.length co26 : Value).ownBlock ∧ some k_ ≠ (.slice Ao27 t182.length co27 : Value).ownBlock ∧ some k_ ≠ (.slice Ao48 t190.length co48 : Value).ownBlock ∧ some k_ ≠ (.slice Ao51 t194.length co51 : Value).ownBlock) (Kd.R_keptB (HO_10.out) hkp (fun k_ hk_ hs_ => (hk_.1.1.2.1) hs_)) (fun k_ hk_ => ⟨hk_.1.1.1.1, hk_.1.1.1.2.1, hk_.1.1.1.2.2, hk_.1.1.2, hk_.1.2⟩)); have n4_ := Aside0.mk (Kd.R_mono (ok' := fun k_ => some k_ ≠ (v177 : Value).ownBlock ∧ some k_ ≠ (.slice Ao26 t179.length co26 : Value).ownBlock ∧ some k_ ≠ (.slice Ao27 t182.length co27 : Value).ownBlock ∧ some k_ ≠ (v187 : Value).ownBlock ∧ some k_ ≠ (.slice Ao51 t194.length co51 : Value).ownBlock) (Kd.R_keptB (HO192.out) hkp (fun k_ hk_ hs_ => (hk_.1.1.1.2) hs_)) (fun k_ hk_ => ⟨hk_.1.1.1.1.1.2, hk_.1.1.1.1.2, hk_.1.1.1.2, hk_.1.1.2, hk_.1.2⟩)); have n5_ := Aside0.mk (Kd.R_mono (ok' := fun k_ => some k_ ≠ (v177 : Value).ownBlock ∧ some k_ ≠ (.slice Ao26 t179.length co26 : Value).ownBlock ∧ some k_ ≠ (.slice Ao27 t182.length co27 : Value).ownBlock ∧ some k_ ≠ (v187 : Value).ownBlock ∧ some k_ ≠ (.slice Ao48 t190.length co48 : Value).ownBlock) (Kd.R_keptB (HO196.out) hkp (fun k_ hk_ hs_ => (hk_.1.1.1.2) hs_)) (fun k_ hk_ => ⟨hk_.1.1.1.1.1.2, hk_.1.1.1.1.2, hk_.1.1.1.2, hk_.1.1.2, hk_.1.2⟩)); have n6_ := Aside0.mk (hb); clear HO_6; clear HO_8; clear HO_9; clear HO_10; clear HO192; clear HO196; clear HB; have HO_6 := n0_; have HO_8 := n1_; have HO_9 := n2_; have HO_10 := n3_; have HO192 := n4_; have HO196 := n5_; have HB := n6_; clear n0_ n1_ n2_ n3_ n4_ n5_ n6_; (try clear hb); (try clear hkp); (try clear hy0)) | ((with_reducible refine gate_callee (f := 27) rfl ?_); refine goesL_ (some 69) rfl rfl Try.func27 (by kernel_rfl) rfl #[.slice Ao27 t182.length co27, .int .i64 t198] rfl (by (try simp only [List.map_toArray, List.map_cons, List.map_nil]); first | done | rfl | (simp only [List.length_drop, List.length_take]; rfl)) ?_; (with_reducible refine (laws_markPairS.calls kj15 (fun k_ => some k_ = (.slice Ao27 t182.length co27 : Value).ownBlock) (.slice Ao27 t182.length co27) t182 t198 t200 t201 w _ ?side1 ?side2 A45.out).mono ?_); (case side1 => repeat (first | (with_reducible first | exact HB.out | apply below_alloc | apply pw_below_drewN | apply below_drew1) | exact HB.out)); (case side2 => exact Kd.R_tight rfl HO_9.out); rintro e w54 ⟨rfl, hy0, hb, hkp⟩; refine ⟨_, rfl, ?_⟩; have n0_ := Aside0.mk (Kd.R_mono (ok' := fun k_ => some k_ ≠ (.slice Ao26 t179.length co26 : Value).ownBlock ∧ some k_ ≠ (.slice Ao27 t182.length co27 : Value).ownBlock ∧ some k_ ≠ (v187 : Value).ownBlock ∧ some k_ ≠ (.slice Ao48 t190.length co48 : Value).ownBlock ∧ some k_ ≠ (.slice Ao51 t194.length co51 : Value).ownBlock) (Kd.R_keptB (HO_6.out) hkp (fun k_ hk_ hs_ => (hk_.2.1) hs_)) (fun k_ hk_ => ⟨hk_.1.1, hk_.1.2.1, hk_.1.2.2.1, hk_.1.2.2.2.1, hk_.1.2.2.2.2⟩)); have n1_ := Aside0.mk (Kd.R_mono (ok' := fun k_ => some k_ ≠ (v177 : Value).ownBlock ∧ some k_ ≠ (.slice Ao27 t182.length co27 : Value).ownBlock ∧ some k_ ≠ (v187 : Value).ownBlock ∧ some k_ ≠ (.slice Ao48 t190.length co48 : Value).ownBlock ∧ some k_ ≠ (.slice Ao51 t194.length co51 : Value).ownBlock) (Kd.R_keptB (HO_8.out) hkp (fun k_ hk_ hs_ => (hk_.1.1.2.1) hs_)) (fun k_ hk_ => ⟨hk_.1.1.1.1, hk_.1.1.1.2.1, hk_.1.1.1.2.2, hk_.1.1.2, hk_.1.2⟩)); have n2_ := Aside0.mk (Kd.R_reok rfl hy0 (fun k_ e_ => HO_9.out.1 k_ e_)); have n3_ := Aside0.mk (Kd.R_mono (ok' := fun k_ => some k_ ≠ (v177 : Value).ownBlock ∧ some k_ ≠ (.slice Ao26 t179.length co26 : Value).ownBlock ∧ some k_ ≠ (.slice Ao27 t182.length co27 : Value).ownBlock ∧ some k_ ≠ (.slice Ao48 t190.length co48 : Value).ownBlock ∧ some k_ ≠ (.slice Ao51 t194.length co51 : Value).ownBlock) (Kd.R_keptB (HO_10.out) hkp (fun k_ hk_ hs_ => (hk_.2.2.1) hs_)) (fun k_ hk_ => ⟨hk_.1.1, hk_.1.2.1, hk_.1.2.2.1, hk_.1.2.2.2.1, hk_.1.2.2.2.2⟩)); have n4_ := Aside0.mk (Kd.R_mono (ok' := fun k_ => some k_ ≠ (v177 : Value).ownBlock ∧ some k_ ≠ (.slice Ao26 t179.length co26 : Value).ownBlock ∧ some k_ ≠ (.slice Ao27 t182.length co27 : Value).ownBlock ∧ some k_ ≠ (v187 : Value).ownBlock ∧ some k_ ≠ (.slice Ao51 t194.length co51 : Value).ownBlock) (Kd.R_keptB (HO192.out) hkp (fun k_ hk_ hs_ => (hk_.2.2.1) hs_)) (fun k_ hk_ => ⟨hk_.1.1, hk_.1.2.1, hk_.1.2.2.1, hk_.1.2.2.2.1, hk_.1.2.2.2.2⟩)); have n5_ := Aside0.mk (Kd.R_mono (ok' := fun k_ => some k_ ≠ (v177 : Value).ownBlock ∧ some k_ ≠ (.slice Ao26 t179.length co26 : Value).ownBlock ∧ some k_ ≠ (.slice Ao27 t182.length co27 : Value).ownBlock ∧ some k_ ≠ (v187 : Value).ownBlock ∧ some k_ ≠ (.slice Ao48 t190.length co48 : Value).ownBlock) (Kd.R_keptB (HO196.out) hkp (fun k_ hk_ hs_ => (hk_.2.2.1) hs_)) (fun k_ hk_ => ⟨hk_.1.1, hk_.1.2.1, hk_.1.2.2.1, hk_.1.2.2.2.1, hk_.1.2.2.2.2⟩)); have n6_ := Aside0.mk (hb); clear HO_6; clear HO_8; clear HO_9; clear HO_10; clear HO192; clear HO196; clear HB; have HO_6 := n0_; have HO_8 := n1_; have HO_9 := n2_; have HO_10 := n3_; have HO192 := n4_; have HO196 := n5_; have HB := n6_; clear n0_ n1_ n2_ n3_ n4_ n5_ n6_; (try clear hb); (try clear hkp); (try clear hy0)))
                (try simp only [Act.put, List.setIfInBounds_toArray, List.set_cons_zero, List.set_cons_succ])
                go_cut [82] (fun v82 wc => ∃ (kq : Nat) (x82_45 : Bool), v82 = .bool x82_45 ∧ Aside0 (laws_FnExactPairsJoin.j1 kq l0 l1 t175 t176 t185 x82_45 = some r) ∧ Aside0 (kq ≤ kj15) ∧ Aside0 (Kd.R k71 71 wc w.heap.size (fun k_ => some k_ ≠ (v187 : Value).ownBlock) v177 t175) ∧ Aside0 (Kd.R k71 71 wc w.heap.size (fun k_ => some k_ ≠ (v177 : Value).ownBlock) v187 t185) ∧ Aside0 (Below w.heap.size w wc))
                case first =>
                  have H := HC46.out
                  clear HC46
                  by_cases c55 : t200 < 0
                  · rw [if_pos c55] at H
                    have c55b0 : decide (t200 < 0) = true := decide_eq_true c55
                    clear c55
                    (first | rw [c55b0] | (simp only [i64_w, i32_w]; rw [c55b0]) | skip)
                    have H' := Aside0.mk H
                    clear H
                    go_wp2
                    go_meet
                    case rel => exact ⟨_, (true), (by first | rfl | (simp; done) | (simp [bne]; done) | (simp [*]; done)), H', ⟨by have := HJ15.out; first | omega | exact Nat.le_refl _⟩, ⟨by (with_reducible repeat (first | apply Kd.R_alloc | apply Kd.R_drewN | apply Kd.R_drew)); exact Kd.R_mono HO_6.out (fun _ hk => hk.2.2.1)⟩, ⟨by (with_reducible repeat (first | apply Kd.R_alloc | apply Kd.R_drewN | apply Kd.R_drew)); exact Kd.R_mono HO_10.out (fun _ hk => hk.1)⟩, ⟨by repeat (first | (with_reducible first | exact HB.out | apply below_alloc | apply pw_below_drewN | apply below_drew1) | exact HB.out)⟩⟩
                  · rw [if_neg c55] at H
                    have c55b0 : decide (t200 < 0) = false := decide_eq_false c55
                    clear c55
                    (first | rw [c55b0] | (simp only [i64_w, i32_w]; rw [c55b0]) | skip)
                    replace H := Option.bind_eq_some_iff.mp H
                    obtain ⟨t202, A560, H⟩ := H
                    replace H : (if t202 = true then (laws_FnExactPairsJoin.j1 kj15 l0 l1 t175 t176 t185 (t186 != t176)) else (laws_FnExactPairsJoin.j1 kj15 l0 l1 t175 t176 t185 true)) = some r := H
                    have A56 := Aside0.mk A560
                    clear A560
                    by_cases c57 : t202 = true
                    · subst c57
                      have H1 : (laws_FnExactPairsJoin.j1 kj15 l0 l1 t175 t176 t185 (t186 != t176)) = some r := by rw [if_pos rfl] at H; exact H
                      clear H
                      have H := H1
                      clear H1
                      have H' := Aside0.mk H
                      clear H
                      obtain ⟨Ao58, co58, eo58⟩ := Kd.R_slice HO_10.out
                      subst eo58
                      obtain ⟨Ao59, co59, eo59⟩ := Kd.R_slice HO_6.out
                      subst eo59
                      go_wp2_with (first | (go_at_call 19; (with_reducible refine (laws_eqPairS.calls kj15 _ _ t185 _ _ t175 true _ ?side1 ?side2 ?side3 ?side4 A56.out).mono ?_); (case side1 => repeat (first | exact (Kd.R_reads' HO_10.out).2.2 | (with_reducible refine Kd.C_alloc ?_ _) | (with_reducible refine Kd.C_drewN ?_ _) | (with_reducible refine Kd.C_drew ?_))); (case side2 => exact (Kd.R_reads' HO_10.out).2.1); (case side3 => repeat (first | exact (Kd.R_reads' HO_6.out).2.2 | (with_reducible refine Kd.C_alloc ?_ _) | (with_reducible refine Kd.C_drewN ?_ _) | (with_reducible refine Kd.C_drew ?_))); (case side4 => exact (Kd.R_reads' HO_6.out).2.1); rintro e w60 ⟨rfl, hb⟩; have n0_ := Aside0.mk (Kd.R_below (by (with_reducible repeat (first | apply Kd.R_alloc | apply Kd.R_drewN | apply Kd.R_drew)); exact HO_6.out) hb); have n1_ := Aside0.mk (Kd.R_below (by (with_reducible repeat (first | apply Kd.R_alloc | apply Kd.R_drewN | apply Kd.R_drew)); exact HO_8.out) hb); have n2_ := Aside0.mk (Kd.R_below (by (with_reducible repeat (first | apply Kd.R_alloc | apply Kd.R_drewN | apply Kd.R_drew)); exact HO_9.out) hb); have n3_ := Aside0.mk (Kd.R_below (by (with_reducible repeat (first | apply Kd.R_alloc | apply Kd.R_drewN | apply Kd.R_drew)); exact HO_10.out) hb); have n4_ := Aside0.mk (Kd.R_below (by (with_reducible repeat (first | apply Kd.R_alloc | apply Kd.R_drewN | apply Kd.R_drew)); exact HO192.out) hb); have n5_ := Aside0.mk (Kd.R_below (by (with_reducible repeat (first | apply Kd.R_alloc | apply Kd.R_drewN | apply Kd.R_drew)); exact HO196.out) hb); have n6_ := Aside0.mk (below_step (by repeat (first | (with_reducible first | exact HB.out | apply below_alloc | apply pw_below_drewN | apply below_drew1) | exact HB.out)) hb); clear HO_6; clear HO_8; clear HO_9; clear HO_10; clear HO192; clear HO196; clear HB; have HO_6 := n0_; have HO_8 := n1_; have HO_9 := n2_; have HO_10 := n3_; have HO192 := n4_; have HO196 := n5_; have HB := n6_; clear n0_ n1_ n2_ n3_ n4_ n5_ n6_; (try clear hb); (try clear hb2); (try clear hk); (try clear hi)))
                      go_meet
                      case rel => exact ⟨_, ((t186 != t176)), (by first | rfl | (simp; done) | (simp [bne]; done) | (simp [*]; done)), H', ⟨by have := HJ15.out; first | omega | exact Nat.le_refl _⟩, ⟨by (with_reducible repeat (first | apply Kd.R_alloc | apply Kd.R_drewN | apply Kd.R_drew)); exact Kd.R_mono HO_6.out (fun _ hk => hk.2.2.1)⟩, ⟨by (with_reducible repeat (first | apply Kd.R_alloc | apply Kd.R_drewN | apply Kd.R_drew)); exact Kd.R_mono HO_10.out (fun _ hk => hk.1)⟩, ⟨by repeat (first | (with_reducible first | exact HB.out | apply below_alloc | apply pw_below_drewN | apply below_drew1) | exact HB.out)⟩⟩
                    · replace c57 := Bool.eq_false_iff.mpr c57
                      subst c57
                      have H1 : (laws_FnExactPairsJoin.j1 kj15 l0 l1 t175 t176 t185 true) = some r := by rw [if_neg (show ¬ (false = true) by decide)] at H; exact H
                      clear H
                      have H := H1
                      clear H1
                      have H' := Aside0.mk H
                      clear H
                      obtain ⟨Ao61, co61, eo61⟩ := Kd.R_slice HO_10.out
                      subst eo61
                      obtain ⟨Ao62, co62, eo62⟩ := Kd.R_slice HO_6.out
                      subst eo62
                      go_wp2_with (first | (go_at_call 19; (with_reducible refine (laws_eqPairS.calls kj15 _ _ t185 _ _ t175 false _ ?side1 ?side2 ?side3 ?side4 A56.out).mono ?_); (case side1 => repeat (first | exact (Kd.R_reads' HO_10.out).2.2 | (with_reducible refine Kd.C_alloc ?_ _) | (with_reducible refine Kd.C_drewN ?_ _) | (with_reducible refine Kd.C_drew ?_))); (case side2 => exact (Kd.R_reads' HO_10.out).2.1); (case side3 => repeat (first | exact (Kd.R_reads' HO_6.out).2.2 | (with_reducible refine Kd.C_alloc ?_ _) | (with_reducible refine Kd.C_drewN ?_ _) | (with_reducible refine Kd.C_drew ?_))); (case side4 => exact (Kd.R_reads' HO_6.out).2.1); rintro e w63 ⟨rfl, hb⟩; have n0_ := Aside0.mk (Kd.R_below (by (with_reducible repeat (first | apply Kd.R_alloc | apply Kd.R_drewN | apply Kd.R_drew)); exact HO_6.out) hb); have n1_ := Aside0.mk (Kd.R_below (by (with_reducible repeat (first | apply Kd.R_alloc | apply Kd.R_drewN | apply Kd.R_drew)); exact HO_8.out) hb); have n2_ := Aside0.mk (Kd.R_below (by (with_reducible repeat (first | apply Kd.R_alloc | apply Kd.R_drewN | apply Kd.R_drew)); exact HO_9.out) hb); have n3_ := Aside0.mk (Kd.R_below (by (with_reducible repeat (first | apply Kd.R_alloc | apply Kd.R_drewN | apply Kd.R_drew)); exact HO_10.out) hb); have n4_ := Aside0.mk (Kd.R_below (by (with_reducible repeat (first | apply Kd.R_alloc | apply Kd.R_drewN | apply Kd.R_drew)); exact HO192.out) hb); have n5_ := Aside0.mk (Kd.R_below (by (with_reducible repeat (first | apply Kd.R_alloc | apply Kd.R_drewN | apply Kd.R_drew)); exact HO196.out) hb); have n6_ := Aside0.mk (below_step (by repeat (first | (with_reducible first | exact HB.out | apply below_alloc | apply pw_below_drewN | apply below_drew1) | exact HB.out)) hb); clear HO_6; clear HO_8; clear HO_9; clear HO_10; clear HO192; clear HO196; clear HB; have HO_6 := n0_; have HO_8 := n1_; have HO_9 := n2_; have HO_10 := n3_; have HO192 := n4_; have HO196 := n5_; have HB := n6_; clear n0_ n1_ n2_ n3_ n4_ n5_ n6_; (try clear hb); (try clear hb2); (try clear hk); (try clear hi)))
                      go_meet
                      case rel => exact ⟨_, (true), (by first | rfl | (simp; done) | (simp [bne]; done) | (simp [*]; done)), H', ⟨by have := HJ15.out; first | omega | exact Nat.le_refl _⟩, ⟨by (with_reducible repeat (first | apply Kd.R_alloc | apply Kd.R_drewN | apply Kd.R_drew)); exact Kd.R_mono HO_6.out (fun _ hk => hk.2.2.1)⟩, ⟨by (with_reducible repeat (first | apply Kd.R_alloc | apply Kd.R_drewN | apply Kd.R_drew)); exact Kd.R_mono HO_10.out (fun _ hk => hk.1)⟩, ⟨by repeat (first | (with_reducible first | exact HB.out | apply below_alloc | apply pw_below_drewN | apply below_drew1) | exact HB.out)⟩⟩
                case rest =>
                  clear HC46
                  try clear c1
                  try clear c2
                  try clear p2
                  try clear c3
                  try clear c4
                  try clear c4b0
                  try clear c5
                  try clear c7
                  try clear c7b0
                  try clear c15
                  try clear c17
                  try clear c19
                  try clear c25
                  try clear c26
                  try clear c27
                  try clear c30
                  try clear c37
                  try clear c40
                  try clear c43
                  try clear c55
                  try clear c55b0
                  try clear c57
                  try clear p2
                  obtain ⟨kq, x82_45, rfl, HA, HJ45, HO_6, HO_10, HB⟩ := hcut
                  cases kq with
                  | zero => exact absurd HA.out (by simp [laws_FnExactPairsJoin.j1])
                  | succ kj45 =>
                    have H := HA.out
                    clear HA
                    simp only [laws_FnExactPairsJoin.j1] at H
                    by_cases c64 : x82_45 = true
                    · subst c64
                      have H1 : (none) = some r := by rw [if_pos rfl] at H; exact H
                      clear H
                      have H := H1
                      clear H1
                      exact absurd H (by simp)
                    · replace c64 := Bool.eq_false_iff.mpr c64
                      subst c64
                      have H1 : ((laws_markPairS.f kj45 t185 1).bind fun bt203 => ((laws_heldPairS.f kj45 bt203.2 1).bind fun t205 => (if t205 < 0 then (none) else (if t205 = bt203.1 then ((laws_toPairS.f kj45 l0).bind fun t206 => ((laws_toPairS.f kj45 l1).bind fun t209 => ((impl_PairsJoin.f kj45 t206 t209).bind fun bt212 => ((laws_eqPairS.f kj45 bt212.1 t175).bind fun t216 => (if t216 = true then (laws_FnExactPairsJoin.j2 kj45 bt203.2 bt203.1 (bt212.2 != t176)) else (laws_FnExactPairsJoin.j2 kj45 bt203.2 bt203.1 true)))))) else (none))))) = some r := by rw [if_neg (show ¬ (false = true) by decide)] at H; exact H
                      clear H
                      have H := H1
                      clear H1
                      replace H := Option.bind_eq_some_iff.mp H
                      obtain ⟨⟨t203, t204⟩, A650, H⟩ := H
                      replace H : ((laws_heldPairS.f kj45 t204 1).bind fun t205 => (if t205 < 0 then (none) else (if t205 = t203 then ((laws_toPairS.f kj45 l0).bind fun t206 => ((laws_toPairS.f kj45 l1).bind fun t209 => ((impl_PairsJoin.f kj45 t206 t209).bind fun bt212 => ((laws_eqPairS.f kj45 bt212.1 t175).bind fun t216 => (if t216 = true then (laws_FnExactPairsJoin.j2 kj45 t204 t203 (bt212.2 != t176)) else (laws_FnExactPairsJoin.j2 kj45 t204 t203 true)))))) else (none)))) = some r := H
                      have A65 := Aside0.mk A650
                      clear A650
                      replace H := Option.bind_eq_some_iff.mp H
                      obtain ⟨t205, A660, H⟩ := H
                      replace H : (if t205 < 0 then (none) else (if t205 = t203 then ((laws_toPairS.f kj45 l0).bind fun t206 => ((laws_toPairS.f kj45 l1).bind fun t209 => ((impl_PairsJoin.f kj45 t206 t209).bind fun bt212 => ((laws_eqPairS.f kj45 bt212.1 t175).bind fun t216 => (if t216 = true then (laws_FnExactPairsJoin.j2 kj45 t204 t203 (bt212.2 != t176)) else (laws_FnExactPairsJoin.j2 kj45 t204 t203 true)))))) else (none))) = some r := H
                      have A66 := Aside0.mk A660
                      clear A660
                      by_cases c67 : t205 < 0
                      · rw [if_pos c67] at H
                        exact absurd H (by simp)
                      · rw [if_neg c67] at H
                        have c67b0 : decide (t205 < 0) = false := decide_eq_false c67
                        clear c67
                        by_cases c68 : t205 = t203
                        · rw [if_pos c68] at H
                          have c68b0 : (t205 == t203) = true := beq_iff_eq.mpr c68
                          have c68b1 : (t205 != t203) = false := bne_eq_false_iff_eq.mpr c68
                          clear c68
                          replace H := Option.bind_eq_some_iff.mp H
                          obtain ⟨t206, A690, H⟩ := H
                          replace H : ((laws_toPairS.f kj45 l1).bind fun t209 => ((impl_PairsJoin.f kj45 t206 t209).bind fun bt212 => ((laws_eqPairS.f kj45 bt212.1 t175).bind fun t216 => (if t216 = true then (laws_FnExactPairsJoin.j2 kj45 t204 t203 (bt212.2 != t176)) else (laws_FnExactPairsJoin.j2 kj45 t204 t203 true))))) = some r := H
                          have A69 := Aside0.mk A690
                          clear A690
                          replace H := Option.bind_eq_some_iff.mp H
                          obtain ⟨t209, A700, H⟩ := H
                          replace H : ((impl_PairsJoin.f kj45 t206 t209).bind fun bt212 => ((laws_eqPairS.f kj45 bt212.1 t175).bind fun t216 => (if t216 = true then (laws_FnExactPairsJoin.j2 kj45 t204 t203 (bt212.2 != t176)) else (laws_FnExactPairsJoin.j2 kj45 t204 t203 true)))) = some r := H
                          have A70 := Aside0.mk A700
                          clear A700
                          replace H := Option.bind_eq_some_iff.mp H
                          obtain ⟨⟨t212, t213⟩, A710, H⟩ := H
                          replace H : ((laws_eqPairS.f kj45 t212 t175).bind fun t216 => (if t216 = true then (laws_FnExactPairsJoin.j2 kj45 t204 t203 (t213 != t176)) else (laws_FnExactPairsJoin.j2 kj45 t204 t203 true))) = some r := H
                          have A71 := Aside0.mk A710
                          clear A710
                          have HC72 := Aside0.mk H
                          clear H
                          obtain ⟨Ao73, co73, eo73⟩ := Kd.R_slice HO_10.out
                          subst eo73
                          go_upto_region 32 with (first | ((with_reducible refine gate_callee (f := 27) rfl ?_); refine goesL_ (some 85) rfl rfl Try.func27 (by kernel_rfl) rfl #[.slice Ao73 t185.length co73, .int .i64 1] rfl (by (try simp only [List.map_toArray, List.map_cons, List.map_nil]); first | done | rfl | (simp only [List.length_drop, List.length_take]; rfl)) ?_; (with_reducible refine (laws_markPairS.calls kj45 (fun k_ => some k_ = (.slice Ao73 t185.length co73 : Value).ownBlock) (.slice Ao73 t185.length co73) t185 1 t203 t204 w _ ?side1 ?side2 A65.out).mono ?_); (case side1 => repeat (first | (with_reducible first | exact HB.out | apply below_alloc | apply pw_below_drewN | apply below_drew1) | exact HB.out)); (case side2 => exact Kd.R_tight rfl HO_10.out); rintro e w74 ⟨rfl, hy0, hb, hkp⟩; refine ⟨_, rfl, ?_⟩; have n0_ := Aside0.mk (Kd.R_mono (ok' := fun k_ => some k_ ≠ (.slice Ao73 t185.length co73 : Value).ownBlock) (Kd.R_keptB (HO_6.out) hkp (fun k_ hk_ hs_ => (hk_) hs_)) (fun k_ hk_ => hk_.1)); have n1_ := Aside0.mk (Kd.R_reok rfl hy0 (fun k_ e_ => HO_10.out.1 k_ e_)); have n2_ := Aside0.mk (hb); clear HO_6; clear HO_10; clear HB; have HO_6 := n0_; have HO_10 := n1_; have HB := n2_; clear n0_ n1_ n2_; (try clear hb); (try clear hkp); (try clear hy0)) | ((with_reducible refine gate_callee (f := 28) rfl ?_); refine goesL_ (some 88) rfl rfl Try.func28 (by kernel_rfl) rfl #[.slice Ao73 t204.length co73, .int .i64 1] rfl (by (try simp only [List.map_toArray, List.map_cons, List.map_nil]); first | done | (rw [show t204.length = t185.length from (Kd.R_reads' HO_10.out).1.symm] <;> rfl) | rfl | (simp only [List.length_drop, List.length_take]; rfl)) ?_; (with_reducible refine (laws_heldPairS.calls kj45 _ _ t204 1 t205 _ ?side1 ?side2 A66.out).mono ?_); (case side1 => repeat (first | exact (Kd.R_reads' HO_10.out).2.2 | (with_reducible refine Kd.C_alloc ?_ _) | (with_reducible refine Kd.C_drewN ?_ _) | (with_reducible refine Kd.C_drew ?_))); (case side2 => rw [show t204.length = t185.length from (Kd.R_reads' HO_10.out).1.symm]; exact (Kd.R_reads' HO_10.out).2.1); rintro e w75 ⟨rfl, hb⟩; refine ⟨_, rfl, ?_⟩; have n0_ := Aside0.mk (Kd.R_below (by (with_reducible repeat (first | apply Kd.R_alloc | apply Kd.R_drewN | apply Kd.R_drew)); exact HO_6.out) hb); have n1_ := Aside0.mk (Kd.R_below (by (with_reducible repeat (first | apply Kd.R_alloc | apply Kd.R_drewN | apply Kd.R_drew)); exact HO_10.out) hb); have n2_ := Aside0.mk (below_step (by repeat (first | (with_reducible first | exact HB.out | apply below_alloc | apply pw_below_drewN | apply below_drew1) | exact HB.out)) hb); clear HO_6; clear HO_10; clear HB; have HO_6 := n0_; have HO_10 := n1_; have HB := n2_; clear n0_ n1_ n2_; (try clear hb); (try clear hb2); (try clear hk); (try clear hi)) | ((with_reducible refine gate_callee (f := 17) rfl ?_); refine goesL_ (some 96) rfl rfl Try.func17 (by kernel_rfl) rfl #[.slice A0 l0.length c0] rfl (by (try simp only [List.map_toArray, List.map_cons, List.map_nil]); first | done | rfl | (simp only [List.length_drop, List.length_take]; rfl)) ?_; (with_reducible refine (laws_toPairS.calls kj45 _ _ l0 t206 _ ?side1 ?side2 A69.out).mono ?_); (case side1 => repeat (first | exact (Kd.C_below HR0.out HB.out) | (with_reducible refine Kd.C_alloc ?_ _) | (with_reducible refine Kd.C_drewN ?_ _) | (with_reducible refine Kd.C_drew ?_))); (case side2 => exact HC0.out); rintro e w76 ⟨v207, rfl, ho0, hb⟩; refine ⟨_, rfl, ?_⟩; have n0_ := Aside0.mk (Kd.R_elder' (by (with_reducible repeat (first | apply Kd.R_alloc | apply Kd.R_drewN | apply Kd.R_drew)); exact HO_6.out) (Kd.R_base ho0) hb); have n1_ := Aside0.mk (Kd.R_elder' (by (with_reducible repeat (first | apply Kd.R_alloc | apply Kd.R_drewN | apply Kd.R_drew)); exact HO_10.out) (Kd.R_base ho0) hb); have n2_ := Aside0.mk (Kd.R_lower (Kd.R_new' (Kd.R_new' ho0 (Kd.R_lt (by (with_reducible repeat (first | apply Kd.R_alloc | apply Kd.R_drewN | apply Kd.R_drew)); exact HO_6.out))) (Kd.R_lt (by (with_reducible repeat (first | apply Kd.R_alloc | apply Kd.R_drewN | apply Kd.R_drew)); exact HO_10.out))) (below_size (by repeat (first | (with_reducible first | exact HB.out | apply below_alloc | apply pw_below_drewN | apply below_drew1) | exact HB.out)))); have n3_ := Aside0.mk (below_step (by repeat (first | (with_reducible first | exact HB.out | apply below_alloc | apply pw_below_drewN | apply below_drew1) | exact HB.out)) hb); clear HO_6; clear HO_10; clear HB; have HO_6 := n0_; have HO_10 := n1_; have HO208 := n2_; have HB := n3_; clear n0_ n1_ n2_ n3_; (try clear hb); (try clear hb2); (try clear hk); (try clear hi); (try clear ho0)) | ((with_reducible refine gate_callee (f := 17) rfl ?_); refine goesL_ (some 98) rfl rfl Try.func17 (by kernel_rfl) rfl #[.slice A1 l1.length c1] rfl (by (try simp only [List.map_toArray, List.map_cons, List.map_nil]); first | done | rfl | (simp only [List.length_drop, List.length_take]; rfl)) ?_; (with_reducible refine (laws_toPairS.calls kj45 _ _ l1 t209 _ ?side1 ?side2 A70.out).mono ?_); (case side1 => repeat (first | exact (Kd.C_below HR1.out HB.out) | (with_reducible refine Kd.C_alloc ?_ _) | (with_reducible refine Kd.C_drewN ?_ _) | (with_reducible refine Kd.C_drew ?_))); (case side2 => exact HC1.out); rintro e w77 ⟨v210, rfl, ho0, hb⟩; refine ⟨_, rfl, ?_⟩; have n0_ := Aside0.mk (Kd.R_elder' (by (with_reducible repeat (first | apply Kd.R_alloc | apply Kd.R_drewN | apply Kd.R_drew)); exact HO_6.out) (Kd.R_base ho0) hb); have n1_ := Aside0.mk (Kd.R_elder' (by (with_reducible repeat (first | apply Kd.R_alloc | apply Kd.R_drewN | apply Kd.R_drew)); exact HO_10.out) (Kd.R_base ho0) hb); have n2_ := Aside0.mk (Kd.R_elder' (by (with_reducible repeat (first | apply Kd.R_alloc | apply Kd.R_drewN | apply Kd.R_drew)); exact HO208.out) (Kd.R_base ho0) hb); have n3_ := Aside0.mk (Kd.R_lower (Kd.R_new' (Kd.R_new' (Kd.R_new' ho0 (Kd.R_lt (by (with_reducible repeat (first | apply Kd.R_alloc | apply Kd.R_drewN | apply Kd.R_drew)); exact HO_6.out))) (Kd.R_lt (by (with_reducible repeat (first | apply Kd.R_alloc | apply Kd.R_drewN | apply Kd.R_drew)); exact HO_10.out))) (Kd.R_lt (by (with_reducible repeat (first | apply Kd.R_alloc | apply Kd.R_drewN | apply Kd.R_drew)); exact HO208.out))) (below_size (by repeat (first | (with_reducible first | exact HB.out | apply below_alloc | apply pw_below_drewN | apply below_drew1) | exact HB.out)))); have n4_ := Aside0.mk (below_step (by repeat (first | (with_reducible first | exact HB.out | apply below_alloc | apply pw_below_drewN | apply below_drew1) | exact HB.out)) hb); clear HO_6; clear HO_10; clear HO208; clear HB; have HO_6 := n0_; have HO_10 := n1_; have HO208 := n2_; have HO211 := n3_; have HB := n4_; clear n0_ n1_ n2_ n3_ n4_; (try clear hb); (try clear hb2); (try clear hk); (try clear hi); (try clear ho0); obtain ⟨Ao78, co78, eo78⟩ := Kd.R_slice HO208.out; subst eo78; obtain ⟨Ao79, co79, eo79⟩ := Kd.R_slice HO211.out; subst eo79) | ((with_reducible refine gate_callee (f := 26) rfl ?_); refine goesL_ (some 99) rfl rfl Try.func26 (by kernel_rfl) rfl #[.slice Ao78 t206.length co78, .slice Ao79 t209.length co79] rfl (by (try simp only [List.map_toArray, List.map_cons, List.map_nil]); first | done | rfl | (simp only [List.length_drop, List.length_take]; rfl)) ?_; (with_reducible refine (impl_PairsJoin.calls kj45 _ _ t206 _ _ t209 t212 t213 _ ?side1 ?side2 ?side3 ?side4 A71.out).mono ?_); (case side1 => repeat (first | exact (Kd.R_reads' HO208.out).2.2 | (with_reducible refine Kd.C_alloc ?_ _) | (with_reducible refine Kd.C_drewN ?_ _) | (with_reducible refine Kd.C_drew ?_))); (case side2 => exact (Kd.R_reads' HO208.out).2.1); (case side3 => repeat (first | exact (Kd.R_reads' HO211.out).2.2 | (with_reducible refine Kd.C_alloc ?_ _) | (with_reducible refine Kd.C_drewN ?_ _) | (with_reducible refine Kd.C_drew ?_))); (case side4 => exact (Kd.R_reads' HO211.out).2.1); rintro e w80 ⟨v214, rfl, ho0, hb⟩; refine ⟨_, rfl, ?_⟩; have n0_ := Aside0.mk (Kd.R_elder' (by (with_reducible repeat (first | apply Kd.R_alloc | apply Kd.R_drewN | apply Kd.R_drew)); exact HO_6.out) (Kd.R_base ho0) hb); have n1_ := Aside0.mk (Kd.R_elder' (by (with_reducible repeat (first | apply Kd.R_alloc | apply Kd.R_drewN | apply Kd.R_drew)); exact HO_10.out) (Kd.R_base ho0) hb); have n2_ := Aside0.mk (Kd.R_elder' (by (with_reducible repeat (first | apply Kd.R_alloc | apply Kd.R_drewN | apply Kd.R_drew)); exact HO208.out) (Kd.R_base ho0) hb); have n3_ := Aside0.mk (Kd.R_elder' (by (with_reducible repeat (first | apply Kd.R_alloc | apply Kd.R_drewN | apply Kd.R_drew)); exact HO211.out) (Kd.R_base ho0) hb); have n4_ := Aside0.mk (Kd.R_lower (Kd.R_new' (Kd.R_new' (Kd.R_new' (Kd.R_new' ho0 (Kd.R_lt (by (with_reducible repeat (first | apply Kd.R_alloc | apply Kd.R_drewN | apply Kd.R_drew)); exact HO_6.out))) (Kd.R_lt (by (with_reducible repeat (first | apply Kd.R_alloc | apply Kd.R_drewN | apply Kd.R_drew)); exact HO_10.out))) (Kd.R_lt (by (with_reducible repeat (first | apply Kd.R_alloc | apply Kd.R_drewN | apply Kd.R_drew)); exact HO208.out))) (Kd.R_lt (by (with_reducible repeat (first | apply Kd.R_alloc | apply Kd.R_drewN | apply Kd.R_drew)); exact HO211.out))) (below_size (by repeat (first | (with_reducible first | exact HB.out | apply below_alloc | apply pw_below_drewN | apply below_drew1) | exact HB.out)))); have n5_ := Aside0.mk (below_step (by repeat (first | (with_reducible first | exact HB.out | apply below_alloc | apply pw_below_drewN | apply below_drew1) | exact HB.out)) hb); clear HO_6; clear HO_10; clear HO208; clear HO211; clear HB; have HO_6 := n0_; have HO_10 := n1_; have HO208 := n2_; have HO211 := n3_; have HO215 := n4_; have HB := n5_; clear n0_ n1_ n2_ n3_ n4_ n5_; (try clear hb); (try clear hb2); (try clear hk); (try clear hi); (try clear ho0)))
                          (try simp only [Act.put, List.setIfInBounds_toArray, List.set_cons_zero, List.set_cons_succ])
                          go_cut [110] (fun v110 wc => ∃ (kq : Nat) (x110_71 : Bool), v110 = .bool x110_71 ∧ Aside0 (laws_FnExactPairsJoin.j2 kq t204 t203 x110_71 = some r) ∧ Aside0 (kq ≤ kj45) ∧ Aside0 (Kd.R k71 71 wc w.heap.size (fun _ => True) (.slice Ao73 t185.length co73) t204) ∧ Aside0 (Below w.heap.size w wc))
                          case first =>
                            have H := HC72.out
                            clear HC72
                            replace H := Option.bind_eq_some_iff.mp H
                            obtain ⟨t216, A810, H⟩ := H
                            replace H : (if t216 = true then (laws_FnExactPairsJoin.j2 kj45 t204 t203 (t213 != t176)) else (laws_FnExactPairsJoin.j2 kj45 t204 t203 true)) = some r := H
                            have A81 := Aside0.mk A810
                            clear A810
                            by_cases c82 : t216 = true
                            · subst c82
                              have H1 : (laws_FnExactPairsJoin.j2 kj45 t204 t203 (t213 != t176)) = some r := by rw [if_pos rfl] at H; exact H
                              clear H
                              have H := H1
                              clear H1
                              have H' := Aside0.mk H
                              clear H
                              obtain ⟨Ao83, co83, eo83⟩ := Kd.R_slice HO215.out
                              subst eo83
                              obtain ⟨Ao84, co84, eo84⟩ := Kd.R_slice HO_6.out
                              subst eo84
                              go_wp2_with (first | ((with_reducible refine gate_callee (f := 19) rfl ?_); refine goesL_ (some 104) rfl rfl Try.func19 (by kernel_rfl) rfl #[.slice Ao83 t212.length co83, .slice Ao84 t175.length co84] rfl (by (try simp only [List.map_toArray, List.map_cons, List.map_nil]); first | done | rfl | (simp only [List.length_drop, List.length_take]; rfl)) ?_; (with_reducible refine (laws_eqPairS.calls kj45 _ _ t212 _ _ t175 true _ ?side1 ?side2 ?side3 ?side4 A81.out).mono ?_); (case side1 => repeat (first | exact (Kd.R_reads' HO215.out).2.2 | (with_reducible refine Kd.C_alloc ?_ _) | (with_reducible refine Kd.C_drewN ?_ _) | (with_reducible refine Kd.C_drew ?_))); (case side2 => exact (Kd.R_reads' HO215.out).2.1); (case side3 => repeat (first | exact (Kd.R_reads' HO_6.out).2.2 | (with_reducible refine Kd.C_alloc ?_ _) | (with_reducible refine Kd.C_drewN ?_ _) | (with_reducible refine Kd.C_drew ?_))); (case side4 => exact (Kd.R_reads' HO_6.out).2.1); rintro e w85 ⟨rfl, hb⟩; refine ⟨_, rfl, ?_⟩; have n0_ := Aside0.mk (Kd.R_below (by (with_reducible repeat (first | apply Kd.R_alloc | apply Kd.R_drewN | apply Kd.R_drew)); exact HO_6.out) hb); have n1_ := Aside0.mk (Kd.R_below (by (with_reducible repeat (first | apply Kd.R_alloc | apply Kd.R_drewN | apply Kd.R_drew)); exact HO_10.out) hb); have n2_ := Aside0.mk (Kd.R_below (by (with_reducible repeat (first | apply Kd.R_alloc | apply Kd.R_drewN | apply Kd.R_drew)); exact HO208.out) hb); have n3_ := Aside0.mk (Kd.R_below (by (with_reducible repeat (first | apply Kd.R_alloc | apply Kd.R_drewN | apply Kd.R_drew)); exact HO211.out) hb); have n4_ := Aside0.mk (Kd.R_below (by (with_reducible repeat (first | apply Kd.R_alloc | apply Kd.R_drewN | apply Kd.R_drew)); exact HO215.out) hb); have n5_ := Aside0.mk (below_step (by repeat (first | (with_reducible first | exact HB.out | apply below_alloc | apply pw_below_drewN | apply below_drew1) | exact HB.out)) hb); clear HO_6; clear HO_10; clear HO208; clear HO211; clear HO215; clear HB; have HO_6 := n0_; have HO_10 := n1_; have HO208 := n2_; have HO211 := n3_; have HO215 := n4_; have HB := n5_; clear n0_ n1_ n2_ n3_ n4_ n5_; (try clear hb); (try clear hb2); (try clear hk); (try clear hi)))
                              go_meet
                              case rel => exact ⟨_, ((t213 != t176)), (by first | rfl | (simp; done) | (simp [bne]; done) | (simp [*]; done)), H', ⟨by have := HJ15.out; have := HJ45.out; first | omega | exact Nat.le_refl _⟩, ⟨by (with_reducible repeat (first | apply Kd.R_alloc | apply Kd.R_drewN | apply Kd.R_drew)); exact Kd.R_mono HO_10.out (fun _ hk => trivial)⟩, ⟨by repeat (first | (with_reducible first | exact HB.out | apply below_alloc | apply pw_below_drewN | apply below_drew1) | exact HB.out)⟩⟩
                            · replace c82 := Bool.eq_false_iff.mpr c82
                              subst c82
                              have H1 : (laws_FnExactPairsJoin.j2 kj45 t204 t203 true) = some r := by rw [if_neg (show ¬ (false = true) by decide)] at H; exact H
                              clear H
                              have H := H1
                              clear H1
                              have H' := Aside0.mk H
                              clear H
                              obtain ⟨Ao86, co86, eo86⟩ := Kd.R_slice HO215.out
                              subst eo86
                              obtain ⟨Ao87, co87, eo87⟩ := Kd.R_slice HO_6.out
                              subst eo87
                              go_wp2_with (first | ((with_reducible refine gate_callee (f := 19) rfl ?_); refine goesL_ (some 104) rfl rfl Try.func19 (by kernel_rfl) rfl #[.slice Ao86 t212.length co86, .slice Ao87 t175.length co87] rfl (by (try simp only [List.map_toArray, List.map_cons, List.map_nil]); first | done | rfl | (simp only [List.length_drop, List.length_take]; rfl)) ?_; (with_reducible refine (laws_eqPairS.calls kj45 _ _ t212 _ _ t175 false _ ?side1 ?side2 ?side3 ?side4 A81.out).mono ?_); (case side1 => repeat (first | exact (Kd.R_reads' HO215.out).2.2 | (with_reducible refine Kd.C_alloc ?_ _) | (with_reducible refine Kd.C_drewN ?_ _) | (with_reducible refine Kd.C_drew ?_))); (case side2 => exact (Kd.R_reads' HO215.out).2.1); (case side3 => repeat (first | exact (Kd.R_reads' HO_6.out).2.2 | (with_reducible refine Kd.C_alloc ?_ _) | (with_reducible refine Kd.C_drewN ?_ _) | (with_reducible refine Kd.C_drew ?_))); (case side4 => exact (Kd.R_reads' HO_6.out).2.1); rintro e w88 ⟨rfl, hb⟩; refine ⟨_, rfl, ?_⟩; have n0_ := Aside0.mk (Kd.R_below (by (with_reducible repeat (first | apply Kd.R_alloc | apply Kd.R_drewN | apply Kd.R_drew)); exact HO_6.out) hb); have n1_ := Aside0.mk (Kd.R_below (by (with_reducible repeat (first | apply Kd.R_alloc | apply Kd.R_drewN | apply Kd.R_drew)); exact HO_10.out) hb); have n2_ := Aside0.mk (Kd.R_below (by (with_reducible repeat (first | apply Kd.R_alloc | apply Kd.R_drewN | apply Kd.R_drew)); exact HO208.out) hb); have n3_ := Aside0.mk (Kd.R_below (by (with_reducible repeat (first | apply Kd.R_alloc | apply Kd.R_drewN | apply Kd.R_drew)); exact HO211.out) hb); have n4_ := Aside0.mk (Kd.R_below (by (with_reducible repeat (first | apply Kd.R_alloc | apply Kd.R_drewN | apply Kd.R_drew)); exact HO215.out) hb); have n5_ := Aside0.mk (below_step (by repeat (first | (with_reducible first | exact HB.out | apply below_alloc | apply pw_below_drewN | apply below_drew1) | exact HB.out)) hb); clear HO_6; clear HO_10; clear HO208; clear HO211; clear HO215; clear HB; have HO_6 := n0_; have HO_10 := n1_; have HO208 := n2_; have HO211 := n3_; have HO215 := n4_; have HB := n5_; clear n0_ n1_ n2_ n3_ n4_ n5_; (try clear hb); (try clear hb2); (try clear hk); (try clear hi)))
                              go_meet
                              case rel => exact ⟨_, (true), (by first | rfl | (simp; done) | (simp [bne]; done) | (simp [*]; done)), H', ⟨by have := HJ15.out; have := HJ45.out; first | omega | exact Nat.le_refl _⟩, ⟨by (with_reducible repeat (first | apply Kd.R_alloc | apply Kd.R_drewN | apply Kd.R_drew)); exact Kd.R_mono HO_10.out (fun _ hk => trivial)⟩, ⟨by repeat (first | (with_reducible first | exact HB.out | apply below_alloc | apply pw_below_drewN | apply below_drew1) | exact HB.out)⟩⟩
                          case rest =>
                            clear HC72
                            try clear c1
                            try clear c2
                            try clear p2
                            try clear c3
                            try clear c4
                            try clear c4b0
                            try clear c5
                            try clear c6
                            try clear c7
                            try clear c7b0
                            try clear c8
                            try clear c15
                            try clear c17
                            try clear c19
                            try clear c25
                            try clear c26
                            try clear c27
                            try clear c28
                            try clear c30
                            try clear c37
                            try clear c40
                            try clear c43
                            try clear c55
                            try clear c55b0
                            try clear c57
                            try clear c64
                            try clear c67
                            try clear c67b0
                            try clear c68
                            try clear c68b0
                            try clear c68b1
                            try clear c82
                            try clear p2
                            obtain ⟨kq, x110_71, rfl, HA, HJ71, HO_10, HB⟩ := hcut
                            have hl10_71 := (Kd.R_reads' HO_10.out).1
                            rw [hl10_71] at HO_10
                            (try simp only [hl10_71])
                            cases kq with
                            | zero => exact absurd HA.out (by simp [laws_FnExactPairsJoin.j2])
                            | succ kj71 =>
                              have H := HA.out
                              clear HA
                              simp only [laws_FnExactPairsJoin.j2] at H
                              by_cases c89 : x110_71 = true
                              · subst c89
                                have H1 : (none) = some r := by rw [if_pos rfl] at H; exact H
                                clear H
                                have H := H1
                                clear H1
                                exact absurd H (by simp)
                              · replace c89 := Bool.eq_false_iff.mpr c89
                                subst c89
                                have H1 : ((laws_heldPairS.f kj71 t204 1).bind fun t217 => (if t217 < 0 then (none) else (if t217 = t203 then (some true) else (none)))) = some r := by rw [if_neg (show ¬ (false = true) by decide)] at H; exact H
                                clear H
                                have H := H1
                                clear H1
                                replace H := Option.bind_eq_some_iff.mp H
                                obtain ⟨t217, A900, H⟩ := H
                                replace H : (if t217 < 0 then (none) else (if t217 = t203 then (some true) else (none))) = some r := H
                                have A90 := Aside0.mk A900
                                clear A900
                                by_cases c91 : t217 < 0
                                · rw [if_pos c91] at H
                                  exact absurd H (by simp)
                                · rw [if_neg c91] at H
                                  have c91b0 : decide (t217 < 0) = false := decide_eq_false c91
                                  clear c91
                                  by_cases c92 : t217 = t203
                                  · rw [if_pos c92] at H
                                    have c92b0 : (t217 == t203) = true := beq_iff_eq.mpr c92
                                    have c92b1 : (t217 != t203) = false := bne_eq_false_iff_eq.mpr c92
                                    clear c92
                                    obtain rfl := Option.some.inj H
                                    go_wp2_with (first | ((with_reducible refine gate_callee (f := 28) rfl ?_); refine goesL_ (some 113) rfl rfl Try.func28 (by kernel_rfl) rfl #[.slice Ao73 t204.length co73, .int .i64 1] rfl (by (try simp only [List.map_toArray, List.map_cons, List.map_nil]); first | done | rfl | (simp only [List.length_drop, List.length_take]; rfl)) ?_; (with_reducible refine (laws_heldPairS.calls kj71 _ _ t204 1 t217 _ ?side1 ?side2 A90.out).mono ?_); (case side1 => repeat (first | exact (Kd.R_reads' HO_10.out).2.2 | (with_reducible refine Kd.C_alloc ?_ _) | (with_reducible refine Kd.C_drewN ?_ _) | (with_reducible refine Kd.C_drew ?_))); (case side2 => exact (Kd.R_reads' HO_10.out).2.1); rintro e w93 ⟨rfl, hb⟩; refine ⟨_, rfl, ?_⟩; have n0_ := Aside0.mk (Kd.R_below (by (with_reducible repeat (first | apply Kd.R_alloc | apply Kd.R_drewN | apply Kd.R_drew)); exact HO_10.out) hb); have n1_ := Aside0.mk (below_step (by repeat (first | (with_reducible first | exact HB.out | apply below_alloc | apply pw_below_drewN | apply below_drew1) | exact HB.out)) hb); clear HO_10; clear HB; have HO_10 := n0_; have HB := n1_; clear n0_ n1_; (try clear hb); (try clear hb2); (try clear hk); (try clear hi)))
                                    go_ret
                                    exact ⟨by first | rfl | (simp only [u8_w_, w64_u8_]; done) | (simp only [u8_w_, w64_u8_]; rfl) | (simp [errW_none, errW_some] <;> rfl) | (simp [*, errW_none, errW_some] <;> rfl), by repeat (first | (with_reducible first | exact HB.out | apply below_alloc | apply pw_below_drewN | apply below_drew1) | exact HB.out)⟩
                                  · rw [if_neg c92] at H
                                    exact absurd H (by simp)
                        · rw [if_neg c68] at H
                          exact absurd H (by simp)
              · replace c43 := Bool.eq_false_iff.mpr c43
                subst c43
                have H1 : (none) = some r := by rw [if_neg (show ¬ (false = true) by decide)] at H; exact H
                clear H
                have H := H1
                clear H1
                exact absurd H (by simp)
            · replace c40 := Bool.eq_false_iff.mpr c40
              subst c40
              have H1 : (none) = some r := by rw [if_neg (show ¬ (false = true) by decide)] at H; exact H
              clear H
              have H := H1
              clear H1
              exact absurd H (by simp)

end Go.Proofs.Yteomkhlhjhmbmaa.PFnExactPairsJoin
