-- Written for this claim by a program of this session (wip/myprint in the proofs' repo)
import Derived.Test.YtakgmbeglcehcaaPFnExactPairsInx0
import Derived.Test.YtakgmbeglcehcaaPFnExactPairsInx1
import Derived.Test.YtakgmbeglcehcaaPFnExactPairsInx2
import Derived.Test.YtakgmbeglcehcaaPFnExactPairsInx4
import Derived.Test.YtakgmbeglcehcaaPFnExactPairsInx6
namespace Go.Proofs.Ytakgmbeglcehcaa.PFnExactPairsIn
open Go.RowKit Go.Proofs.YtakgmbeglcehcaaW.PrintWords Go.Proofs.YtakgmbeglcehcaaW.PrintLast Go.Proofs.YtakgmbeglcehcaaW.PrintMore
attribute [local go_sem] max2_int min2_int max_two min_two max_three min_three max_four min_four max2_strs min2_strs   -- for this text's walks alone
set_option linter.unusedVariables false
set_option linter.unusedSimpArgs false

/-! ### laws_FnExactPairsIn: function 6 -/
def laws_FnExactPairsIn.j0 : Nat → List (S66) → List (S69) → List (S69) → Bool → ByteArray → ByteArray → Option (Bool)
  | 0, _, _, _, _, _, _ => none
  | k + 1, x0, x6, x8, x53, x203000, x203001 => if x53 = true then (none) else ((laws_markPairS.f k x8 1).bind fun bt229 => ((laws_heldPairS.f k bt229.2 1).bind fun t231 => (if t231 < 0 then (none) else (if t231 = bt229.1 then ((laws_toPairS.f k x0).bind fun t232 => ((laws_toInterval.f x203000 x203001).bind fun bt235 => ((impl_PairsIn.f k t232 bt235.1 bt235.2).bind fun t237 => ((laws_eqPairS.f k t237 x6).bind fun t240 => (if t240 = true then ((laws_heldPairS.f k bt229.2 1).bind fun t241 => (if t241 < 0 then (none) else (if t241 = bt229.1 then (some true) else (none)))) else (none)))))) else (none)))))
def laws_FnExactPairsIn.f (k : Nat) (l0 : List (S66)) (a1_0 : ByteArray) (a1_1 : ByteArray) : Option (Bool) := (laws_szPairS.f k l0 1048576).bind fun t203 => (if t203 < 0 then (some true) else ((laws_szInterval.f a1_0 a1_1 t203).bind fun t204 => (if t204 < 0 then (some true) else ((laws_toPairS.f k l0).bind fun t205 => ((laws_toInterval.f a1_0 a1_1).bind fun bt208 => ((spec_PairsIn.f k t205 bt208.1 bt208.2).bind fun t210 => ((laws_toPairS.f k l0).bind fun t213 => ((laws_toInterval.f a1_0 a1_1).bind fun bt216 => ((impl_PairsIn.f k t213 bt216.1 bt216.2).bind fun t218 => ((laws_eqPairS.f k t218 t210).bind fun t221 => (if t221 = true then ((laws_toPairS.f k l0).bind fun t222 => ((laws_eqPairS.f k t213 t222).bind fun t225 => (if t225 = true then ((laws_markPairS.f k t213 1).bind fun bt226 => (if bt226.1 < 0 then (laws_FnExactPairsIn.j0 k l0 t210 t218 true a1_0 a1_1) else ((laws_eqPairS.f k t218 t210).bind fun t228 => (laws_FnExactPairsIn.j0 k l0 t210 t218 (!t228) a1_0 a1_1)))) else (none)))) else (none))))))))))))
theorem laws_FnExactPairsIn.mono_l : ∀ k, (∀ y0 y1 y2 y3 y4 y5, LeO (laws_FnExactPairsIn.j0 k y0 y1 y2 y3 y4 y5) (laws_FnExactPairsIn.j0 (k + 1) y0 y1 y2 y3 y4 y5))
  | 0 => fun _ _ _ _ _ _ r h => by simp [laws_FnExactPairsIn.j0] at h
  | k + 1 => by
    have ih0 := laws_FnExactPairsIn.mono_l k
    · intro y0 y1 y2 y3 y4 y5
      unfold laws_FnExactPairsIn.j0
      repeat' first
      | (with_reducible exact ih0 _ _ _ _ _ _)
      | (with_reducible exact impl_PairsIn.mono _ _ _ _)
      | (with_reducible exact laws_eqPairS.mono _ _ _)
      | (with_reducible exact laws_heldPairS.mono _ _ _)
      | (with_reducible exact laws_markPairS.mono _ _ _)
      | (with_reducible exact laws_szPairS.mono _ _ _)
      | (with_reducible exact laws_toPairS.mono _ _)
      | (with_reducible exact spec_PairsIn.mono _ _ _ _)
      | (with_reducible exact LeO.refl _)
      | (with_reducible exact LeO.none _)
      | (with_reducible refine LeO.ite ?_ ?_)
      | (with_reducible refine LeO.bind ?_ (fun _ => ?_))
      | exact ih0 _ _ _ _ _ _
      | exact impl_PairsIn.mono _ _ _ _
      | exact laws_eqPairS.mono _ _ _
      | exact laws_heldPairS.mono _ _ _
      | exact laws_markPairS.mono _ _ _
      | exact laws_szPairS.mono _ _ _
      | exact laws_toPairS.mono _ _
      | exact spec_PairsIn.mono _ _ _ _
      | exact LeO.none _
      | refine LeO.ite ?_ ?_
      | refine LeO.bind ?_ (fun _ => ?_)
theorem laws_FnExactPairsIn.mono : ∀ a0 a1 a2 k, LeO (laws_FnExactPairsIn.f k a0 a1 a2) (laws_FnExactPairsIn.f (k + 1) a0 a1 a2) := by
  intro a0 a1 a2 k
  have ih0 := laws_FnExactPairsIn.mono_l k
  unfold laws_FnExactPairsIn.f
  repeat' first
      | (with_reducible exact ih0 _ _ _ _ _ _)
      | (with_reducible exact impl_PairsIn.mono _ _ _ _)
      | (with_reducible exact laws_eqPairS.mono _ _ _)
      | (with_reducible exact laws_heldPairS.mono _ _ _)
      | (with_reducible exact laws_markPairS.mono _ _ _)
      | (with_reducible exact laws_szPairS.mono _ _ _)
      | (with_reducible exact laws_toPairS.mono _ _)
      | (with_reducible exact spec_PairsIn.mono _ _ _ _)
      | (with_reducible exact LeO.refl _)
      | (with_reducible exact LeO.none _)
      | (with_reducible refine LeO.ite ?_ ?_)
      | (with_reducible refine LeO.bind ?_ (fun _ => ?_))
      | exact ih0 _ _ _ _ _ _
      | exact impl_PairsIn.mono _ _ _ _
      | exact laws_eqPairS.mono _ _ _
      | exact laws_heldPairS.mono _ _ _
      | exact laws_markPairS.mono _ _ _
      | exact laws_szPairS.mono _ _ _
      | exact laws_toPairS.mono _ _
      | exact spec_PairsIn.mono _ _ _ _
      | exact LeO.none _
      | refine LeO.ite ?_ ?_
      | refine LeO.bind ?_ (fun _ => ?_)
set_option maxHeartbeats 8000000 in
set_option maxRecDepth 100000 in
theorem laws_FnExactPairsIn.calls (k : Nat) (A0 : Option Addr) (c0 : Nat) (l0 : List (S66)) (a1_0 : ByteArray) (a1_1 : ByteArray) (r : Bool) (w : World) (hr0 : Kd.C k66 w A0 l0.length l0) (hc0 : l0.length ≤ c0) (h : laws_FnExactPairsIn.f k l0 a1_0 a1_1 = some r) :
    Calls Try.prog 6 #[.slice A0 l0.length c0, .agg #[.string a1_0, .string a1_1]] w fun e w' => e = .returned (.bool r) ∧ Below w.heap.size w w' := by
  have hu42 := Try.underlying42
  have HR0 := Aside0.mk hr0
  have HC0 := Aside0.mk hc0
  clear hr0 hc0
  have HB := Aside0.mk (Below.refl w.heap.size w)
  have H : ((laws_szPairS.f k l0 1048576).bind fun t203 => (if t203 < 0 then (some true) else ((laws_szInterval.f a1_0 a1_1 t203).bind fun t204 => (if t204 < 0 then (some true) else ((laws_toPairS.f k l0).bind fun t205 => ((laws_toInterval.f a1_0 a1_1).bind fun bt208 => ((spec_PairsIn.f k t205 bt208.1 bt208.2).bind fun t210 => ((laws_toPairS.f k l0).bind fun t213 => ((laws_toInterval.f a1_0 a1_1).bind fun bt216 => ((impl_PairsIn.f k t213 bt216.1 bt216.2).bind fun t218 => ((laws_eqPairS.f k t218 t210).bind fun t221 => (if t221 = true then ((laws_toPairS.f k l0).bind fun t222 => ((laws_eqPairS.f k t213 t222).bind fun t225 => (if t225 = true then ((laws_markPairS.f k t213 1).bind fun bt226 => (if bt226.1 < 0 then (laws_FnExactPairsIn.j0 k l0 t210 t218 true a1_0 a1_1) else ((laws_eqPairS.f k t218 t210).bind fun t228 => (laws_FnExactPairsIn.j0 k l0 t210 t218 (!t228) a1_0 a1_1)))) else (none)))) else (none))))))))))))) = some r := h
  clear h
  replace H := Option.bind_eq_some_iff.mp H
  obtain ⟨t203, A30, H⟩ := H
  replace H : (if t203 < 0 then (some true) else ((laws_szInterval.f a1_0 a1_1 t203).bind fun t204 => (if t204 < 0 then (some true) else ((laws_toPairS.f k l0).bind fun t205 => ((laws_toInterval.f a1_0 a1_1).bind fun bt208 => ((spec_PairsIn.f k t205 bt208.1 bt208.2).bind fun t210 => ((laws_toPairS.f k l0).bind fun t213 => ((laws_toInterval.f a1_0 a1_1).bind fun bt216 => ((impl_PairsIn.f k t213 bt216.1 bt216.2).bind fun t218 => ((laws_eqPairS.f k t218 t210).bind fun t221 => (if t221 = true then ((laws_toPairS.f k l0).bind fun t222 => ((laws_eqPairS.f k t213 t222).bind fun t225 => (if t225 = true then ((laws_markPairS.f k t213 1).bind fun bt226 => (if bt226.1 < 0 then (laws_FnExactPairsIn.j0 k l0 t210 t218 true a1_0 a1_1) else ((laws_eqPairS.f k t218 t210).bind fun t228 => (laws_FnExactPairsIn.j0 k l0 t210 t218 (!t228) a1_0 a1_1)))) else (none)))) else (none)))))))))))) = some r := H
  have A3 := Aside0.mk A30
  clear A30
  by_cases c4 : t203 < 0
  · rw [if_pos c4] at H
    have c4b0 : decide (t203 < 0) = true := decide_eq_true c4
    clear c4
    obtain rfl := Option.some.inj H
    go_enter Try.func6, Try.ntmps6
    go_wp2_with (first | ((with_reducible refine gate_dst (N := 3) rfl ?_); refine box_event ?hg (N := 3) ?hd (cs := #[.string a1_0, .string a1_1]) (t := 42) ?hr ?_; (case hd => rfl); (case hg => rfl); (case hr => first | (go_simp; done) | (go_simp; rfl)); intro gb202 hg w5 hbox hb; have n0_ := Aside0.mk (below_step (by repeat (first | (with_reducible first | exact HB.out | apply below_alloc | apply pw_below_drewN | apply below_drew1) | exact HB.out)) hb); have n1_ := Aside0.mk (hbox); have n2_ := Aside0.mk ((by rw [hg]; exact (below_size (by repeat (first | (with_reducible first | exact HB.out | apply below_alloc | apply pw_below_drewN | apply below_drew1) | exact HB.out))) : w.heap.size ≤ gb202)); have n3_ := Aside0.mk ((by rw [hg]; exact (below_size (by repeat (first | (with_reducible first | exact HB.out | apply below_alloc | apply pw_below_drewN | apply below_drew1) | exact HB.out))) : w.heap.size ≤ gb202)); clear HB; have HB := n0_; have BK202 := n1_; have GW202 := n2_; have GE202 := n3_; clear n0_ n1_ n2_ n3_; clear hb hbox hg) | ((with_reducible refine gate_callee (f := 11) rfl ?_); refine goesL_ (some 15) rfl rfl Try.func11 (by kernel_rfl) rfl #[.slice A0 l0.length c0, .int .i64 1048576] rfl (by (try simp only [List.map_toArray, List.map_cons, List.map_nil]); first | done | rfl | (simp only [List.length_drop, List.length_take]; rfl)) ?_; (with_reducible refine (laws_szPairS.calls k _ _ l0 1048576 t203 _ ?side1 ?side2 A3.out).mono ?_); (case side1 => repeat (first | exact (Kd.C_below HR0.out HB.out) | (with_reducible refine Kd.C_alloc ?_ _) | (with_reducible refine Kd.C_drewN ?_ _) | (with_reducible refine Kd.C_drew ?_))); (case side2 => exact HC0.out); rintro e w6 ⟨rfl, hb⟩; refine ⟨_, rfl, ?_⟩; have n0_ := Aside0.mk (blk_below (g := gb202) (o := .cells #[.string a1_0, .string a1_1] 42 (0, 0)) (by (with_reducible repeat (first | refine blk_drewN ?_ _ | refine blk_drew ?_ | refine blk_alloc ?_ _)); exact BK202.out) hb); have n1_ := Aside0.mk (below_step (by repeat (first | (with_reducible first | exact HB.out | apply below_alloc | apply pw_below_drewN | apply below_drew1 | refine below_set ?_ GE202.out) | exact HB.out)) hb); clear BK202; clear HB; have BK202 := n0_; have HB := n1_; clear n0_ n1_; (try clear hb); (try clear hb2); (try clear hk); (try clear hi)))
    go_ret
    exact ⟨by first | rfl | (simp only [u8_w_, w64_u8_]; done) | (simp only [u8_w_, w64_u8_]; rfl) | (simp [errW_none, errW_some] <;> rfl) | (simp [*, errW_none, errW_some] <;> rfl), by repeat (first | (with_reducible first | exact HB.out | apply below_alloc | apply pw_below_drewN | apply below_drew1 | refine below_set ?_ GE202.out) | exact HB.out)⟩
  · rw [if_neg c4] at H
    have c4b0 : decide (t203 < 0) = false := decide_eq_false c4
    clear c4
    replace H := Option.bind_eq_some_iff.mp H
    obtain ⟨t204, A70, H⟩ := H
    replace H : (if t204 < 0 then (some true) else ((laws_toPairS.f k l0).bind fun t205 => ((laws_toInterval.f a1_0 a1_1).bind fun bt208 => ((spec_PairsIn.f k t205 bt208.1 bt208.2).bind fun t210 => ((laws_toPairS.f k l0).bind fun t213 => ((laws_toInterval.f a1_0 a1_1).bind fun bt216 => ((impl_PairsIn.f k t213 bt216.1 bt216.2).bind fun t218 => ((laws_eqPairS.f k t218 t210).bind fun t221 => (if t221 = true then ((laws_toPairS.f k l0).bind fun t222 => ((laws_eqPairS.f k t213 t222).bind fun t225 => (if t225 = true then ((laws_markPairS.f k t213 1).bind fun bt226 => (if bt226.1 < 0 then (laws_FnExactPairsIn.j0 k l0 t210 t218 true a1_0 a1_1) else ((laws_eqPairS.f k t218 t210).bind fun t228 => (laws_FnExactPairsIn.j0 k l0 t210 t218 (!t228) a1_0 a1_1)))) else (none)))) else (none)))))))))) = some r := H
    have A7 := Aside0.mk A70
    clear A70
    by_cases c8 : t204 < 0
    · rw [if_pos c8] at H
      have c8b0 : decide (t204 < 0) = true := decide_eq_true c8
      clear c8
      obtain rfl := Option.some.inj H
      go_enter Try.func6, Try.ntmps6
      go_wp2_with (first | ((with_reducible refine gate_dst (N := 3) rfl ?_); refine box_event ?hg (N := 3) ?hd (cs := #[.string a1_0, .string a1_1]) (t := 42) ?hr ?_; (case hd => rfl); (case hg => rfl); (case hr => first | (go_simp; done) | (go_simp; rfl)); intro gb202 hg w9 hbox hb; have n0_ := Aside0.mk (below_step (by repeat (first | (with_reducible first | exact HB.out | apply below_alloc | apply pw_below_drewN | apply below_drew1) | exact HB.out)) hb); have n1_ := Aside0.mk (hbox); have n2_ := Aside0.mk ((by rw [hg]; exact (below_size (by repeat (first | (with_reducible first | exact HB.out | apply below_alloc | apply pw_below_drewN | apply below_drew1) | exact HB.out))) : w.heap.size ≤ gb202)); have n3_ := Aside0.mk ((by rw [hg]; exact (below_size (by repeat (first | (with_reducible first | exact HB.out | apply below_alloc | apply pw_below_drewN | apply below_drew1) | exact HB.out))) : w.heap.size ≤ gb202)); clear HB; have HB := n0_; have BK202 := n1_; have GW202 := n2_; have GE202 := n3_; clear n0_ n1_ n2_ n3_; clear hb hbox hg) | ((with_reducible refine gate_callee (f := 11) rfl ?_); refine goesL_ (some 15) rfl rfl Try.func11 (by kernel_rfl) rfl #[.slice A0 l0.length c0, .int .i64 1048576] rfl (by (try simp only [List.map_toArray, List.map_cons, List.map_nil]); first | done | rfl | (simp only [List.length_drop, List.length_take]; rfl)) ?_; (with_reducible refine (laws_szPairS.calls k _ _ l0 1048576 t203 _ ?side1 ?side2 A3.out).mono ?_); (case side1 => repeat (first | exact (Kd.C_below HR0.out HB.out) | (with_reducible refine Kd.C_alloc ?_ _) | (with_reducible refine Kd.C_drewN ?_ _) | (with_reducible refine Kd.C_drew ?_))); (case side2 => exact HC0.out); rintro e w10 ⟨rfl, hb⟩; refine ⟨_, rfl, ?_⟩; have n0_ := Aside0.mk (blk_below (g := gb202) (o := .cells #[.string a1_0, .string a1_1] 42 (0, 0)) (by (with_reducible repeat (first | refine blk_drewN ?_ _ | refine blk_drew ?_ | refine blk_alloc ?_ _)); exact BK202.out) hb); have n1_ := Aside0.mk (below_step (by repeat (first | (with_reducible first | exact HB.out | apply below_alloc | apply pw_below_drewN | apply below_drew1 | refine below_set ?_ GE202.out) | exact HB.out)) hb); clear BK202; clear HB; have BK202 := n0_; have HB := n1_; clear n0_ n1_; (try clear hb); (try clear hb2); (try clear hk); (try clear hi); have hcz11_0 : w10.cell? ⟨gb202, 0, none⟩ = some (.string a1_0) := (blk_cell BK202.out 0).trans rfl; have hcz11_1 : w10.cell? ⟨gb202, 1, none⟩ = some (.string a1_1) := (blk_cell BK202.out 1).trans rfl; have hfz11_0 := blk_frozen BK202.out 0; have hfz11_1 := blk_frozen BK202.out 1) | ((with_reducible refine gate_callee (f := 26) rfl ?_); refine goesL_ (some 20) rfl rfl Try.func26 (by kernel_rfl) rfl #[.agg #[.string a1_0, .string a1_1], .int .i64 t203] rfl (by (try simp only [List.map_toArray, List.map_cons, List.map_nil]); first | done | rfl | (simp only [List.length_drop, List.length_take]; rfl)) ?_; (with_reducible refine (laws_szInterval.calls a1_0 a1_1 t203 t204 _ A7.out).mono ?_); rintro e w12 ⟨rfl, hb⟩; refine ⟨_, rfl, ?_⟩; have n0_ := Aside0.mk (blk_below (g := gb202) (o := .cells #[.string a1_0, .string a1_1] 42 (0, 0)) (by (with_reducible repeat (first | refine blk_drewN ?_ _ | refine blk_drew ?_ | refine blk_alloc ?_ _)); exact BK202.out) hb); have n1_ := Aside0.mk (below_step (by repeat (first | (with_reducible first | exact HB.out | apply below_alloc | apply pw_below_drewN | apply below_drew1 | refine below_set ?_ GE202.out) | exact HB.out)) hb); clear BK202; clear HB; have BK202 := n0_; have HB := n1_; clear n0_ n1_; (try clear hb); (try clear hb2); (try clear hk); (try clear hi)))
      go_ret
      exact ⟨by first | rfl | (simp only [u8_w_, w64_u8_]; done) | (simp only [u8_w_, w64_u8_]; rfl) | (simp [errW_none, errW_some] <;> rfl) | (simp [*, errW_none, errW_some] <;> rfl), by repeat (first | (with_reducible first | exact HB.out | apply below_alloc | apply pw_below_drewN | apply below_drew1 | refine below_set ?_ GE202.out) | exact HB.out)⟩
    · rw [if_neg c8] at H
      have c8b0 : decide (t204 < 0) = false := decide_eq_false c8
      clear c8
      replace H := Option.bind_eq_some_iff.mp H
      obtain ⟨t205, A130, H⟩ := H
      replace H : ((laws_toInterval.f a1_0 a1_1).bind fun bt208 => ((spec_PairsIn.f k t205 bt208.1 bt208.2).bind fun t210 => ((laws_toPairS.f k l0).bind fun t213 => ((laws_toInterval.f a1_0 a1_1).bind fun bt216 => ((impl_PairsIn.f k t213 bt216.1 bt216.2).bind fun t218 => ((laws_eqPairS.f k t218 t210).bind fun t221 => (if t221 = true then ((laws_toPairS.f k l0).bind fun t222 => ((laws_eqPairS.f k t213 t222).bind fun t225 => (if t225 = true then ((laws_markPairS.f k t213 1).bind fun bt226 => (if bt226.1 < 0 then (laws_FnExactPairsIn.j0 k l0 t210 t218 true a1_0 a1_1) else ((laws_eqPairS.f k t218 t210).bind fun t228 => (laws_FnExactPairsIn.j0 k l0 t210 t218 (!t228) a1_0 a1_1)))) else (none)))) else (none)))))))) = some r := H
      have A13 := Aside0.mk A130
      clear A130
      replace H := Option.bind_eq_some_iff.mp H
      obtain ⟨⟨t208, t209⟩, A140, H⟩ := H
      replace H : ((spec_PairsIn.f k t205 t208 t209).bind fun t210 => ((laws_toPairS.f k l0).bind fun t213 => ((laws_toInterval.f a1_0 a1_1).bind fun bt216 => ((impl_PairsIn.f k t213 bt216.1 bt216.2).bind fun t218 => ((laws_eqPairS.f k t218 t210).bind fun t221 => (if t221 = true then ((laws_toPairS.f k l0).bind fun t222 => ((laws_eqPairS.f k t213 t222).bind fun t225 => (if t225 = true then ((laws_markPairS.f k t213 1).bind fun bt226 => (if bt226.1 < 0 then (laws_FnExactPairsIn.j0 k l0 t210 t218 true a1_0 a1_1) else ((laws_eqPairS.f k t218 t210).bind fun t228 => (laws_FnExactPairsIn.j0 k l0 t210 t218 (!t228) a1_0 a1_1)))) else (none)))) else (none))))))) = some r := H
      have A14 := Aside0.mk A140
      clear A140
      replace H := Option.bind_eq_some_iff.mp H
      obtain ⟨t210, A150, H⟩ := H
      replace H : ((laws_toPairS.f k l0).bind fun t213 => ((laws_toInterval.f a1_0 a1_1).bind fun bt216 => ((impl_PairsIn.f k t213 bt216.1 bt216.2).bind fun t218 => ((laws_eqPairS.f k t218 t210).bind fun t221 => (if t221 = true then ((laws_toPairS.f k l0).bind fun t222 => ((laws_eqPairS.f k t213 t222).bind fun t225 => (if t225 = true then ((laws_markPairS.f k t213 1).bind fun bt226 => (if bt226.1 < 0 then (laws_FnExactPairsIn.j0 k l0 t210 t218 true a1_0 a1_1) else ((laws_eqPairS.f k t218 t210).bind fun t228 => (laws_FnExactPairsIn.j0 k l0 t210 t218 (!t228) a1_0 a1_1)))) else (none)))) else (none)))))) = some r := H
      have A15 := Aside0.mk A150
      clear A150
      replace H := Option.bind_eq_some_iff.mp H
      obtain ⟨t213, A160, H⟩ := H
      replace H : ((laws_toInterval.f a1_0 a1_1).bind fun bt216 => ((impl_PairsIn.f k t213 bt216.1 bt216.2).bind fun t218 => ((laws_eqPairS.f k t218 t210).bind fun t221 => (if t221 = true then ((laws_toPairS.f k l0).bind fun t222 => ((laws_eqPairS.f k t213 t222).bind fun t225 => (if t225 = true then ((laws_markPairS.f k t213 1).bind fun bt226 => (if bt226.1 < 0 then (laws_FnExactPairsIn.j0 k l0 t210 t218 true a1_0 a1_1) else ((laws_eqPairS.f k t218 t210).bind fun t228 => (laws_FnExactPairsIn.j0 k l0 t210 t218 (!t228) a1_0 a1_1)))) else (none)))) else (none))))) = some r := H
      have A16 := Aside0.mk A160
      clear A160
      replace H := Option.bind_eq_some_iff.mp H
      obtain ⟨⟨t216, t217⟩, A170, H⟩ := H
      replace H : ((impl_PairsIn.f k t213 t216 t217).bind fun t218 => ((laws_eqPairS.f k t218 t210).bind fun t221 => (if t221 = true then ((laws_toPairS.f k l0).bind fun t222 => ((laws_eqPairS.f k t213 t222).bind fun t225 => (if t225 = true then ((laws_markPairS.f k t213 1).bind fun bt226 => (if bt226.1 < 0 then (laws_FnExactPairsIn.j0 k l0 t210 t218 true a1_0 a1_1) else ((laws_eqPairS.f k t218 t210).bind fun t228 => (laws_FnExactPairsIn.j0 k l0 t210 t218 (!t228) a1_0 a1_1)))) else (none)))) else (none)))) = some r := H
      have A17 := Aside0.mk A170
      clear A170
      replace H := Option.bind_eq_some_iff.mp H
      obtain ⟨t218, A180, H⟩ := H
      replace H : ((laws_eqPairS.f k t218 t210).bind fun t221 => (if t221 = true then ((laws_toPairS.f k l0).bind fun t222 => ((laws_eqPairS.f k t213 t222).bind fun t225 => (if t225 = true then ((laws_markPairS.f k t213 1).bind fun bt226 => (if bt226.1 < 0 then (laws_FnExactPairsIn.j0 k l0 t210 t218 true a1_0 a1_1) else ((laws_eqPairS.f k t218 t210).bind fun t228 => (laws_FnExactPairsIn.j0 k l0 t210 t218 (!t228) a1_0 a1_1)))) else (none)))) else (none))) = some r := H
      have A18 := Aside0.mk A180
      clear A180
      replace H := Option.bind_eq_some_iff.mp H
      obtain ⟨t221, A190, H⟩ := H
      replace H : (if t221 = true then ((laws_toPairS.f k l0).bind fun t222 => ((laws_eqPairS.f k t213 t222).bind fun t225 => (if t225 = true then ((laws_markPairS.f k t213 1).bind fun bt226 => (if bt226.1 < 0 then (laws_FnExactPairsIn.j0 k l0 t210 t218 true a1_0 a1_1) else ((laws_eqPairS.f k t218 t210).bind fun t228 => (laws_FnExactPairsIn.j0 k l0 t210 t218 (!t228) a1_0 a1_1)))) else (none)))) else (none)) = some r := H
      have A19 := Aside0.mk A190
      clear A190
      by_cases c20 : t221 = true
      · subst c20
        have H1 : ((laws_toPairS.f k l0).bind fun t222 => ((laws_eqPairS.f k t213 t222).bind fun t225 => (if t225 = true then ((laws_markPairS.f k t213 1).bind fun bt226 => (if bt226.1 < 0 then (laws_FnExactPairsIn.j0 k l0 t210 t218 true a1_0 a1_1) else ((laws_eqPairS.f k t218 t210).bind fun t228 => (laws_FnExactPairsIn.j0 k l0 t210 t218 (!t228) a1_0 a1_1)))) else (none)))) = some r := by rw [if_pos rfl] at H; exact H
        clear H
        have H := H1
        clear H1
        replace H := Option.bind_eq_some_iff.mp H
        obtain ⟨t222, A210, H⟩ := H
        replace H : ((laws_eqPairS.f k t213 t222).bind fun t225 => (if t225 = true then ((laws_markPairS.f k t213 1).bind fun bt226 => (if bt226.1 < 0 then (laws_FnExactPairsIn.j0 k l0 t210 t218 true a1_0 a1_1) else ((laws_eqPairS.f k t218 t210).bind fun t228 => (laws_FnExactPairsIn.j0 k l0 t210 t218 (!t228) a1_0 a1_1)))) else (none))) = some r := H
        have A21 := Aside0.mk A210
        clear A210
        replace H := Option.bind_eq_some_iff.mp H
        obtain ⟨t225, A220, H⟩ := H
        replace H : (if t225 = true then ((laws_markPairS.f k t213 1).bind fun bt226 => (if bt226.1 < 0 then (laws_FnExactPairsIn.j0 k l0 t210 t218 true a1_0 a1_1) else ((laws_eqPairS.f k t218 t210).bind fun t228 => (laws_FnExactPairsIn.j0 k l0 t210 t218 (!t228) a1_0 a1_1)))) else (none)) = some r := H
        have A22 := Aside0.mk A220
        clear A220
        by_cases c23 : t225 = true
        · subst c23
          have H1 : ((laws_markPairS.f k t213 1).bind fun bt226 => (if bt226.1 < 0 then (laws_FnExactPairsIn.j0 k l0 t210 t218 true a1_0 a1_1) else ((laws_eqPairS.f k t218 t210).bind fun t228 => (laws_FnExactPairsIn.j0 k l0 t210 t218 (!t228) a1_0 a1_1)))) = some r := by rw [if_pos rfl] at H; exact H
          clear H
          have H := H1
          clear H1
          replace H := Option.bind_eq_some_iff.mp H
          obtain ⟨⟨t226, t227⟩, A240, H⟩ := H
          replace H : (if t226 < 0 then (laws_FnExactPairsIn.j0 k l0 t210 t218 true a1_0 a1_1) else ((laws_eqPairS.f k t218 t210).bind fun t228 => (laws_FnExactPairsIn.j0 k l0 t210 t218 (!t228) a1_0 a1_1))) = some r := H
          have A24 := Aside0.mk A240
          clear A240
          have HC25 := Aside0.mk H
          clear H
          go_enter Try.func6, Try.ntmps6
          try go_wp2_with (first | ((with_reducible refine gate_dst (N := 3) rfl ?_); refine box_event ?hg (N := 3) ?hd (cs := #[.string a1_0, .string a1_1]) (t := 42) ?hr ?_; (case hd => rfl); (case hg => rfl); (case hr => first | (go_simp; done) | (go_simp; rfl)); intro gb202 hg w26 hbox hb; have n0_ := Aside0.mk (below_step (by repeat (first | (with_reducible first | exact HB.out | apply below_alloc | apply pw_below_drewN | apply below_drew1) | exact HB.out)) hb); have n1_ := Aside0.mk (hbox); have n2_ := Aside0.mk ((by rw [hg]; exact (below_size (by repeat (first | (with_reducible first | exact HB.out | apply below_alloc | apply pw_below_drewN | apply below_drew1) | exact HB.out))) : w.heap.size ≤ gb202)); have n3_ := Aside0.mk ((by rw [hg]; exact (below_size (by repeat (first | (with_reducible first | exact HB.out | apply below_alloc | apply pw_below_drewN | apply below_drew1) | exact HB.out))) : w.heap.size ≤ gb202)); clear HB; have HB := n0_; have BK202 := n1_; have GW202 := n2_; have GE202 := n3_; clear n0_ n1_ n2_ n3_; clear hb hbox hg) | ((with_reducible refine gate_callee (f := 11) rfl ?_); refine goesL_ (some 15) rfl rfl Try.func11 (by kernel_rfl) rfl #[.slice A0 l0.length c0, .int .i64 1048576] rfl (by (try simp only [List.map_toArray, List.map_cons, List.map_nil]); first | done | rfl | (simp only [List.length_drop, List.length_take]; rfl)) ?_; (with_reducible refine (laws_szPairS.calls k _ _ l0 1048576 t203 _ ?side1 ?side2 A3.out).mono ?_); (case side1 => repeat (first | exact (Kd.C_below HR0.out HB.out) | (with_reducible refine Kd.C_alloc ?_ _) | (with_reducible refine Kd.C_drewN ?_ _) | (with_reducible refine Kd.C_drew ?_))); (case side2 => exact HC0.out); rintro e w27 ⟨rfl, hb⟩; refine ⟨_, rfl, ?_⟩; have n0_ := Aside0.mk (blk_below (g := gb202) (o := .cells #[.string a1_0, .string a1_1] 42 (0, 0)) (by (with_reducible repeat (first | refine blk_drewN ?_ _ | refine blk_drew ?_ | refine blk_alloc ?_ _)); exact BK202.out) hb); have n1_ := Aside0.mk (below_step (by repeat (first | (with_reducible first | exact HB.out | apply below_alloc | apply pw_below_drewN | apply below_drew1 | refine below_set ?_ GE202.out) | exact HB.out)) hb); clear BK202; clear HB; have BK202 := n0_; have HB := n1_; clear n0_ n1_; (try clear hb); (try clear hb2); (try clear hk); (try clear hi); have hcz28_0 : w27.cell? ⟨gb202, 0, none⟩ = some (.string a1_0) := (blk_cell BK202.out 0).trans rfl; have hcz28_1 : w27.cell? ⟨gb202, 1, none⟩ = some (.string a1_1) := (blk_cell BK202.out 1).trans rfl; have hfz28_0 := blk_frozen BK202.out 0; have hfz28_1 := blk_frozen BK202.out 1) | ((with_reducible refine gate_callee (f := 26) rfl ?_); refine goesL_ (some 20) rfl rfl Try.func26 (by kernel_rfl) rfl #[.agg #[.string a1_0, .string a1_1], .int .i64 t203] rfl (by (try simp only [List.map_toArray, List.map_cons, List.map_nil]); first | done | rfl | (simp only [List.length_drop, List.length_take]; rfl)) ?_; (with_reducible refine (laws_szInterval.calls a1_0 a1_1 t203 t204 _ A7.out).mono ?_); rintro e w29 ⟨rfl, hb⟩; refine ⟨_, rfl, ?_⟩; have n0_ := Aside0.mk (blk_below (g := gb202) (o := .cells #[.string a1_0, .string a1_1] 42 (0, 0)) (by (with_reducible repeat (first | refine blk_drewN ?_ _ | refine blk_drew ?_ | refine blk_alloc ?_ _)); exact BK202.out) hb); have n1_ := Aside0.mk (below_step (by repeat (first | (with_reducible first | exact HB.out | apply below_alloc | apply pw_below_drewN | apply below_drew1 | refine below_set ?_ GE202.out) | exact HB.out)) hb); clear BK202; clear HB; have BK202 := n0_; have HB := n1_; clear n0_ n1_; (try clear hb); (try clear hb2); (try clear hk); (try clear hi)))
          have n0_ := Aside0.mk (blk_drew BK202.out)
          have n1_ := Aside0.mk (below_drew1 HB.out)
          clear BK202
          clear HB
          have BK202 := n0_
          have HB := n1_
          clear n0_ n1_
          refine start_ (n := 6) (S := fun w' => w'.cell? ⟨gb202, 0, none⟩ = some (.string a1_0) ∧ w'.cell? ⟨gb202, 1, none⟩ = some (.string a1_1)) (ds := []) #[false, false, false, false, false, false] (by kernel_rfl) rfl rfl ⟨(blk_cell BK202.out 0).trans rfl, (blk_cell BK202.out 1).trans rfl⟩ (fun hHeld => ?_)
          generalize w29.drew = w30 at BK202 HB hHeld ⊢
          refine pure_ (i := 0) (N := some 23) (v := ?_) (a' := ?_) #[true, false, false, false, false, false] rfl rfl (by kernel_rfl) (fun _ _ _ h => h) (Or.inl ⟨by rfl, ?_⟩) ?_ ?_
          rotate_left
          · intro w'
            go_simp
            with_reducible rfl
          rotate_left
          · simp only [Act.put, List.setIfInBounds_toArray, List.set_cons_zero, List.set_cons_succ, i64_w, i32_w]
            rfl
          refine take_ (i := 2) (N := some 25) (v := ?_) (a' := ?_) #[true, false, true, false, false, false] rfl rfl (by kernel_rfl) (fun _ _ _ h => h) (Or.inl ⟨by rfl, ?_⟩) hHeld ?_ ?_
          rotate_left
          · rintro w' ⟨s0, s1⟩
            go_simp
            with_reducible rfl
          rotate_left
          · simp only [Act.put, List.setIfInBounds_toArray, List.set_cons_zero, List.set_cons_succ, i64_w, i32_w]
            rfl
          refine one_ (i := 1) (N := some 24) #[true, true, true, false, false, false] rfl rfl (by kernel_rfl) (by decide) (fun K hK => ?_)
          refine goes_ Try.func13 (by kernel_rfl) rfl #[.slice A0 l0.length c0] (by rfl) rfl rfl (by (try simp only [List.map_toArray, List.map_cons, List.map_nil]); first | done | rfl | (simp only [List.length_drop, List.length_take]; rfl)) ?_
          with_reducible refine (laws_toPairS.calls k _ _ l0 t205 _ ?side1 ?side2 A13.out).mono ?_
          (case side1 => repeat (first | exact (Kd.C_below HR0.out HB.out) | (with_reducible refine Kd.C_alloc ?_ _) | (with_reducible refine Kd.C_drewN ?_ _) | (with_reducible refine Kd.C_drew ?_)))
          (case side2 => exact HC0.out)
          rintro e w31 ⟨v206, rfl, ho0, hb⟩
          refine ⟨_, rfl, ?_⟩
          have n0_ := Aside0.mk (Kd.R_lower ho0 (below_size (by repeat (first | (with_reducible first | exact HB.out | apply below_alloc | apply pw_below_drewN | apply below_drew1 | refine below_set ?_ GE202.out) | exact HB.out))))
          have n1_ := Aside0.mk (blk_below (g := gb202) (o := .cells #[.string a1_0, .string a1_1] 42 (0, 0)) (by (with_reducible repeat (first | refine blk_drewN ?_ _ | refine blk_drew ?_ | refine blk_alloc ?_ _)); exact BK202.out) hb)
          have n2_ := Aside0.mk (below_step (by repeat (first | (with_reducible first | exact HB.out | apply below_alloc | apply pw_below_drewN | apply below_drew1 | refine below_set ?_ GE202.out) | exact HB.out)) hb)
          clear BK202
          clear HB
          have HO207 := n0_
          have BK202 := n1_
          have HB := n2_
          clear n0_ n1_ n2_
          (try clear hb)
          (try clear hb2)
          (try clear hk)
          (try clear hi)
          (try clear ho0)
          refine hK.out _ _ ⟨(blk_cell BK202.out 0).trans rfl, (blk_cell BK202.out 1).trans rfl⟩ (fun hHeld => ?_)
          clear hK K
          refine norm_ (a' := ?_) ?_ ?_
          rotate_left
          · show Act.put _ (some 24) _ = _
            simp only [Act.put, List.setIfInBounds_toArray, List.set_cons_zero, List.set_cons_succ, i64_w, i32_w]
            rfl
          refine one_ (i := 3) (N := some 26) #[true, true, true, true, false, false] rfl rfl (by kernel_rfl) (by decide) (fun K hK => ?_)
          refine goes_ Try.func28 (by kernel_rfl) rfl #[.agg #[.string a1_0, .string a1_1]] (by rfl) rfl rfl (by (try simp only [List.map_toArray, List.map_cons, List.map_nil]); first | done | rfl | (simp only [List.length_drop, List.length_take]; rfl)) ?_
          with_reducible refine (laws_toInterval.calls a1_0 a1_1 t208 t209 _ A14.out).mono ?_
          rintro e w32 ⟨rfl, hb⟩
          refine ⟨_, rfl, ?_⟩
          have n0_ := Aside0.mk (Kd.R_below (by (with_reducible repeat (first | apply Kd.R_alloc | apply Kd.R_drewN | apply Kd.R_drew)); exact HO207.out) hb)
          have n1_ := Aside0.mk (blk_below (g := gb202) (o := .cells #[.string a1_0, .string a1_1] 42 (0, 0)) (by (with_reducible repeat (first | refine blk_drewN ?_ _ | refine blk_drew ?_ | refine blk_alloc ?_ _)); exact BK202.out) hb)
          have n2_ := Aside0.mk (below_step (by repeat (first | (with_reducible first | exact HB.out | apply below_alloc | apply pw_below_drewN | apply below_drew1 | refine below_set ?_ GE202.out) | exact HB.out)) hb)
          clear HO207
          clear BK202
          clear HB
          have HO207 := n0_
          have BK202 := n1_
          have HB := n2_
          clear n0_ n1_ n2_
          (try clear hb)
          (try clear hb2)
          (try clear hk)
          (try clear hi)
          obtain ⟨Ao33, co33, eo33⟩ := Kd.R_slice HO207.out
          (first | subst eo33 | (injection eo33 with f1_ f2_ f3_; have f4_ := f1_.symm; have f5_ := f3_.symm; clear f1_ f2_ f3_; subst f4_; subst f5_))
          refine hK.out _ _ ⟨(blk_cell BK202.out 0).trans rfl, (blk_cell BK202.out 1).trans rfl⟩ (fun hHeld => ?_)
          clear hK K
          refine norm_ (a' := ?_) ?_ ?_
          rotate_left
          · show Act.put _ (some 26) _ = _
            simp only [Act.put, List.setIfInBounds_toArray, List.set_cons_zero, List.set_cons_succ, i64_w, i32_w]
            rfl
          refine one_ (i := 4) (N := some 27) #[true, true, true, true, true, false] rfl rfl (by kernel_rfl) (by decide) (fun K hK => ?_)
          refine goes_ Try.func27 (by kernel_rfl) rfl #[.slice Ao33 t205.length co33, .agg #[.string t208, .string t209]] (by rfl) rfl rfl (by (try simp only [List.map_toArray, List.map_cons, List.map_nil]); first | done | rfl | (simp only [List.length_drop, List.length_take]; rfl)) ?_
          with_reducible refine (spec_PairsIn.calls k _ _ t205 t208 t209 t210 _ ?side1 ?side2 A15.out).mono ?_
          (case side1 => repeat (first | exact (Kd.R_reads' HO207.out).2.2 | (with_reducible refine Kd.C_alloc ?_ _) | (with_reducible refine Kd.C_drewN ?_ _) | (with_reducible refine Kd.C_drew ?_)))
          (case side2 => exact (Kd.R_reads' HO207.out).2.1)
          rintro e w34 ⟨v211, rfl, ho0, hb⟩
          refine ⟨_, rfl, ?_⟩
          have n0_ := Aside0.mk (Kd.R_elder' (by (with_reducible repeat (first | apply Kd.R_alloc | apply Kd.R_drewN | apply Kd.R_drew)); exact HO207.out) (Kd.R_base ho0) hb)
          have n1_ := Aside0.mk (Kd.R_lower (Kd.R_new' ho0 (Kd.R_lt (by (with_reducible repeat (first | apply Kd.R_alloc | apply Kd.R_drewN | apply Kd.R_drew)); exact HO207.out))) (below_size (by repeat (first | (with_reducible first | exact HB.out | apply below_alloc | apply pw_below_drewN | apply below_drew1 | refine below_set ?_ GE202.out) | exact HB.out))))
          have n2_ := Aside0.mk (blk_below (g := gb202) (o := .cells #[.string a1_0, .string a1_1] 42 (0, 0)) (by (with_reducible repeat (first | refine blk_drewN ?_ _ | refine blk_drew ?_ | refine blk_alloc ?_ _)); exact BK202.out) hb)
          have n3_ := Aside0.mk (below_step (by repeat (first | (with_reducible first | exact HB.out | apply below_alloc | apply pw_below_drewN | apply below_drew1 | refine below_set ?_ GE202.out) | exact HB.out)) hb)
          clear HO207
          clear BK202
          clear HB
          have HO207 := n0_
          have HO212 := n1_
          have BK202 := n2_
          have HB := n3_
          clear n0_ n1_ n2_ n3_
          (try clear hb)
          (try clear hb2)
          (try clear hk)
          (try clear hi)
          (try clear ho0)
          refine hK.out _ _ ⟨(blk_cell BK202.out 0).trans rfl, (blk_cell BK202.out 1).trans rfl⟩ (fun hHeld => ?_)
          clear hK K
          refine norm_ (a' := ?_) ?_ ?_
          rotate_left
          · show Act.put _ (some 27) _ = _
            simp only [Act.put, List.setIfInBounds_toArray, List.set_cons_zero, List.set_cons_succ, i64_w, i32_w]
            rfl
          refine pure_ (i := 5) (N := some 6) (v := ?_) (a' := ?_) #[true, true, true, true, true, true] rfl rfl (by kernel_rfl) (fun _ _ _ h => h) (Or.inl ⟨by rfl, ?_⟩) ?_ ?_
          rotate_left
          · intro w'
            go_simp
            with_reducible rfl
          rotate_left
          · simp only [Act.put, List.setIfInBounds_toArray, List.set_cons_zero, List.set_cons_succ, i64_w, i32_w]
            rfl
          refine done_ (by kernel_rfl) ?_
          go_upto_region 17 with (first | ((with_reducible refine gate_callee (f := 13) rfl ?_); refine goesL_ (some 29) rfl rfl Try.func13 (by kernel_rfl) rfl #[.slice A0 l0.length c0] rfl (by (try simp only [List.map_toArray, List.map_cons, List.map_nil]); first | done | rfl | (simp only [List.length_drop, List.length_take]; rfl)) ?_; (with_reducible refine (laws_toPairS.calls k _ _ l0 t213 _ ?side1 ?side2 A16.out).mono ?_); (case side1 => repeat (first | exact (Kd.C_below HR0.out HB.out) | (with_reducible refine Kd.C_alloc ?_ _) | (with_reducible refine Kd.C_drewN ?_ _) | (with_reducible refine Kd.C_drew ?_))); (case side2 => exact HC0.out); rintro e w35 ⟨v214, rfl, ho0, hb⟩; refine ⟨_, rfl, ?_⟩; have n0_ := Aside0.mk (Kd.R_elder' (by (with_reducible repeat (first | apply Kd.R_alloc | apply Kd.R_drewN | apply Kd.R_drew)); exact HO207.out) (Kd.R_base ho0) hb); have n1_ := Aside0.mk (Kd.R_elder' (by (with_reducible repeat (first | apply Kd.R_alloc | apply Kd.R_drewN | apply Kd.R_drew)); exact HO212.out) (Kd.R_base ho0) hb); have n2_ := Aside0.mk (Kd.R_lower (Kd.R_new' (Kd.R_new' ho0 (Kd.R_lt (by (with_reducible repeat (first | apply Kd.R_alloc | apply Kd.R_drewN | apply Kd.R_drew)); exact HO207.out))) (Kd.R_lt (by (with_reducible repeat (first | apply Kd.R_alloc | apply Kd.R_drewN | apply Kd.R_drew)); exact HO212.out))) (below_size (by repeat (first | (with_reducible first | exact HB.out | apply below_alloc | apply pw_below_drewN | apply below_drew1 | refine below_set ?_ GE202.out) | exact HB.out)))); have n3_ := Aside0.mk (blk_below (g := gb202) (o := .cells #[.string a1_0, .string a1_1] 42 (0, 0)) (by (with_reducible repeat (first | refine blk_drewN ?_ _ | refine blk_drew ?_ | refine blk_alloc ?_ _)); exact BK202.out) hb); have n4_ := Aside0.mk (below_step (by repeat (first | (with_reducible first | exact HB.out | apply below_alloc | apply pw_below_drewN | apply below_drew1 | refine below_set ?_ GE202.out) | exact HB.out)) hb); clear HO207; clear HO212; clear BK202; clear HB; have HO207 := n0_; have HO212 := n1_; have HO215 := n2_; have BK202 := n3_; have HB := n4_; clear n0_ n1_ n2_ n3_ n4_; (try clear hb); (try clear hb2); (try clear hk); (try clear hi); (try clear ho0); have hcz36_0 : w35.cell? ⟨gb202, 0, none⟩ = some (.string a1_0) := (blk_cell BK202.out 0).trans rfl; have hcz36_1 : w35.cell? ⟨gb202, 1, none⟩ = some (.string a1_1) := (blk_cell BK202.out 1).trans rfl; have hfz36_0 := blk_frozen BK202.out 0; have hfz36_1 := blk_frozen BK202.out 1) | ((with_reducible refine gate_callee (f := 28) rfl ?_); refine goesL_ (some 32) rfl rfl Try.func28 (by kernel_rfl) rfl #[.agg #[.string a1_0, .string a1_1]] rfl (by (try simp only [List.map_toArray, List.map_cons, List.map_nil]); first | done | rfl | (simp only [List.length_drop, List.length_take]; rfl)) ?_; (with_reducible refine (laws_toInterval.calls a1_0 a1_1 t216 t217 _ A17.out).mono ?_); rintro e w37 ⟨rfl, hb⟩; refine ⟨_, rfl, ?_⟩; have n0_ := Aside0.mk (Kd.R_below (by (with_reducible repeat (first | apply Kd.R_alloc | apply Kd.R_drewN | apply Kd.R_drew)); exact HO207.out) hb); have n1_ := Aside0.mk (Kd.R_below (by (with_reducible repeat (first | apply Kd.R_alloc | apply Kd.R_drewN | apply Kd.R_drew)); exact HO212.out) hb); have n2_ := Aside0.mk (Kd.R_below (by (with_reducible repeat (first | apply Kd.R_alloc | apply Kd.R_drewN | apply Kd.R_drew)); exact HO215.out) hb); have n3_ := Aside0.mk (blk_below (g := gb202) (o := .cells #[.string a1_0, .string a1_1] 42 (0, 0)) (by (with_reducible repeat (first | refine blk_drewN ?_ _ | refine blk_drew ?_ | refine blk_alloc ?_ _)); exact BK202.out) hb); have n4_ := Aside0.mk (below_step (by repeat (first | (with_reducible first | exact HB.out | apply below_alloc | apply pw_below_drewN | apply below_drew1 | refine below_set ?_ GE202.out) | exact HB.out)) hb); clear HO207; clear HO212; clear HO215; clear BK202; clear HB; have HO207 := n0_; have HO212 := n1_; have HO215 := n2_; have BK202 := n3_; have HB := n4_; clear n0_ n1_ n2_ n3_ n4_; (try clear hb); (try clear hb2); (try clear hk); (try clear hi); obtain ⟨Ao38, co38, eo38⟩ := Kd.R_slice HO215.out; subst eo38) | ((with_reducible refine gate_callee (f := 29) rfl ?_); refine goesL_ (some 33) rfl rfl Try.func29 (by kernel_rfl) rfl #[.slice Ao38 t213.length co38, .agg #[.string t216, .string t217]] rfl (by (try simp only [List.map_toArray, List.map_cons, List.map_nil]); first | done | rfl | (simp only [List.length_drop, List.length_take]; rfl)) ?_; (with_reducible refine (impl_PairsIn.calls k _ _ t213 t216 t217 t218 _ ?side1 ?side2 A18.out).mono ?_); (case side1 => repeat (first | exact (Kd.R_reads' HO215.out).2.2 | (with_reducible refine Kd.C_alloc ?_ _) | (with_reducible refine Kd.C_drewN ?_ _) | (with_reducible refine Kd.C_drew ?_))); (case side2 => exact (Kd.R_reads' HO215.out).2.1); rintro e w39 ⟨v219, rfl, ho0, hb⟩; refine ⟨_, rfl, ?_⟩; have n0_ := Aside0.mk (Kd.R_elder' (by (with_reducible repeat (first | apply Kd.R_alloc | apply Kd.R_drewN | apply Kd.R_drew)); exact HO207.out) (Kd.R_base ho0) hb); have n1_ := Aside0.mk (Kd.R_elder' (by (with_reducible repeat (first | apply Kd.R_alloc | apply Kd.R_drewN | apply Kd.R_drew)); exact HO212.out) (Kd.R_base ho0) hb); have n2_ := Aside0.mk (Kd.R_elder' (by (with_reducible repeat (first | apply Kd.R_alloc | apply Kd.R_drewN | apply Kd.R_drew)); exact HO215.out) (Kd.R_base ho0) hb); have n3_ := Aside0.mk (Kd.R_lower (Kd.R_new' (Kd.R_new' (Kd.R_new' ho0 (Kd.R_lt (by (with_reducible repeat (first | apply Kd.R_alloc | apply Kd.R_drewN | apply Kd.R_drew)); exact HO207.out))) (Kd.R_lt (by (with_reducible repeat (first | apply Kd.R_alloc | apply Kd.R_drewN | apply Kd.R_drew)); exact HO212.out))) (Kd.R_lt (by (with_reducible repeat (first | apply Kd.R_alloc | apply Kd.R_drewN | apply Kd.R_drew)); exact HO215.out))) (below_size (by repeat (first | (with_reducible first | exact HB.out | apply below_alloc | apply pw_below_drewN | apply below_drew1 | refine below_set ?_ GE202.out) | exact HB.out)))); have n4_ := Aside0.mk (blk_below (g := gb202) (o := .cells #[.string a1_0, .string a1_1] 42 (0, 0)) (by (with_reducible repeat (first | refine blk_drewN ?_ _ | refine blk_drew ?_ | refine blk_alloc ?_ _)); exact BK202.out) hb); have n5_ := Aside0.mk (below_step (by repeat (first | (with_reducible first | exact HB.out | apply below_alloc | apply pw_below_drewN | apply below_drew1 | refine below_set ?_ GE202.out) | exact HB.out)) hb); clear HO207; clear HO212; clear HO215; clear BK202; clear HB; have HO207 := n0_; have HO212 := n1_; have HO215 := n2_; have HO220 := n3_; have BK202 := n4_; have HB := n5_; clear n0_ n1_ n2_ n3_ n4_ n5_; (try clear hb); (try clear hb2); (try clear hk); (try clear hi); (try clear ho0); obtain ⟨Ao40, co40, eo40⟩ := Kd.R_slice HO220.out; subst eo40; obtain ⟨Ao41, co41, eo41⟩ := Kd.R_slice HO212.out; subst eo41) | ((with_reducible refine gate_callee (f := 15) rfl ?_); refine goesL_ (some 36) rfl rfl Try.func15 (by kernel_rfl) rfl #[.slice Ao40 t218.length co40, .slice Ao41 t210.length co41] rfl (by (try simp only [List.map_toArray, List.map_cons, List.map_nil]); first | done | rfl | (simp only [List.length_drop, List.length_take]; rfl)) ?_; (with_reducible refine (laws_eqPairS.calls k _ _ t218 _ _ t210 true _ ?side1 ?side2 ?side3 ?side4 A19.out).mono ?_); (case side1 => repeat (first | exact (Kd.R_reads' HO220.out).2.2 | (with_reducible refine Kd.C_alloc ?_ _) | (with_reducible refine Kd.C_drewN ?_ _) | (with_reducible refine Kd.C_drew ?_))); (case side2 => exact (Kd.R_reads' HO220.out).2.1); (case side3 => repeat (first | exact (Kd.R_reads' HO212.out).2.2 | (with_reducible refine Kd.C_alloc ?_ _) | (with_reducible refine Kd.C_drewN ?_ _) | (with_reducible refine Kd.C_drew ?_))); (case side4 => exact (Kd.R_reads' HO212.out).2.1); rintro e w42 ⟨rfl, hb⟩; refine ⟨_, rfl, ?_⟩; have n0_ := Aside0.mk (Kd.R_below (by (with_reducible repeat (first | apply Kd.R_alloc | apply Kd.R_drewN | apply Kd.R_drew)); exact HO207.out) hb); have n1_ := Aside0.mk (Kd.R_below (by (with_reducible repeat (first | apply Kd.R_alloc | apply Kd.R_drewN | apply Kd.R_drew)); exact HO212.out) hb); have n2_ := Aside0.mk (Kd.R_below (by (with_reducible repeat (first | apply Kd.R_alloc | apply Kd.R_drewN | apply Kd.R_drew)); exact HO215.out) hb); have n3_ := Aside0.mk (Kd.R_below (by (with_reducible repeat (first | apply Kd.R_alloc | apply Kd.R_drewN | apply Kd.R_drew)); exact HO220.out) hb); have n4_ := Aside0.mk (blk_below (g := gb202) (o := .cells #[.string a1_0, .string a1_1] 42 (0, 0)) (by (with_reducible repeat (first | refine blk_drewN ?_ _ | refine blk_drew ?_ | refine blk_alloc ?_ _)); exact BK202.out) hb); have n5_ := Aside0.mk (below_step (by repeat (first | (with_reducible first | exact HB.out | apply below_alloc | apply pw_below_drewN | apply below_drew1 | refine below_set ?_ GE202.out) | exact HB.out)) hb); clear HO207; clear HO212; clear HO215; clear HO220; clear BK202; clear HB; have HO207 := n0_; have HO212 := n1_; have HO215 := n2_; have HO220 := n3_; have BK202 := n4_; have HB := n5_; clear n0_ n1_ n2_ n3_ n4_ n5_; (try clear hb); (try clear hb2); (try clear hk); (try clear hi)) | ((with_reducible refine gate_callee (f := 13) rfl ?_); refine goesL_ (some 40) rfl rfl Try.func13 (by kernel_rfl) rfl #[.slice A0 l0.length c0] rfl (by (try simp only [List.map_toArray, List.map_cons, List.map_nil]); first | done | rfl | (simp only [List.length_drop, List.length_take]; rfl)) ?_; (with_reducible refine (laws_toPairS.calls k _ _ l0 t222 _ ?side1 ?side2 A21.out).mono ?_); (case side1 => repeat (first | exact (Kd.C_below HR0.out HB.out) | (with_reducible refine Kd.C_alloc ?_ _) | (with_reducible refine Kd.C_drewN ?_ _) | (with_reducible refine Kd.C_drew ?_))); (case side2 => exact HC0.out); rintro e w43 ⟨v223, rfl, ho0, hb⟩; refine ⟨_, rfl, ?_⟩; have n0_ := Aside0.mk (Kd.R_elder' (by (with_reducible repeat (first | apply Kd.R_alloc | apply Kd.R_drewN | apply Kd.R_drew)); exact HO207.out) (Kd.R_base ho0) hb); have n1_ := Aside0.mk (Kd.R_elder' (by (with_reducible repeat (first | apply Kd.R_alloc | apply Kd.R_drewN | apply Kd.R_drew)); exact HO212.out) (Kd.R_base ho0) hb); have n2_ := Aside0.mk (Kd.R_elder' (by (with_reducible repeat (first | apply Kd.R_alloc | apply Kd.R_drewN | apply Kd.R_drew)); exact HO215.out) (Kd.R_base ho0) hb); have n3_ := Aside0.mk (Kd.R_elder' (by (with_reducible repeat (first | apply Kd.R_alloc | apply Kd.R_drewN | apply Kd.R_drew)); exact HO220.out) (Kd.R_base ho0) hb); have n4_ := Aside0.mk (Kd.R_lower (Kd.R_new' (Kd.R_new' (Kd.R_new' (Kd.R_new' ho0 (Kd.R_lt (by (with_reducible repeat (first | apply Kd.R_alloc | apply Kd.R_drewN | apply Kd.R_drew)); exact HO207.out))) (Kd.R_lt (by (with_reducible repeat (first | apply Kd.R_alloc | apply Kd.R_drewN | apply Kd.R_drew)); exact HO212.out))) (Kd.R_lt (by (with_reducible repeat (first | apply Kd.R_alloc | apply Kd.R_drewN | apply Kd.R_drew)); exact HO215.out))) (Kd.R_lt (by (with_reducible repeat (first | apply Kd.R_alloc | apply Kd.R_drewN | apply Kd.R_drew)); exact HO220.out))) (below_size (by repeat (first | (with_reducible first | exact HB.out | apply below_alloc | apply pw_below_drewN | apply below_drew1 | refine below_set ?_ GE202.out) | exact HB.out)))); have n5_ := Aside0.mk (blk_below (g := gb202) (o := .cells #[.string a1_0, .string a1_1] 42 (0, 0)) (by (with_reducible repeat (first | refine blk_drewN ?_ _ | refine blk_drew ?_ | refine blk_alloc ?_ _)); exact BK202.out) hb); have n6_ := Aside0.mk (below_step (by repeat (first | (with_reducible first | exact HB.out | apply below_alloc | apply pw_below_drewN | apply below_drew1 | refine below_set ?_ GE202.out) | exact HB.out)) hb); clear HO207; clear HO212; clear HO215; clear HO220; clear BK202; clear HB; have HO207 := n0_; have HO212 := n1_; have HO215 := n2_; have HO220 := n3_; have HO224 := n4_; have BK202 := n5_; have HB := n6_; clear n0_ n1_ n2_ n3_ n4_ n5_ n6_; (try clear hb); (try clear hb2); (try clear hk); (try clear hi); (try clear ho0); obtain ⟨Ao44, co44, eo44⟩ := Kd.R_slice HO224.out; subst eo44) | ((with_reducible refine gate_callee (f := 15) rfl ?_); refine goesL_ (some 41) rfl rfl Try.func15 (by kernel_rfl) rfl #[.slice Ao38 t213.length co38, .slice Ao44 t222.length co44] rfl (by (try simp only [List.map_toArray, List.map_cons, List.map_nil]); first | done | rfl | (simp only [List.length_drop, List.length_take]; rfl)) ?_; (with_reducible refine (laws_eqPairS.calls k _ _ t213 _ _ t222 true _ ?side1 ?side2 ?side3 ?side4 A22.out).mono ?_); (case side1 => repeat (first | exact (Kd.R_reads' HO215.out).2.2 | (with_reducible refine Kd.C_alloc ?_ _) | (with_reducible refine Kd.C_drewN ?_ _) | (with_reducible refine Kd.C_drew ?_))); (case side2 => exact (Kd.R_reads' HO215.out).2.1); (case side3 => repeat (first | exact (Kd.R_reads' HO224.out).2.2 | (with_reducible refine Kd.C_alloc ?_ _) | (with_reducible refine Kd.C_drewN ?_ _) | (with_reducible refine Kd.C_drew ?_))); (case side4 => exact (Kd.R_reads' HO224.out).2.1); rintro e w45 ⟨rfl, hb⟩; refine ⟨_, rfl, ?_⟩; have n0_ := Aside0.mk (Kd.R_below (by (with_reducible repeat (first | apply Kd.R_alloc | apply Kd.R_drewN | apply Kd.R_drew)); exact HO207.out) hb); have n1_ := Aside0.mk (Kd.R_below (by (with_reducible repeat (first | apply Kd.R_alloc | apply Kd.R_drewN | apply Kd.R_drew)); exact HO212.out) hb); have n2_ := Aside0.mk (Kd.R_below (by (with_reducible repeat (first | apply Kd.R_alloc | apply Kd.R_drewN | apply Kd.R_drew)); exact HO215.out) hb); have n3_ := Aside0.mk (Kd.R_below (by (with_reducible repeat (first | apply Kd.R_alloc | apply Kd.R_drewN | apply Kd.R_drew)); exact HO220.out) hb); have n4_ := Aside0.mk (Kd.R_below (by (with_reducible repeat (first | apply Kd.R_alloc | apply Kd.R_drewN | apply Kd.R_drew)); exact HO224.out) hb); have n5_ := Aside0.mk (blk_below (g := gb202) (o := .cells #[.string a1_0, .string a1_1] 42 (0, 0)) (by (with_reducible repeat (first | refine blk_drewN ?_ _ | refine blk_drew ?_ | refine blk_alloc ?_ _)); exact BK202.out) hb); have n6_ := Aside0.mk (below_step (by repeat (first | (with_reducible first | exact HB.out | apply below_alloc | apply pw_below_drewN | apply below_drew1 | refine below_set ?_ GE202.out) | exact HB.out)) hb); clear HO207; clear HO212; clear HO215; clear HO220; clear HO224; clear BK202; clear HB; have HO207 := n0_; have HO212 := n1_; have HO215 := n2_; have HO220 := n3_; have HO224 := n4_; have BK202 := n5_; have HB := n6_; clear n0_ n1_ n2_ n3_ n4_ n5_ n6_; (try clear hb); (try clear hb2); (try clear hk); (try clear hi)) | ((with_reducible refine gate_callee (f := 16) rfl ?_); refine goesL_ (some 45) rfl rfl Try.func16 (by kernel_rfl) rfl #[.slice Ao38 t213.length co38, .int .i64 1] rfl (by (try simp only [List.map_toArray, List.map_cons, List.map_nil]); first | done | rfl | (simp only [List.length_drop, List.length_take]; rfl)) ?_; (with_reducible refine (laws_markPairS.calls k (fun k_ => some k_ = (.slice Ao38 t213.length co38 : Value).ownBlock) (.slice Ao38 t213.length co38) t213 1 t226 t227 w _ ?side1 ?side2 A24.out).mono ?_); (case side1 => repeat (first | (with_reducible first | exact HB.out | apply below_alloc | apply pw_below_drewN | apply below_drew1 | refine below_set ?_ GE202.out) | exact HB.out)); (case side2 => exact Kd.R_tight rfl HO215.out); rintro e w46 ⟨rfl, hy0, hb, hkp⟩; refine ⟨_, rfl, ?_⟩; have n0_ := Aside0.mk (blk_kept (by (with_reducible repeat (first | refine blk_drewN ?_ _ | refine blk_drew ?_ | refine blk_alloc ?_ _)); exact BK202.out) hkp (fun hs_ => (fun e_ => (Kd.R_ne HO215.out BK202.out (by decide)) e_) hs_)); have n1_ := Aside0.mk (Kd.R_mono (ok' := fun k_ => some k_ ≠ (.slice Ao41 t210.length co41 : Value).ownBlock ∧ some k_ ≠ (.slice Ao38 t213.length co38 : Value).ownBlock ∧ some k_ ≠ (.slice Ao40 t218.length co40 : Value).ownBlock ∧ some k_ ≠ (.slice Ao44 t222.length co44 : Value).ownBlock) (Kd.R_keptB (HO207.out) hkp (fun k_ hk_ hs_ => (hk_.1.1.2) hs_)) (fun k_ hk_ => ⟨hk_.1.1.1.1.2, hk_.1.1.1.2, hk_.1.1.2, hk_.1.2⟩)); have n2_ := Aside0.mk (Kd.R_mono (ok' := fun k_ => some k_ ≠ (.slice Ao33 t205.length co33 : Value).ownBlock ∧ some k_ ≠ (.slice Ao38 t213.length co38 : Value).ownBlock ∧ some k_ ≠ (.slice Ao40 t218.length co40 : Value).ownBlock ∧ some k_ ≠ (.slice Ao44 t222.length co44 : Value).ownBlock) (Kd.R_keptB (HO212.out) hkp (fun k_ hk_ hs_ => (hk_.1.1.2) hs_)) (fun k_ hk_ => ⟨hk_.1.1.1.1.2, hk_.1.1.1.2, hk_.1.1.2, hk_.1.2⟩)); have n3_ := Aside0.mk (Kd.R_reok rfl hy0 (fun k_ e_ => HO215.out.1 k_ e_)); have n4_ := Aside0.mk (Kd.R_mono (ok' := fun k_ => some k_ ≠ (.slice Ao33 t205.length co33 : Value).ownBlock ∧ some k_ ≠ (.slice Ao41 t210.length co41 : Value).ownBlock ∧ some k_ ≠ (.slice Ao38 t213.length co38 : Value).ownBlock ∧ some k_ ≠ (.slice Ao44 t222.length co44 : Value).ownBlock) (Kd.R_keptB (HO220.out) hkp (fun k_ hk_ hs_ => (hk_.1.2) hs_)) (fun k_ hk_ => ⟨hk_.1.1.1.1.2, hk_.1.1.1.2, hk_.1.1.2, hk_.1.2⟩)); have n5_ := Aside0.mk (Kd.R_mono (ok' := fun k_ => some k_ ≠ (.slice Ao33 t205.length co33 : Value).ownBlock ∧ some k_ ≠ (.slice Ao41 t210.length co41 : Value).ownBlock ∧ some k_ ≠ (.slice Ao38 t213.length co38 : Value).ownBlock ∧ some k_ ≠ (.slice Ao40 t218.length co40 : Value).ownBlock) (Kd.R_keptB (HO224.out) hkp (fun k_ hk_ hs_ => (hk_.1.2) hs_)) (fun k_ hk_ => ⟨hk_.1.1.1.1.2, hk_.1.1.1.2, hk_.1.1.2, hk_.1.2⟩)); have n6_ := Aside0.mk (hb); clear BK202; clear HO207; clear HO212; clear HO215; clear HO220; clear HO224; clear HB; have BK202 := n0_; have HO207 := n1_; have HO212 := n2_; have HO215 := n3_; have HO220 := n4_; have HO224 := n5_; have HB := n6_; clear n0_ n1_ n2_ n3_ n4_ n5_ n6_; (try clear hb); (try clear hkp); (try clear hy0)))
          (try simp only [Act.put, List.setIfInBounds_toArray, List.set_cons_zero, List.set_cons_succ])
          go_cut [53] (fun v53 wc => ∃ (kq : Nat) (x53_24 : Bool), v53 = .bool x53_24 ∧ Aside0 (laws_FnExactPairsIn.j0 kq l0 t210 t218 x53_24 a1_0 a1_1 = some r) ∧ Aside0 (kq ≤ k) ∧ Aside0 (Kd.R k69 69 wc w.heap.size (fun k_ => some k_ ≠ ((.slice Ao40 t218.length co40) : Value).ownBlock) (.slice Ao41 t210.length co41) t210) ∧ Aside0 (Kd.R k69 69 wc w.heap.size (fun k_ => some k_ ≠ ((.slice Ao41 t210.length co41) : Value).ownBlock) (.slice Ao40 t218.length co40) t218) ∧ Aside0 (wc.heap[gb202]? = some (.cells #[.string a1_0, .string a1_1] 42 (0, 0))) ∧ Aside0 (Below w.heap.size w wc))
          case first =>
            have H := HC25.out
            clear HC25
            by_cases c47 : t226 < 0
            · rw [if_pos c47] at H
              have c47b0 : decide (t226 < 0) = true := decide_eq_true c47
              clear c47
              (first | rw [c47b0] | (simp only [i64_w, i32_w]; rw [c47b0]) | skip)
              have H' := Aside0.mk H
              clear H
              go_wp2
              go_meet
              case rel => exact ⟨_, (true), (by first | rfl | (simp; done) | (simp [bne]; done) | (simp [*]; done)), H', ⟨by first | omega | exact Nat.le_refl _⟩, ⟨by (with_reducible repeat (first | apply Kd.R_alloc | apply Kd.R_drewN | apply Kd.R_drew)); exact Kd.R_mono HO212.out (fun _ hk => hk.2.2.1)⟩, ⟨by (with_reducible repeat (first | apply Kd.R_alloc | apply Kd.R_drewN | apply Kd.R_drew)); exact Kd.R_mono HO220.out (fun _ hk => hk.2.1)⟩, ⟨by (with_reducible repeat (first | refine blk_drewN ?_ _ | refine blk_drew ?_ | refine blk_alloc ?_ _)); exact BK202.out⟩, ⟨by repeat (first | (with_reducible first | exact HB.out | apply below_alloc | apply pw_below_drewN | apply below_drew1 | refine below_set ?_ GE202.out) | exact HB.out)⟩⟩
            · rw [if_neg c47] at H
              have c47b0 : decide (t226 < 0) = false := decide_eq_false c47
              clear c47
              (first | rw [c47b0] | (simp only [i64_w, i32_w]; rw [c47b0]) | skip)
              replace H := Option.bind_eq_some_iff.mp H
              obtain ⟨t228, A480, H⟩ := H
              replace H : (laws_FnExactPairsIn.j0 k l0 t210 t218 (!t228) a1_0 a1_1) = some r := H
              have A48 := Aside0.mk A480
              clear A480
              have H' := Aside0.mk H
              clear H
              go_wp2_with (first | (go_at_call 15; (with_reducible refine (laws_eqPairS.calls k _ _ t218 _ _ t210 t228 _ ?side1 ?side2 ?side3 ?side4 A48.out).mono ?_); (case side1 => repeat (first | exact (Kd.R_reads' HO220.out).2.2 | (with_reducible refine Kd.C_alloc ?_ _) | (with_reducible refine Kd.C_drewN ?_ _) | (with_reducible refine Kd.C_drew ?_))); (case side2 => exact (Kd.R_reads' HO220.out).2.1); (case side3 => repeat (first | exact (Kd.R_reads' HO212.out).2.2 | (with_reducible refine Kd.C_alloc ?_ _) | (with_reducible refine Kd.C_drewN ?_ _) | (with_reducible refine Kd.C_drew ?_))); (case side4 => exact (Kd.R_reads' HO212.out).2.1); rintro e w49 ⟨rfl, hb⟩; have n0_ := Aside0.mk (Kd.R_below (by (with_reducible repeat (first | apply Kd.R_alloc | apply Kd.R_drewN | apply Kd.R_drew)); exact HO207.out) hb); have n1_ := Aside0.mk (Kd.R_below (by (with_reducible repeat (first | apply Kd.R_alloc | apply Kd.R_drewN | apply Kd.R_drew)); exact HO212.out) hb); have n2_ := Aside0.mk (Kd.R_below (by (with_reducible repeat (first | apply Kd.R_alloc | apply Kd.R_drewN | apply Kd.R_drew)); exact HO215.out) hb); have n3_ := Aside0.mk (Kd.R_below (by (with_reducible repeat (first | apply Kd.R_alloc | apply Kd.R_drewN | apply Kd.R_drew)); exact HO220.out) hb); have n4_ := Aside0.mk (Kd.R_below (by (with_reducible repeat (first | apply Kd.R_alloc | apply Kd.R_drewN | apply Kd.R_drew)); exact HO224.out) hb); have n5_ := Aside0.mk (blk_below (g := gb202) (o := .cells #[.string a1_0, .string a1_1] 42 (0, 0)) (by (with_reducible repeat (first | refine blk_drewN ?_ _ | refine blk_drew ?_ | refine blk_alloc ?_ _)); exact BK202.out) hb); have n6_ := Aside0.mk (below_step (by repeat (first | (with_reducible first | exact HB.out | apply below_alloc | apply pw_below_drewN | apply below_drew1 | refine below_set ?_ GE202.out) | exact HB.out)) hb); clear HO207; clear HO212; clear HO215; clear HO220; clear HO224; clear BK202; clear HB; have HO207 := n0_; have HO212 := n1_; have HO215 := n2_; have HO220 := n3_; have HO224 := n4_; have BK202 := n5_; have HB := n6_; clear n0_ n1_ n2_ n3_ n4_ n5_ n6_; (try clear hb); (try clear hb2); (try clear hk); (try clear hi)))
              go_meet
              case rel => exact ⟨_, (!t228), (by first | rfl | (simp; done) | (simp [bne]; done) | (simp [*]; done)), H', ⟨by first | omega | exact Nat.le_refl _⟩, ⟨by (with_reducible repeat (first | apply Kd.R_alloc | apply Kd.R_drewN | apply Kd.R_drew)); exact Kd.R_mono HO212.out (fun _ hk => hk.2.2.1)⟩, ⟨by (with_reducible repeat (first | apply Kd.R_alloc | apply Kd.R_drewN | apply Kd.R_drew)); exact Kd.R_mono HO220.out (fun _ hk => hk.2.1)⟩, ⟨by (with_reducible repeat (first | refine blk_drewN ?_ _ | refine blk_drew ?_ | refine blk_alloc ?_ _)); exact BK202.out⟩, ⟨by repeat (first | (with_reducible first | exact HB.out | apply below_alloc | apply pw_below_drewN | apply below_drew1 | refine below_set ?_ GE202.out) | exact HB.out)⟩⟩
          case rest =>
            clear HC25
            try clear c1
            try clear c2
            try clear p2
            try clear c4
            try clear c4b0
            try clear c6
            try clear c8
            try clear c8b0
            try clear c11
            try clear c13
            try clear c15
            try clear c16
            try clear c20
            try clear c23
            try clear c26
            try clear c27
            try clear c28
            try clear c29
            try clear c47
            try clear c47b0
            try clear hcz11_0
            try clear hcz11_1
            try clear hcz28_0
            try clear hcz28_1
            try clear hcz36_0
            try clear hcz36_1
            try clear hfz11_0
            try clear hfz11_1
            try clear hfz28_0
            try clear hfz28_1
            try clear hfz36_0
            try clear hfz36_1
            obtain ⟨kq, x53_24, rfl, HA, HJ24, HO_6, HO_8, BK202, HB⟩ := hcut
            cases kq with
            | zero => exact absurd HA.out (by simp [laws_FnExactPairsIn.j0])
            | succ kj24 =>
              have H := HA.out
              clear HA
              simp only [laws_FnExactPairsIn.j0] at H
              by_cases c50 : x53_24 = true
              · subst c50
                have H1 : (none) = some r := by rw [if_pos rfl] at H; exact H
                clear H
                have H := H1
                clear H1
                exact absurd H (by simp)
              · replace c50 := Bool.eq_false_iff.mpr c50
                subst c50
                have H1 : ((laws_markPairS.f kj24 t218 1).bind fun bt229 => ((laws_heldPairS.f kj24 bt229.2 1).bind fun t231 => (if t231 < 0 then (none) else (if t231 = bt229.1 then ((laws_toPairS.f kj24 l0).bind fun t232 => ((laws_toInterval.f a1_0 a1_1).bind fun bt235 => ((impl_PairsIn.f kj24 t232 bt235.1 bt235.2).bind fun t237 => ((laws_eqPairS.f kj24 t237 t210).bind fun t240 => (if t240 = true then ((laws_heldPairS.f kj24 bt229.2 1).bind fun t241 => (if t241 < 0 then (none) else (if t241 = bt229.1 then (some true) else (none)))) else (none)))))) else (none))))) = some r := by rw [if_neg (show ¬ (false = true) by decide)] at H; exact H
                clear H
                have H := H1
                clear H1
                replace H := Option.bind_eq_some_iff.mp H
                obtain ⟨⟨t229, t230⟩, A510, H⟩ := H
                replace H : ((laws_heldPairS.f kj24 t230 1).bind fun t231 => (if t231 < 0 then (none) else (if t231 = t229 then ((laws_toPairS.f kj24 l0).bind fun t232 => ((laws_toInterval.f a1_0 a1_1).bind fun bt235 => ((impl_PairsIn.f kj24 t232 bt235.1 bt235.2).bind fun t237 => ((laws_eqPairS.f kj24 t237 t210).bind fun t240 => (if t240 = true then ((laws_heldPairS.f kj24 t230 1).bind fun t241 => (if t241 < 0 then (none) else (if t241 = t229 then (some true) else (none)))) else (none)))))) else (none)))) = some r := H
                have A51 := Aside0.mk A510
                clear A510
                replace H := Option.bind_eq_some_iff.mp H
                obtain ⟨t231, A520, H⟩ := H
                replace H : (if t231 < 0 then (none) else (if t231 = t229 then ((laws_toPairS.f kj24 l0).bind fun t232 => ((laws_toInterval.f a1_0 a1_1).bind fun bt235 => ((impl_PairsIn.f kj24 t232 bt235.1 bt235.2).bind fun t237 => ((laws_eqPairS.f kj24 t237 t210).bind fun t240 => (if t240 = true then ((laws_heldPairS.f kj24 t230 1).bind fun t241 => (if t241 < 0 then (none) else (if t241 = t229 then (some true) else (none)))) else (none)))))) else (none))) = some r := H
                have A52 := Aside0.mk A520
                clear A520
                by_cases c53 : t231 < 0
                · rw [if_pos c53] at H
                  exact absurd H (by simp)
                · rw [if_neg c53] at H
                  have c53b0 : decide (t231 < 0) = false := decide_eq_false c53
                  clear c53
                  by_cases c54 : t231 = t229
                  · rw [if_pos c54] at H
                    have c54b0 : (t231 == t229) = true := beq_iff_eq.mpr c54
                    have c54b1 : (t231 != t229) = false := bne_eq_false_iff_eq.mpr c54
                    clear c54
                    replace H := Option.bind_eq_some_iff.mp H
                    obtain ⟨t232, A550, H⟩ := H
                    replace H : ((laws_toInterval.f a1_0 a1_1).bind fun bt235 => ((impl_PairsIn.f kj24 t232 bt235.1 bt235.2).bind fun t237 => ((laws_eqPairS.f kj24 t237 t210).bind fun t240 => (if t240 = true then ((laws_heldPairS.f kj24 t230 1).bind fun t241 => (if t241 < 0 then (none) else (if t241 = t229 then (some true) else (none)))) else (none))))) = some r := H
                    have A55 := Aside0.mk A550
                    clear A550
                    replace H := Option.bind_eq_some_iff.mp H
                    obtain ⟨⟨t235, t236⟩, A560, H⟩ := H
                    replace H : ((impl_PairsIn.f kj24 t232 t235 t236).bind fun t237 => ((laws_eqPairS.f kj24 t237 t210).bind fun t240 => (if t240 = true then ((laws_heldPairS.f kj24 t230 1).bind fun t241 => (if t241 < 0 then (none) else (if t241 = t229 then (some true) else (none)))) else (none)))) = some r := H
                    have A56 := Aside0.mk A560
                    clear A560
                    replace H := Option.bind_eq_some_iff.mp H
                    obtain ⟨t237, A570, H⟩ := H
                    replace H : ((laws_eqPairS.f kj24 t237 t210).bind fun t240 => (if t240 = true then ((laws_heldPairS.f kj24 t230 1).bind fun t241 => (if t241 < 0 then (none) else (if t241 = t229 then (some true) else (none)))) else (none))) = some r := H
                    have A57 := Aside0.mk A570
                    clear A570
                    replace H := Option.bind_eq_some_iff.mp H
                    obtain ⟨t240, A580, H⟩ := H
                    replace H : (if t240 = true then ((laws_heldPairS.f kj24 t230 1).bind fun t241 => (if t241 < 0 then (none) else (if t241 = t229 then (some true) else (none)))) else (none)) = some r := H
                    have A58 := Aside0.mk A580
                    clear A580
                    by_cases c59 : t240 = true
                    · subst c59
                      have H1 : ((laws_heldPairS.f kj24 t230 1).bind fun t241 => (if t241 < 0 then (none) else (if t241 = t229 then (some true) else (none)))) = some r := by rw [if_pos rfl] at H; exact H
                      clear H
                      have H := H1
                      clear H1
                      replace H := Option.bind_eq_some_iff.mp H
                      obtain ⟨t241, A600, H⟩ := H
                      replace H : (if t241 < 0 then (none) else (if t241 = t229 then (some true) else (none))) = some r := H
                      have A60 := Aside0.mk A600
                      clear A600
                      by_cases c61 : t241 < 0
                      · rw [if_pos c61] at H
                        exact absurd H (by simp)
                      · rw [if_neg c61] at H
                        have c61b0 : decide (t241 < 0) = false := decide_eq_false c61
                        clear c61
                        by_cases c62 : t241 = t229
                        · rw [if_pos c62] at H
                          have c62b0 : (t241 == t229) = true := beq_iff_eq.mpr c62
                          have c62b1 : (t241 != t229) = false := bne_eq_false_iff_eq.mpr c62
                          clear c62
                          obtain rfl := Option.some.inj H
                          try go_wp2_with (first | ((with_reducible refine gate_callee (f := 16) rfl ?_); refine goesL_ (some 56) rfl rfl Try.func16 (by kernel_rfl) rfl #[.slice Ao40 t218.length co40, .int .i64 1] rfl (by (try simp only [List.map_toArray, List.map_cons, List.map_nil]); first | done | rfl | (simp only [List.length_drop, List.length_take]; rfl)) ?_; (with_reducible refine (laws_markPairS.calls kj24 (fun k_ => some k_ = (.slice Ao40 t218.length co40 : Value).ownBlock) (.slice Ao40 t218.length co40) t218 1 t229 t230 w _ ?side1 ?side2 A51.out).mono ?_); (case side1 => repeat (first | (with_reducible first | exact HB.out | apply below_alloc | apply pw_below_drewN | apply below_drew1 | refine below_set ?_ GE202.out) | exact HB.out)); (case side2 => exact Kd.R_tight rfl HO_8.out); rintro e w63 ⟨rfl, hy0, hb, hkp⟩; refine ⟨_, rfl, ?_⟩; have n0_ := Aside0.mk (Kd.R_mono (ok' := fun k_ => some k_ ≠ (.slice Ao40 t218.length co40 : Value).ownBlock) (Kd.R_keptB (HO_6.out) hkp (fun k_ hk_ hs_ => (hk_) hs_)) (fun k_ hk_ => hk_.1)); have n1_ := Aside0.mk (Kd.R_reok rfl hy0 (fun k_ e_ => HO_8.out.1 k_ e_)); have n2_ := Aside0.mk (blk_kept (by (with_reducible repeat (first | refine blk_drewN ?_ _ | refine blk_drew ?_ | refine blk_alloc ?_ _)); exact BK202.out) hkp (fun hs_ => (fun e_ => (Kd.R_ne HO_8.out BK202.out (by decide)) e_) hs_)); have n3_ := Aside0.mk (hb); clear HO_6; clear HO_8; clear BK202; clear HB; have HO_6 := n0_; have HO_8 := n1_; have BK202 := n2_; have HB := n3_; clear n0_ n1_ n2_ n3_; (try clear hb); (try clear hkp); (try clear hy0)) | ((with_reducible refine gate_callee (f := 17) rfl ?_); refine goesL_ (some 59) rfl rfl Try.func17 (by kernel_rfl) rfl #[.slice Ao40 t230.length co40, .int .i64 1] rfl (by (try simp only [List.map_toArray, List.map_cons, List.map_nil]); first | done | (rw [show t230.length = t218.length from (Kd.R_reads' HO_8.out).1.symm] <;> rfl) | rfl | (simp only [List.length_drop, List.length_take]; rfl)) ?_; (with_reducible refine (laws_heldPairS.calls kj24 _ _ t230 1 t231 _ ?side1 ?side2 A52.out).mono ?_); (case side1 => repeat (first | exact (Kd.R_reads' HO_8.out).2.2 | (with_reducible refine Kd.C_alloc ?_ _) | (with_reducible refine Kd.C_drewN ?_ _) | (with_reducible refine Kd.C_drew ?_))); (case side2 => rw [show t230.length = t218.length from (Kd.R_reads' HO_8.out).1.symm]; exact (Kd.R_reads' HO_8.out).2.1); rintro e w64 ⟨rfl, hb⟩; refine ⟨_, rfl, ?_⟩; have n0_ := Aside0.mk (Kd.R_below (by (with_reducible repeat (first | apply Kd.R_alloc | apply Kd.R_drewN | apply Kd.R_drew)); exact HO_6.out) hb); have n1_ := Aside0.mk (Kd.R_below (by (with_reducible repeat (first | apply Kd.R_alloc | apply Kd.R_drewN | apply Kd.R_drew)); exact HO_8.out) hb); have n2_ := Aside0.mk (blk_below (g := gb202) (o := .cells #[.string a1_0, .string a1_1] 42 (0, 0)) (by (with_reducible repeat (first | refine blk_drewN ?_ _ | refine blk_drew ?_ | refine blk_alloc ?_ _)); exact BK202.out) hb); have n3_ := Aside0.mk (below_step (by repeat (first | (with_reducible first | exact HB.out | apply below_alloc | apply pw_below_drewN | apply below_drew1 | refine below_set ?_ GE202.out) | exact HB.out)) hb); clear HO_6; clear HO_8; clear BK202; clear HB; have HO_6 := n0_; have HO_8 := n1_; have BK202 := n2_; have HB := n3_; clear n0_ n1_ n2_ n3_; (try clear hb); (try clear hb2); (try clear hk); (try clear hi)))
                          have n0_ := Aside0.mk (Kd.R_drew HO_6.out)
                          have n1_ := Aside0.mk (Kd.R_drew HO_8.out)
                          have n2_ := Aside0.mk (blk_drew BK202.out)
                          have n3_ := Aside0.mk (below_drew1 HB.out)
                          clear HO_6
                          clear HO_8
                          clear BK202
                          clear HB
                          have HO_6 := n0_
                          have HO_8 := n1_
                          have BK202 := n2_
                          have HB := n3_
                          clear n0_ n1_ n2_ n3_
                          refine start_ (n := 6) (S := fun w' => w'.cell? ⟨gb202, 0, none⟩ = some (.string a1_0) ∧ w'.cell? ⟨gb202, 1, none⟩ = some (.string a1_1)) (ds := []) #[false, false, false, false, false, false] (by kernel_rfl) rfl rfl ⟨(blk_cell BK202.out 0).trans rfl, (blk_cell BK202.out 1).trans rfl⟩ (fun hHeld => ?_)
                          generalize w64.drew = w65 at HO_6 HO_8 BK202 HB hHeld ⊢
                          refine pure_ (i := 0) (N := some 65) (v := ?_) (a' := ?_) #[true, false, false, false, false, false] rfl rfl (by kernel_rfl) (fun _ _ _ h => h) (Or.inl ⟨by rfl, ?_⟩) ?_ ?_
                          rotate_left
                          · intro w'
                            go_simp
                            with_reducible rfl
                          rotate_left
                          · simp only [Act.put, List.setIfInBounds_toArray, List.set_cons_zero, List.set_cons_succ, i64_w, i32_w]
                            rfl
                          refine take_ (i := 2) (N := some 67) (v := ?_) (a' := ?_) #[true, false, true, false, false, false] rfl rfl (by kernel_rfl) (fun _ _ _ h => h) (Or.inl ⟨by rfl, ?_⟩) hHeld ?_ ?_
                          rotate_left
                          · rintro w' ⟨s0, s1⟩
                            go_simp
                            with_reducible rfl
                          rotate_left
                          · simp only [Act.put, List.setIfInBounds_toArray, List.set_cons_zero, List.set_cons_succ, i64_w, i32_w]
                            rfl
                          refine one_ (i := 1) (N := some 66) #[true, true, true, false, false, false] rfl rfl (by kernel_rfl) (by decide) (fun K hK => ?_)
                          refine goes_ Try.func13 (by kernel_rfl) rfl #[.slice A0 l0.length c0] (by rfl) rfl rfl (by (try simp only [List.map_toArray, List.map_cons, List.map_nil]); first | done | rfl | (simp only [List.length_drop, List.length_take]; rfl)) ?_
                          with_reducible refine (laws_toPairS.calls kj24 _ _ l0 t232 _ ?side1 ?side2 A55.out).mono ?_
                          (case side1 => repeat (first | exact (Kd.C_below HR0.out HB.out) | (with_reducible refine Kd.C_alloc ?_ _) | (with_reducible refine Kd.C_drewN ?_ _) | (with_reducible refine Kd.C_drew ?_)))
                          (case side2 => exact HC0.out)
                          rintro e w66 ⟨v233, rfl, ho0, hb⟩
                          refine ⟨_, rfl, ?_⟩
                          have n0_ := Aside0.mk (Kd.R_elder' (by (with_reducible repeat (first | apply Kd.R_alloc | apply Kd.R_drewN | apply Kd.R_drew)); exact HO_6.out) (Kd.R_base ho0) hb)
                          have n1_ := Aside0.mk (Kd.R_elder' (by (with_reducible repeat (first | apply Kd.R_alloc | apply Kd.R_drewN | apply Kd.R_drew)); exact HO_8.out) (Kd.R_base ho0) hb)
                          have n2_ := Aside0.mk (Kd.R_lower (Kd.R_new' (Kd.R_new' ho0 (Kd.R_lt (by (with_reducible repeat (first | apply Kd.R_alloc | apply Kd.R_drewN | apply Kd.R_drew)); exact HO_6.out))) (Kd.R_lt (by (with_reducible repeat (first | apply Kd.R_alloc | apply Kd.R_drewN | apply Kd.R_drew)); exact HO_8.out))) (below_size (by repeat (first | (with_reducible first | exact HB.out | apply below_alloc | apply pw_below_drewN | apply below_drew1 | refine below_set ?_ GE202.out) | exact HB.out))))
                          have n3_ := Aside0.mk (blk_below (g := gb202) (o := .cells #[.string a1_0, .string a1_1] 42 (0, 0)) (by (with_reducible repeat (first | refine blk_drewN ?_ _ | refine blk_drew ?_ | refine blk_alloc ?_ _)); exact BK202.out) hb)
                          have n4_ := Aside0.mk (below_step (by repeat (first | (with_reducible first | exact HB.out | apply below_alloc | apply pw_below_drewN | apply below_drew1 | refine below_set ?_ GE202.out) | exact HB.out)) hb)
                          clear HO_6
                          clear HO_8
                          clear BK202
                          clear HB
                          have HO_6 := n0_
                          have HO_8 := n1_
                          have HO234 := n2_
                          have BK202 := n3_
                          have HB := n4_
                          clear n0_ n1_ n2_ n3_ n4_
                          (try clear hb)
                          (try clear hb2)
                          (try clear hk)
                          (try clear hi)
                          (try clear ho0)
                          refine hK.out _ _ ⟨(blk_cell BK202.out 0).trans rfl, (blk_cell BK202.out 1).trans rfl⟩ (fun hHeld => ?_)
                          clear hK K
                          refine norm_ (a' := ?_) ?_ ?_
                          rotate_left
                          · show Act.put _ (some 66) _ = _
                            simp only [Act.put, List.setIfInBounds_toArray, List.set_cons_zero, List.set_cons_succ, i64_w, i32_w]
                            rfl
                          refine one_ (i := 3) (N := some 68) #[true, true, true, true, false, false] rfl rfl (by kernel_rfl) (by decide) (fun K hK => ?_)
                          refine goes_ Try.func28 (by kernel_rfl) rfl #[.agg #[.string a1_0, .string a1_1]] (by rfl) rfl rfl (by (try simp only [List.map_toArray, List.map_cons, List.map_nil]); first | done | rfl | (simp only [List.length_drop, List.length_take]; rfl)) ?_
                          with_reducible refine (laws_toInterval.calls a1_0 a1_1 t235 t236 _ A56.out).mono ?_
                          rintro e w67 ⟨rfl, hb⟩
                          refine ⟨_, rfl, ?_⟩
                          have n0_ := Aside0.mk (Kd.R_below (by (with_reducible repeat (first | apply Kd.R_alloc | apply Kd.R_drewN | apply Kd.R_drew)); exact HO_6.out) hb)
                          have n1_ := Aside0.mk (Kd.R_below (by (with_reducible repeat (first | apply Kd.R_alloc | apply Kd.R_drewN | apply Kd.R_drew)); exact HO_8.out) hb)
                          have n2_ := Aside0.mk (Kd.R_below (by (with_reducible repeat (first | apply Kd.R_alloc | apply Kd.R_drewN | apply Kd.R_drew)); exact HO234.out) hb)
                          have n3_ := Aside0.mk (blk_below (g := gb202) (o := .cells #[.string a1_0, .string a1_1] 42 (0, 0)) (by (with_reducible repeat (first | refine blk_drewN ?_ _ | refine blk_drew ?_ | refine blk_alloc ?_ _)); exact BK202.out) hb)
                          have n4_ := Aside0.mk (below_step (by repeat (first | (with_reducible first | exact HB.out | apply below_alloc | apply pw_below_drewN | apply below_drew1 | refine below_set ?_ GE202.out) | exact HB.out)) hb)
                          clear HO_6
                          clear HO_8
                          clear HO234
                          clear BK202
                          clear HB
                          have HO_6 := n0_
                          have HO_8 := n1_
                          have HO234 := n2_
                          have BK202 := n3_
                          have HB := n4_
                          clear n0_ n1_ n2_ n3_ n4_
                          (try clear hb)
                          (try clear hb2)
                          (try clear hk)
                          (try clear hi)
                          obtain ⟨Ao68, co68, eo68⟩ := Kd.R_slice HO234.out
                          (first | subst eo68 | (injection eo68 with f1_ f2_ f3_; have f4_ := f1_.symm; have f5_ := f3_.symm; clear f1_ f2_ f3_; subst f4_; subst f5_))
                          refine hK.out _ _ ⟨(blk_cell BK202.out 0).trans rfl, (blk_cell BK202.out 1).trans rfl⟩ (fun hHeld => ?_)
                          clear hK K
                          refine norm_ (a' := ?_) ?_ ?_
                          rotate_left
                          · show Act.put _ (some 68) _ = _
                            simp only [Act.put, List.setIfInBounds_toArray, List.set_cons_zero, List.set_cons_succ, i64_w, i32_w]
                            rfl
                          refine one_ (i := 4) (N := some 69) #[true, true, true, true, true, false] rfl rfl (by kernel_rfl) (by decide) (fun K hK => ?_)
                          refine goes_ Try.func29 (by kernel_rfl) rfl #[.slice Ao68 t232.length co68, .agg #[.string t235, .string t236]] (by rfl) rfl rfl (by (try simp only [List.map_toArray, List.map_cons, List.map_nil]); first | done | rfl | (simp only [List.length_drop, List.length_take]; rfl)) ?_
                          with_reducible refine (impl_PairsIn.calls kj24 _ _ t232 t235 t236 t237 _ ?side1 ?side2 A57.out).mono ?_
                          (case side1 => repeat (first | exact (Kd.R_reads' HO234.out).2.2 | (with_reducible refine Kd.C_alloc ?_ _) | (with_reducible refine Kd.C_drewN ?_ _) | (with_reducible refine Kd.C_drew ?_)))
                          (case side2 => exact (Kd.R_reads' HO234.out).2.1)
                          rintro e w69 ⟨v238, rfl, ho0, hb⟩
                          refine ⟨_, rfl, ?_⟩
                          have n0_ := Aside0.mk (Kd.R_elder' (by (with_reducible repeat (first | apply Kd.R_alloc | apply Kd.R_drewN | apply Kd.R_drew)); exact HO_6.out) (Kd.R_base ho0) hb)
                          have n1_ := Aside0.mk (Kd.R_elder' (by (with_reducible repeat (first | apply Kd.R_alloc | apply Kd.R_drewN | apply Kd.R_drew)); exact HO_8.out) (Kd.R_base ho0) hb)
                          have n2_ := Aside0.mk (Kd.R_elder' (by (with_reducible repeat (first | apply Kd.R_alloc | apply Kd.R_drewN | apply Kd.R_drew)); exact HO234.out) (Kd.R_base ho0) hb)
                          have n3_ := Aside0.mk (Kd.R_lower (Kd.R_new' (Kd.R_new' (Kd.R_new' ho0 (Kd.R_lt (by (with_reducible repeat (first | apply Kd.R_alloc | apply Kd.R_drewN | apply Kd.R_drew)); exact HO_6.out))) (Kd.R_lt (by (with_reducible repeat (first | apply Kd.R_alloc | apply Kd.R_drewN | apply Kd.R_drew)); exact HO_8.out))) (Kd.R_lt (by (with_reducible repeat (first | apply Kd.R_alloc | apply Kd.R_drewN | apply Kd.R_drew)); exact HO234.out))) (below_size (by repeat (first | (with_reducible first | exact HB.out | apply below_alloc | apply pw_below_drewN | apply below_drew1 | refine below_set ?_ GE202.out) | exact HB.out))))
                          have n4_ := Aside0.mk (blk_below (g := gb202) (o := .cells #[.string a1_0, .string a1_1] 42 (0, 0)) (by (with_reducible repeat (first | refine blk_drewN ?_ _ | refine blk_drew ?_ | refine blk_alloc ?_ _)); exact BK202.out) hb)
                          have n5_ := Aside0.mk (below_step (by repeat (first | (with_reducible first | exact HB.out | apply below_alloc | apply pw_below_drewN | apply below_drew1 | refine below_set ?_ GE202.out) | exact HB.out)) hb)
                          clear HO_6
                          clear HO_8
                          clear HO234
                          clear BK202
                          clear HB
                          have HO_6 := n0_
                          have HO_8 := n1_
                          have HO234 := n2_
                          have HO239 := n3_
                          have BK202 := n4_
                          have HB := n5_
                          clear n0_ n1_ n2_ n3_ n4_ n5_
                          (try clear hb)
                          (try clear hb2)
                          (try clear hk)
                          (try clear hi)
                          (try clear ho0)
                          refine hK.out _ _ ⟨(blk_cell BK202.out 0).trans rfl, (blk_cell BK202.out 1).trans rfl⟩ (fun hHeld => ?_)
                          clear hK K
                          refine norm_ (a' := ?_) ?_ ?_
                          rotate_left
                          · show Act.put _ (some 69) _ = _
                            simp only [Act.put, List.setIfInBounds_toArray, List.set_cons_zero, List.set_cons_succ, i64_w, i32_w]
                            rfl
                          refine pure_ (i := 5) (N := some 12) (v := ?_) (a' := ?_) #[true, true, true, true, true, true] rfl rfl (by kernel_rfl) (fun _ _ _ h => h) (Or.inl ⟨by rfl, ?_⟩) ?_ ?_
                          rotate_left
                          · intro w'
                            go_simp
                            with_reducible rfl
                          rotate_left
                          · simp only [Act.put, List.setIfInBounds_toArray, List.set_cons_zero, List.set_cons_succ, i64_w, i32_w]
                            rfl
                          refine done_ (by kernel_rfl) ?_
                          obtain ⟨Ao70, co70, eo70⟩ := Kd.R_slice HO239.out
                          subst eo70
                          try go_wp2_with (first | ((with_reducible refine gate_callee (f := 15) rfl ?_); refine goesL_ (some 72) rfl rfl Try.func15 (by kernel_rfl) rfl #[.slice Ao70 t237.length co70, .slice Ao41 t210.length co41] rfl (by (try simp only [List.map_toArray, List.map_cons, List.map_nil]); first | done | rfl | (simp only [List.length_drop, List.length_take]; rfl)) ?_; (with_reducible refine (laws_eqPairS.calls kj24 _ _ t237 _ _ t210 true _ ?side1 ?side2 ?side3 ?side4 A58.out).mono ?_); (case side1 => repeat (first | exact (Kd.R_reads' HO239.out).2.2 | (with_reducible refine Kd.C_alloc ?_ _) | (with_reducible refine Kd.C_drewN ?_ _) | (with_reducible refine Kd.C_drew ?_))); (case side2 => exact (Kd.R_reads' HO239.out).2.1); (case side3 => repeat (first | exact (Kd.R_reads' HO_6.out).2.2 | (with_reducible refine Kd.C_alloc ?_ _) | (with_reducible refine Kd.C_drewN ?_ _) | (with_reducible refine Kd.C_drew ?_))); (case side4 => exact (Kd.R_reads' HO_6.out).2.1); rintro e w71 ⟨rfl, hb⟩; refine ⟨_, rfl, ?_⟩; have n0_ := Aside0.mk (Kd.R_below (by (with_reducible repeat (first | apply Kd.R_alloc | apply Kd.R_drewN | apply Kd.R_drew)); exact HO_6.out) hb); have n1_ := Aside0.mk (Kd.R_below (by (with_reducible repeat (first | apply Kd.R_alloc | apply Kd.R_drewN | apply Kd.R_drew)); exact HO_8.out) hb); have n2_ := Aside0.mk (Kd.R_below (by (with_reducible repeat (first | apply Kd.R_alloc | apply Kd.R_drewN | apply Kd.R_drew)); exact HO234.out) hb); have n3_ := Aside0.mk (Kd.R_below (by (with_reducible repeat (first | apply Kd.R_alloc | apply Kd.R_drewN | apply Kd.R_drew)); exact HO239.out) hb); have n4_ := Aside0.mk (blk_below (g := gb202) (o := .cells #[.string a1_0, .string a1_1] 42 (0, 0)) (by (with_reducible repeat (first | refine blk_drewN ?_ _ | refine blk_drew ?_ | refine blk_alloc ?_ _)); exact BK202.out) hb); have n5_ := Aside0.mk (below_step (by repeat (first | (with_reducible first | exact HB.out | apply below_alloc | apply pw_below_drewN | apply below_drew1 | refine below_set ?_ GE202.out) | exact HB.out)) hb); clear HO_6; clear HO_8; clear HO234; clear HO239; clear BK202; clear HB; have HO_6 := n0_; have HO_8 := n1_; have HO234 := n2_; have HO239 := n3_; have BK202 := n4_; have HB := n5_; clear n0_ n1_ n2_ n3_ n4_ n5_; (try clear hb); (try clear hb2); (try clear hk); (try clear hi)) | ((with_reducible refine gate_callee (f := 17) rfl ?_); refine goesL_ (some 76) rfl rfl Try.func17 (by kernel_rfl) rfl #[.slice Ao40 t230.length co40, .int .i64 1] rfl (by (try simp only [List.map_toArray, List.map_cons, List.map_nil]); first | done | (rw [show t230.length = t218.length from (Kd.R_reads' HO_8.out).1.symm] <;> rfl) | rfl | (simp only [List.length_drop, List.length_take]; rfl)) ?_; (with_reducible refine (laws_heldPairS.calls kj24 _ _ t230 1 t241 _ ?side1 ?side2 A60.out).mono ?_); (case side1 => repeat (first | exact (Kd.R_reads' HO_8.out).2.2 | (with_reducible refine Kd.C_alloc ?_ _) | (with_reducible refine Kd.C_drewN ?_ _) | (with_reducible refine Kd.C_drew ?_))); (case side2 => rw [show t230.length = t218.length from (Kd.R_reads' HO_8.out).1.symm]; exact (Kd.R_reads' HO_8.out).2.1); rintro e w72 ⟨rfl, hb⟩; refine ⟨_, rfl, ?_⟩; have n0_ := Aside0.mk (Kd.R_below (by (with_reducible repeat (first | apply Kd.R_alloc | apply Kd.R_drewN | apply Kd.R_drew)); exact HO_6.out) hb); have n1_ := Aside0.mk (Kd.R_below (by (with_reducible repeat (first | apply Kd.R_alloc | apply Kd.R_drewN | apply Kd.R_drew)); exact HO_8.out) hb); have n2_ := Aside0.mk (Kd.R_below (by (with_reducible repeat (first | apply Kd.R_alloc | apply Kd.R_drewN | apply Kd.R_drew)); exact HO234.out) hb); have n3_ := Aside0.mk (Kd.R_below (by (with_reducible repeat (first | apply Kd.R_alloc | apply Kd.R_drewN | apply Kd.R_drew)); exact HO239.out) hb); have n4_ := Aside0.mk (blk_below (g := gb202) (o := .cells #[.string a1_0, .string a1_1] 42 (0, 0)) (by (with_reducible repeat (first | refine blk_drewN ?_ _ | refine blk_drew ?_ | refine blk_alloc ?_ _)); exact BK202.out) hb); have n5_ := Aside0.mk (below_step (by repeat (first | (with_reducible first | exact HB.out | apply below_alloc | apply pw_below_drewN | apply below_drew1 | refine below_set ?_ GE202.out) | exact HB.out)) hb); clear HO_6; clear HO_8; clear HO234; clear HO239; clear BK202; clear HB; have HO_6 := n0_; have HO_8 := n1_; have HO234 := n2_; have HO239 := n3_; have BK202 := n4_; have HB := n5_; clear n0_ n1_ n2_ n3_ n4_ n5_; (try clear hb); (try clear hb2); (try clear hk); (try clear hi)))
                          go_ret
                          exact ⟨by first | rfl | (simp only [u8_w_, w64_u8_]; done) | (simp only [u8_w_, w64_u8_]; rfl) | (simp [errW_none, errW_some] <;> rfl) | (simp [*, errW_none, errW_some] <;> rfl), by repeat (first | (with_reducible first | exact HB.out | apply below_alloc | apply pw_below_drewN | apply below_drew1 | refine below_set ?_ GE202.out) | exact HB.out)⟩
                        · rw [if_neg c62] at H
                          exact absurd H (by simp)
                    · replace c59 := Bool.eq_false_iff.mpr c59
                      subst c59
                      have H1 : (none) = some r := by rw [if_neg (show ¬ (false = true) by decide)] at H; exact H
                      clear H
                      have H := H1
                      clear H1
                      exact absurd H (by simp)
                  · rw [if_neg c54] at H
                    exact absurd H (by simp)
        · replace c23 := Bool.eq_false_iff.mpr c23
          subst c23
          have H1 : (none) = some r := by rw [if_neg (show ¬ (false = true) by decide)] at H; exact H
          clear H
          have H := H1
          clear H1
          exact absurd H (by simp)
      · replace c20 := Bool.eq_false_iff.mpr c20
        subst c20
        have H1 : (none) = some r := by rw [if_neg (show ¬ (false = true) by decide)] at H; exact H
        clear H
        have H := H1
        clear H1
        exact absurd H (by simp)

end Go.Proofs.Ytakgmbeglcehcaa.PFnExactPairsIn
