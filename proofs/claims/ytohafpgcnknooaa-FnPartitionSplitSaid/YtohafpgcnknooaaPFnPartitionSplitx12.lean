-- Written for this claim by a program of this session (wip/myprint in the proofs' repo)
import Derived.Test.YtohafpgcnknooaaPFnPartitionSplitx0
import Derived.Test.YtohafpgcnknooaaPFnPartitionSplitx3
import Derived.Test.YtohafpgcnknooaaPFnPartitionSplitx4
import Derived.Test.YtohafpgcnknooaaPFnPartitionSplitx5
import Derived.Test.YtohafpgcnknooaaPFnPartitionSplitx6
import Derived.Test.YtohafpgcnknooaaPFnPartitionSplitx10
import Derived.Test.YtohafpgcnknooaaPFnPartitionSplitx11
import Derived.Test.YtohafpgcnknooaaWZip
namespace Go.Proofs.Ytohafpgcnknooaa.PFnPartitionSplit
open Go.RowKit Go.Proofs.YtohafpgcnknooaaW.PrintWords Go.Proofs.YtohafpgcnknooaaW.PrintLast Go.Proofs.YtohafpgcnknooaaW.PrintMore
attribute [local go_sem] max2_int min2_int max_two min_two max_three min_three max_four min_four max2_strs min2_strs   -- for this text's walks alone
set_option linter.unusedVariables false
set_option linter.unusedSimpArgs false

/-! ### laws_FnPartitionSplit: function 8 -/
mutual
def laws_FnPartitionSplit.j0 : Nat → List (S27) → ByteArray → List (S27) → Bool → Bool → Option (Bool)
 | 0, _, _, _, _, _ => none
 | k + 1, x3, x4, x5, x6, x40 => if x40 = true then (none) else (if x6 = true then ((impl_PartitionFind.f k x5 x4).bind fun t400 => (if t400 < 1 then (laws_FnPartitionSplit.j1 k x3 x5 t400 true) else (if t400 ≥ (x5.length : Int) then (laws_FnPartitionSplit.j1 k x3 x5 t400 true) else (if 0 ≤ t400 then (if t400 < (x5.length : Int) then (if ((rd_T27 x5 t400).f0).toList = x4.toList then ((impl_PartitionValid.f k x5).bind fun t402 => (laws_FnPartitionSplit.j1 k x3 x5 t400 (!t402))) else (laws_FnPartitionSplit.j1 k x3 x5 t400 true)) else (none)) else (none))))) else ((laws_sameSpans.f k x5 x3).bind fun t397 => (if t397 = true then ((laws_alive.f k).bind fun t398 => (some t398)) else (if (x5.length : Int) = 0 then ((laws_alive.f k).bind fun t399 => (some t399)) else (none)))))
def laws_FnPartitionSplit.j1 : Nat → List (S27) → List (S27) → Int → Bool → Option (Bool)
 | 0, _, _, _, _ => none
 | k + 1, x3, x5, x9, x78 => if x78 = true then (none) else ((impl_PartitionMerge.f k x5 (wrap64 (x9 - 1))).bind fun bt403 => (if bt403.2 = true then ((laws_sameSpans.f k bt403.1 x3).bind fun t407 => (some t407)) else (none)))
end
def laws_FnPartitionSplit.f (k : Nat) (l0 : List Int) : Option (Bool) := if (l0.length : Int) > 1048576 then (some true) else ((spec_DrawPartitionSplit.f k l0).bind fun bt384 => ((impl_PartitionSplit.f k bt384.1 bt384.2).bind fun bt388 => ((spec_PartitionSplit.f k bt384.1 bt384.2).bind fun bt392 => ((laws_sameSpans.f k bt388.1 bt392.1).bind fun t396 => (if t396 = true then (laws_FnPartitionSplit.j0 k bt384.1 bt384.2 bt388.1 bt388.2 (bt388.2 != bt392.2)) else (laws_FnPartitionSplit.j0 k bt384.1 bt384.2 bt388.1 bt388.2 true))))))
theorem laws_FnPartitionSplit.mono_l : ∀ k, (∀ y0 y1 y2 y3 y4, LeO (laws_FnPartitionSplit.j0 k y0 y1 y2 y3 y4) (laws_FnPartitionSplit.j0 (k + 1) y0 y1 y2 y3 y4)) ∧ (∀ y0 y1 y2 y3, LeO (laws_FnPartitionSplit.j1 k y0 y1 y2 y3) (laws_FnPartitionSplit.j1 (k + 1) y0 y1 y2 y3))
 | 0 => ⟨fun _ _ _ _ _ r h => by simp [laws_FnPartitionSplit.j0] at h, fun _ _ _ _ r h => by simp [laws_FnPartitionSplit.j1] at h⟩
 | k + 1 => by
  obtain ⟨ih0, ih1⟩ := laws_FnPartitionSplit.mono_l k
  refine ⟨?_, ?_⟩
  ·intro y0 y1 y2 y3 y4
   unfold laws_FnPartitionSplit.j0
   repeat' first
   | (with_reducible exact ih0 _ _ _ _ _)
   | (with_reducible exact ih1 _ _ _ _)
   | (with_reducible exact impl_PartitionFind.mono _ _ _)
   | (with_reducible exact impl_PartitionMerge.mono _ _ _)
   | (with_reducible exact impl_PartitionSplit.mono _ _ _)
   | (with_reducible exact impl_PartitionValid.mono _ _)
   | (with_reducible exact laws_alive.mono _)
   | (with_reducible exact laws_sameSpans.mono _ _ _)
   | (with_reducible exact spec_DrawPartitionSplit.mono _ _)
   | (with_reducible exact spec_PartitionSplit.mono _ _ _)
   | (with_reducible exact LeO.refl _)
   | (with_reducible exact LeO.none _)
   | (with_reducible refine LeO.ite ?_ ?_)
   | (with_reducible refine LeO.bind ?_ (fun _ => ?_))
   | exact ih0 _ _ _ _ _
   | exact ih1 _ _ _ _
   | exact impl_PartitionFind.mono _ _ _
   | exact impl_PartitionMerge.mono _ _ _
   | exact impl_PartitionSplit.mono _ _ _
   | exact impl_PartitionValid.mono _ _
   | exact laws_alive.mono _
   | exact laws_sameSpans.mono _ _ _
   | exact spec_DrawPartitionSplit.mono _ _
   | exact spec_PartitionSplit.mono _ _ _
   | exact LeO.none _
   | refine LeO.ite ?_ ?_
   | refine LeO.bind ?_ (fun _ => ?_)
  ·intro y0 y1 y2 y3
   unfold laws_FnPartitionSplit.j1
   repeat' first
   | (with_reducible exact ih0 _ _ _ _ _)
   | (with_reducible exact ih1 _ _ _ _)
   | (with_reducible exact impl_PartitionFind.mono _ _ _)
   | (with_reducible exact impl_PartitionMerge.mono _ _ _)
   | (with_reducible exact impl_PartitionSplit.mono _ _ _)
   | (with_reducible exact impl_PartitionValid.mono _ _)
   | (with_reducible exact laws_alive.mono _)
   | (with_reducible exact laws_sameSpans.mono _ _ _)
   | (with_reducible exact spec_DrawPartitionSplit.mono _ _)
   | (with_reducible exact spec_PartitionSplit.mono _ _ _)
   | (with_reducible exact LeO.refl _)
   | (with_reducible exact LeO.none _)
   | (with_reducible refine LeO.ite ?_ ?_)
   | (with_reducible refine LeO.bind ?_ (fun _ => ?_))
   | exact ih0 _ _ _ _ _
   | exact ih1 _ _ _ _
   | exact impl_PartitionFind.mono _ _ _
   | exact impl_PartitionMerge.mono _ _ _
   | exact impl_PartitionSplit.mono _ _ _
   | exact impl_PartitionValid.mono _ _
   | exact laws_alive.mono _
   | exact laws_sameSpans.mono _ _ _
   | exact spec_DrawPartitionSplit.mono _ _
   | exact spec_PartitionSplit.mono _ _ _
   | exact LeO.none _
   | refine LeO.ite ?_ ?_
   | refine LeO.bind ?_ (fun _ => ?_)
theorem laws_FnPartitionSplit.mono : ∀ a0 k, LeO (laws_FnPartitionSplit.f k a0) (laws_FnPartitionSplit.f (k + 1) a0) := by
 intro a0 k
 obtain ⟨ih0, ih1⟩ := laws_FnPartitionSplit.mono_l k
 unfold laws_FnPartitionSplit.f
 repeat' first
   | (with_reducible exact ih0 _ _ _ _ _)
   | (with_reducible exact ih1 _ _ _ _)
   | (with_reducible exact impl_PartitionFind.mono _ _ _)
   | (with_reducible exact impl_PartitionMerge.mono _ _ _)
   | (with_reducible exact impl_PartitionSplit.mono _ _ _)
   | (with_reducible exact impl_PartitionValid.mono _ _)
   | (with_reducible exact laws_alive.mono _)
   | (with_reducible exact laws_sameSpans.mono _ _ _)
   | (with_reducible exact spec_DrawPartitionSplit.mono _ _)
   | (with_reducible exact spec_PartitionSplit.mono _ _ _)
   | (with_reducible exact LeO.refl _)
   | (with_reducible exact LeO.none _)
   | (with_reducible refine LeO.ite ?_ ?_)
   | (with_reducible refine LeO.bind ?_ (fun _ => ?_))
   | exact ih0 _ _ _ _ _
   | exact ih1 _ _ _ _
   | exact impl_PartitionFind.mono _ _ _
   | exact impl_PartitionMerge.mono _ _ _
   | exact impl_PartitionSplit.mono _ _ _
   | exact impl_PartitionValid.mono _ _
   | exact laws_alive.mono _
   | exact laws_sameSpans.mono _ _ _
   | exact spec_DrawPartitionSplit.mono _ _
   | exact spec_PartitionSplit.mono _ _ _
   | exact LeO.none _
   | refine LeO.ite ?_ ?_
   | refine LeO.bind ?_ (fun _ => ?_)
set_option maxHeartbeats 8000000 in
set_option maxRecDepth 100000 in
theorem laws_FnPartitionSplit.calls (k : Nat) (A0 : Option Addr) (c0 : Nat) (l0 : List Int) (r : Bool) (w : World) (hr0 : Kd.C (Kd.int .u8) w A0 l0.length l0) (hc0 : l0.length ≤ c0) (h : laws_FnPartitionSplit.f k l0 = some r) :
  Calls Try.prog 8 #[.slice A0 l0.length c0] w fun e w' => e = .returned (.bool r) ∧ Below w.heap.size w w' := by
 have HR0 := Aside0.mk hr0
 have HC0 := Aside0.mk hc0
 clear hr0 hc0
 have HB := Aside0.mk (Below.refl w.heap.size w)
 have H : (if (l0.length : Int) > 1048576 then (some true) else ((spec_DrawPartitionSplit.f k l0).bind fun bt384 => ((impl_PartitionSplit.f k bt384.1 bt384.2).bind fun bt388 => ((spec_PartitionSplit.f k bt384.1 bt384.2).bind fun bt392 => ((laws_sameSpans.f k bt388.1 bt392.1).bind fun t396 => (if t396 = true then (laws_FnPartitionSplit.j0 k bt384.1 bt384.2 bt388.1 bt388.2 (bt388.2 != bt392.2)) else (laws_FnPartitionSplit.j0 k bt384.1 bt384.2 bt388.1 bt388.2 true))))))) = some r := h
 clear h
 by_cases c2 : (l0.length : Int) > 1048576
 ·rw [if_pos c2] at H
  have c2b0 : decide (1048576 < (l0.length : Int)) = true := decide_eq_true c2
  have c2b1 : decide (1048576 < l0.length) = true := decide_eq_true (by omega)
  clear c2
  obtain rfl := Option.some.inj H
  go_enter Try.func8, Try.ntmps8
  go_wp2
  go_ret
  exact ⟨by first | rfl | (simp only [u8_w_, w64_u8_] <;> rfl) | (simp [errW_none, errW_some] <;> rfl) | (simp [*, errW_none, errW_some] <;> rfl), by repeat (first | (with_reducible first | exact HB.out | apply bA | apply bN | apply bD) | exact HB.out)⟩
 ·rw [if_neg c2] at H
  have c2b0 : decide (1048576 < (l0.length : Int)) = false := decide_eq_false c2
  have c2b1 : decide (1048576 < l0.length) = false := decide_eq_false (by omega)
  clear c2
  replace H := Option.bind_eq_some_iff.mp H
  obtain ⟨⟨t384, t385⟩, A30, H⟩ := H
  replace H : ((impl_PartitionSplit.f k t384 t385).bind fun bt388 => ((spec_PartitionSplit.f k t384 t385).bind fun bt392 => ((laws_sameSpans.f k bt388.1 bt392.1).bind fun t396 => (if t396 = true then (laws_FnPartitionSplit.j0 k t384 t385 bt388.1 bt388.2 (bt388.2 != bt392.2)) else (laws_FnPartitionSplit.j0 k t384 t385 bt388.1 bt388.2 true))))) = some r := H
  have A3 := Aside0.mk A30
  clear A30
  replace H := Option.bind_eq_some_iff.mp H
  obtain ⟨⟨t388, t389⟩, A40, H⟩ := H
  replace H : ((spec_PartitionSplit.f k t384 t385).bind fun bt392 => ((laws_sameSpans.f k t388 bt392.1).bind fun t396 => (if t396 = true then (laws_FnPartitionSplit.j0 k t384 t385 t388 t389 (t389 != bt392.2)) else (laws_FnPartitionSplit.j0 k t384 t385 t388 t389 true)))) = some r := H
  have A4 := Aside0.mk A40
  clear A40
  replace H := Option.bind_eq_some_iff.mp H
  obtain ⟨⟨t392, t393⟩, A50, H⟩ := H
  replace H : ((laws_sameSpans.f k t388 t392).bind fun t396 => (if t396 = true then (laws_FnPartitionSplit.j0 k t384 t385 t388 t389 (t389 != t393)) else (laws_FnPartitionSplit.j0 k t384 t385 t388 t389 true))) = some r := H
  have A5 := Aside0.mk A50
  clear A50
  have HC6 := Aside0.mk H
  clear H
  go_enter Try.func8, Try.ntmps8
  go_upto_region 6 with (first | ((with_reducible refine gate_callee (f := 31) rfl ?_); refine goesL_ (some 17) rfl rfl Try.func31 (by kernel_rfl) rfl #[.slice A0 l0.length c0] rfl (by (try simp only [List.map_toArray, List.map_cons, List.map_nil]); first | done | rfl | (simp only [List.length_drop, List.length_take]; rfl)) ?_; (with_reducible refine (spec_DrawPartitionSplit.calls k _ _ l0 t384 t385 _ ?side1 ?side2 A3.out).mono ?_); (case side1 => repeat (first | exact HR0.out | (with_reducible refine Kd.C_alloc ?_ _) | (with_reducible refine Kd.C_drewN ?_ _) | (with_reducible refine Kd.C_drew ?_))); (case side2 => exact HC0.out); rintro e w7 ⟨v386, rfl, ho0, hb⟩; refine ⟨_, rfl, ?_⟩; have n0_ := Aside0.mk (Kd.Q_lower ho0 (below_size (by exact hopb HB.out))); have n1_ := Aside0.mk (below_step (by exact hopb HB.out) hb); clear HB; have HO387 := n0_; have HB := n1_; clear n0_ n1_; (try clear hb); (try clear hb2); (try clear hk); (try clear hi); (try clear ho0); obtain ⟨Ao8, co8, eo8, _⟩ := Kd.Q_slice HO387.out; subst eo8) | ((with_reducible refine gate_callee (f := 30) rfl ?_); refine goesL_ (some 23) rfl rfl Try.func30 (by kernel_rfl) rfl #[.slice Ao8 t384.length co8, .string t385] rfl (by (try simp only [List.map_toArray, List.map_cons, List.map_nil]); first | done | rfl | (simp only [List.length_drop, List.length_take]; rfl)) ?_; (with_reducible refine (impl_PartitionSplit.calls k _ _ t384 t385 t388 t389 _ ?side1 ?side2 A4.out).mono ?_); (case side1 => repeat (first | exact (Kd.Q_reads' HO387.out).2.2 | (with_reducible refine Kd.C_alloc ?_ _) | (with_reducible refine Kd.C_drewN ?_ _) | (with_reducible refine Kd.C_drew ?_))); (case side2 => exact (Kd.Q_reads' HO387.out).2.1); rintro e w9 ⟨v390, rfl, ho0, hb⟩; refine ⟨_, rfl, ?_⟩; have n0_ := Aside0.mk (Kd.Q_elder' (by (with_reducible repeat (first | apply Kd.Q_alloc | apply Kd.Q_drewN | apply Kd.Q_drew)); exact HO387.out) (Kd.R_base ho0) hb); have n1_ := Aside0.mk (Kd.R_lower (Kd.R_new' ho0 (Kd.Q_lt (by (with_reducible repeat (first | apply Kd.Q_alloc | apply Kd.Q_drewN | apply Kd.Q_drew)); exact HO387.out))) (below_size (by exact hopb HB.out))); have n2_ := Aside0.mk (below_step (by exact hopb HB.out) hb); clear HO387; clear HB; have HO387 := n0_; have HO391 := n1_; have HB := n2_; clear n0_ n1_ n2_; (try clear hb); (try clear hb2); (try clear hk); (try clear hi); (try clear ho0)) | ((with_reducible refine gate_callee (f := 32) rfl ?_); refine goesL_ (some 29) rfl rfl Try.func32 (by kernel_rfl) rfl #[.slice Ao8 t384.length co8, .string t385] rfl (by (try simp only [List.map_toArray, List.map_cons, List.map_nil]); first | done | rfl | (simp only [List.length_drop, List.length_take]; rfl)) ?_; (with_reducible refine (spec_PartitionSplit.calls k _ _ t384 t385 t392 t393 _ ?side1 ?side2 A5.out).mono ?_); (case side1 => repeat (first | exact (Kd.Q_reads' HO387.out).2.2 | (with_reducible refine Kd.C_alloc ?_ _) | (with_reducible refine Kd.C_drewN ?_ _) | (with_reducible refine Kd.C_drew ?_))); (case side2 => exact (Kd.Q_reads' HO387.out).2.1); rintro e w10 ⟨v394, rfl, ho0, hb⟩; refine ⟨_, rfl, ?_⟩; have n0_ := Aside0.mk (Kd.Q_elder' (by (with_reducible repeat (first | apply Kd.Q_alloc | apply Kd.Q_drewN | apply Kd.Q_drew)); exact HO387.out) (Kd.R_base ho0) hb); have n1_ := Aside0.mk (Kd.R_elder' (by (with_reducible repeat (first | apply Kd.R_alloc | apply Kd.R_drewN | apply Kd.R_drew)); exact HO391.out) (Kd.R_base ho0) hb); have n2_ := Aside0.mk (Kd.R_lower (Kd.R_new' (Kd.R_new' ho0 (Kd.Q_lt (by (with_reducible repeat (first | apply Kd.Q_alloc | apply Kd.Q_drewN | apply Kd.Q_drew)); exact HO387.out))) (Kd.R_lt (by (with_reducible repeat (first | apply Kd.R_alloc | apply Kd.R_drewN | apply Kd.R_drew)); exact HO391.out))) (below_size (by exact hopb HB.out))); have n3_ := Aside0.mk (below_step (by exact hopb HB.out) hb); clear HO387; clear HO391; clear HB; have HO387 := n0_; have HO391 := n1_; have HO395 := n2_; have HB := n3_; clear n0_ n1_ n2_ n3_; (try clear hb); (try clear hb2); (try clear hk); (try clear hi); (try clear ho0)))
  (try simp only [Act.put, lT, lZ, lS])
  go_cut [40] (fun v40 wc => ∃ (kq : Nat) (x40_5 : Bool), v40 = .bool x40_5 ∧ Aside0 (laws_FnPartitionSplit.j0 kq t384 t385 t388 t389 x40_5 = some r) ∧ Aside0 (kq ≤ k) ∧ Aside0 (Kd.Q k27 27 wc w.heap.size (fun k_ => some k_ ≠ (v390 : Value).ownBlock) (.slice Ao8 t384.length co8) t384) ∧ Aside0 (Kd.R k27 27 wc w.heap.size (fun k_ => some k_ ≠ ((.slice Ao8 t384.length co8) : Value).ownBlock) v390 t388) ∧ Aside0 (Below w.heap.size w wc))
  case first =>
   have H := HC6.out
   clear HC6
   replace H := Option.bind_eq_some_iff.mp H
   obtain ⟨t396, A110, H⟩ := H
   replace H : (if t396 = true then (laws_FnPartitionSplit.j0 k t384 t385 t388 t389 (t389 != t393)) else (laws_FnPartitionSplit.j0 k t384 t385 t388 t389 true)) = some r := H
   have A11 := Aside0.mk A110
   clear A110
   by_cases c12 : t396 = true
   ·subst c12
    have H1 : (laws_FnPartitionSplit.j0 k t384 t385 t388 t389 (t389 != t393)) = some r := by rw [if_pos rfl] at H; exact H
    clear H
    have H := H1
    clear H1
    have H' := Aside0.mk H
    clear H
    obtain ⟨Ao13, co13, eo13⟩ := Kd.R_slice HO391.out
    subst eo13
    obtain ⟨Ao14, co14, eo14⟩ := Kd.R_slice HO395.out
    subst eo14
    go_wp2_with (first | ((with_reducible refine gate_callee (f := 16) rfl ?_); refine goesL_ (some 34) rfl rfl Try.func16 (by kernel_rfl) rfl #[.slice Ao13 t388.length co13, .slice Ao14 t392.length co14] rfl (by (try simp only [List.map_toArray, List.map_cons, List.map_nil]); first | done | rfl | (simp only [List.length_drop, List.length_take]; rfl)) ?_; (with_reducible refine (laws_sameSpans.calls k _ _ t388 _ _ t392 true _ ?side1 ?side2 ?side3 ?side4 A11.out).mono ?_); (case side1 => repeat (first | exact (Kd.R_reads' HO391.out).2.2 | (with_reducible refine Kd.C_alloc ?_ _) | (with_reducible refine Kd.C_drewN ?_ _) | (with_reducible refine Kd.C_drew ?_))); (case side2 => exact (Kd.R_reads' HO391.out).2.1); (case side3 => repeat (first | exact (Kd.R_reads' HO395.out).2.2 | (with_reducible refine Kd.C_alloc ?_ _) | (with_reducible refine Kd.C_drewN ?_ _) | (with_reducible refine Kd.C_drew ?_))); (case side4 => exact (Kd.R_reads' HO395.out).2.1); rintro e w' ⟨rfl, ⟨nd, rfl⟩⟩; refine ⟨_, rfl, ?_⟩))
    go_meet
    case rel => exact ⟨_, ((t389 != t393)), (by first | rfl | (simp; done) | (simp [bne]; done) | (simp [*]; done)), H', ⟨by first | omega | exact Nat.le_refl _⟩, ⟨by (with_reducible repeat (first | apply Kd.Q_alloc | apply Kd.Q_drewN | apply Kd.Q_drew)); exact Kd.Q_mono HO387.out (fun _ hk => hk.1.2)⟩, ⟨by (with_reducible repeat (first | apply Kd.R_alloc | apply Kd.R_drewN | apply Kd.R_drew)); exact Kd.R_mono HO391.out (fun _ hk => hk.1.2)⟩, ⟨by repeat (first | (with_reducible first | exact HB.out | apply bA | apply bN | apply bD) | exact HB.out)⟩⟩
   ·replace c12 := Bool.eq_false_iff.mpr c12
    subst c12
    have H1 : (laws_FnPartitionSplit.j0 k t384 t385 t388 t389 true) = some r := by rw [if_neg (show ¬ (false = true) by decide)] at H; exact H
    clear H
    have H := H1
    clear H1
    have H' := Aside0.mk H
    clear H
    obtain ⟨Ao15, co15, eo15⟩ := Kd.R_slice HO391.out
    subst eo15
    obtain ⟨Ao16, co16, eo16⟩ := Kd.R_slice HO395.out
    subst eo16
    go_wp2_with (first | ((with_reducible refine gate_callee (f := 16) rfl ?_); refine goesL_ (some 34) rfl rfl Try.func16 (by kernel_rfl) rfl #[.slice Ao15 t388.length co15, .slice Ao16 t392.length co16] rfl (by (try simp only [List.map_toArray, List.map_cons, List.map_nil]); first | done | rfl | (simp only [List.length_drop, List.length_take]; rfl)) ?_; (with_reducible refine (laws_sameSpans.calls k _ _ t388 _ _ t392 false _ ?side1 ?side2 ?side3 ?side4 A11.out).mono ?_); (case side1 => repeat (first | exact (Kd.R_reads' HO391.out).2.2 | (with_reducible refine Kd.C_alloc ?_ _) | (with_reducible refine Kd.C_drewN ?_ _) | (with_reducible refine Kd.C_drew ?_))); (case side2 => exact (Kd.R_reads' HO391.out).2.1); (case side3 => repeat (first | exact (Kd.R_reads' HO395.out).2.2 | (with_reducible refine Kd.C_alloc ?_ _) | (with_reducible refine Kd.C_drewN ?_ _) | (with_reducible refine Kd.C_drew ?_))); (case side4 => exact (Kd.R_reads' HO395.out).2.1); rintro e w' ⟨rfl, ⟨nd, rfl⟩⟩; refine ⟨_, rfl, ?_⟩))
    go_meet
    case rel => exact ⟨_, (true), (by first | rfl | (simp; done) | (simp [bne]; done) | (simp [*]; done)), H', ⟨by first | omega | exact Nat.le_refl _⟩, ⟨by (with_reducible repeat (first | apply Kd.Q_alloc | apply Kd.Q_drewN | apply Kd.Q_drew)); exact Kd.Q_mono HO387.out (fun _ hk => hk.1.2)⟩, ⟨by (with_reducible repeat (first | apply Kd.R_alloc | apply Kd.R_drewN | apply Kd.R_drew)); exact Kd.R_mono HO391.out (fun _ hk => hk.1.2)⟩, ⟨by repeat (first | (with_reducible first | exact HB.out | apply bA | apply bN | apply bD) | exact HB.out)⟩⟩
  case rest =>
   clear HC6
   try clear c1
   try clear c2
   try clear c2b0
   try clear c2b1
   try clear p2
   try clear c3
   try clear c8
   try clear c12
   try clear c16
   obtain ⟨kq, x40_5, rfl, HA, HJ5, HO_3, HO_5, HB⟩ := hcut
   cases kq with
   | zero => exact absurd HA.out (by simp [laws_FnPartitionSplit.j0])
   | succ kj5 =>
    have H := HA.out
    clear HA
    simp only [laws_FnPartitionSplit.j0] at H
    by_cases c17 : x40_5 = true
    ·subst c17
     have H1 : (none) = some r := by rw [if_pos rfl] at H; exact H
     clear H
     have H := H1
     clear H1
     exact absurd H (by simp)
    ·replace c17 := Bool.eq_false_iff.mpr c17
     subst c17
     have H1 : (if t389 = true then ((impl_PartitionFind.f kj5 t388 t385).bind fun t400 => (if t400 < 1 then (laws_FnPartitionSplit.j1 kj5 t384 t388 t400 true) else (if t400 ≥ (t388.length : Int) then (laws_FnPartitionSplit.j1 kj5 t384 t388 t400 true) else (if 0 ≤ t400 then (if t400 < (t388.length : Int) then (if ((rd_T27 t388 t400).f0).toList = t385.toList then ((impl_PartitionValid.f kj5 t388).bind fun t402 => (laws_FnPartitionSplit.j1 kj5 t384 t388 t400 (!t402))) else (laws_FnPartitionSplit.j1 kj5 t384 t388 t400 true)) else (none)) else (none))))) else ((laws_sameSpans.f kj5 t388 t384).bind fun t397 => (if t397 = true then ((laws_alive.f kj5).bind fun t398 => (some t398)) else (if (t388.length : Int) = 0 then ((laws_alive.f kj5).bind fun t399 => (some t399)) else (none))))) = some r := by rw [if_neg (show ¬ (false = true) by decide)] at H; exact H
     clear H
     have H := H1
     clear H1
     by_cases c18 : t389 = true
     ·subst c18
      have H1 : ((impl_PartitionFind.f kj5 t388 t385).bind fun t400 => (if t400 < 1 then (laws_FnPartitionSplit.j1 kj5 t384 t388 t400 true) else (if t400 ≥ (t388.length : Int) then (laws_FnPartitionSplit.j1 kj5 t384 t388 t400 true) else (if 0 ≤ t400 then (if t400 < (t388.length : Int) then (if ((rd_T27 t388 t400).f0).toList = t385.toList then ((impl_PartitionValid.f kj5 t388).bind fun t402 => (laws_FnPartitionSplit.j1 kj5 t384 t388 t400 (!t402))) else (laws_FnPartitionSplit.j1 kj5 t384 t388 t400 true)) else (none)) else (none))))) = some r := by rw [if_pos rfl] at H; exact H
      clear H
      have H := H1
      clear H1
      replace H := Option.bind_eq_some_iff.mp H
      obtain ⟨t400, A190, H⟩ := H
      replace H : (if t400 < 1 then (laws_FnPartitionSplit.j1 kj5 t384 t388 t400 true) else (if t400 ≥ (t388.length : Int) then (laws_FnPartitionSplit.j1 kj5 t384 t388 t400 true) else (if 0 ≤ t400 then (if t400 < (t388.length : Int) then (if ((rd_T27 t388 t400).f0).toList = t385.toList then ((impl_PartitionValid.f kj5 t388).bind fun t402 => (laws_FnPartitionSplit.j1 kj5 t384 t388 t400 (!t402))) else (laws_FnPartitionSplit.j1 kj5 t384 t388 t400 true)) else (none)) else (none)))) = some r := H
      have A19 := Aside0.mk A190
      clear A190
      have HC20 := Aside0.mk H
      clear H
      obtain ⟨Ao21, co21, eo21⟩ := Kd.R_slice HO_5.out
      subst eo21
      go_upto_region 11 with (first | ((with_reducible refine gate_callee (f := 20) rfl ?_); refine goesL_ (some 56) rfl rfl Try.func20 (by kernel_rfl) rfl #[.slice Ao21 t388.length co21, .string t385] rfl (by (try simp only [List.map_toArray, List.map_cons, List.map_nil]); first | done | rfl | (simp only [List.length_drop, List.length_take]; rfl)) ?_; (with_reducible refine (impl_PartitionFind.calls kj5 _ _ t388 t385 t400 _ ?side1 ?side2 A19.out).mono ?_); (case side1 => repeat (first | exact (Kd.R_reads' HO_5.out).2.2 | (with_reducible refine Kd.C_alloc ?_ _) | (with_reducible refine Kd.C_drewN ?_ _) | (with_reducible refine Kd.C_drew ?_))); (case side2 => exact (Kd.R_reads' HO_5.out).2.1); rintro e w22 ⟨rfl, hb⟩; refine ⟨_, rfl, ?_⟩; have n0_ := Aside0.mk (Kd.Q_below (by (with_reducible repeat (first | apply Kd.Q_alloc | apply Kd.Q_drewN | apply Kd.Q_drew)); exact HO_3.out) hb); have n1_ := Aside0.mk (Kd.R_below (by (with_reducible repeat (first | apply Kd.R_alloc | apply Kd.R_drewN | apply Kd.R_drew)); exact HO_5.out) hb); have n2_ := Aside0.mk (below_step (by exact hopb HB.out) hb); clear HO_3; clear HO_5; clear HB; have HO_3 := n0_; have HO_5 := n1_; have HB := n2_; clear n0_ n1_ n2_; (try clear hb); (try clear hb2); (try clear hk); (try clear hi)))
      (try simp only [Act.put, lT, lZ, lS])
      go_cut [78] (fun v78 wc => ∃ (kq : Nat) (x78_19 : Bool), v78 = .bool x78_19 ∧ Aside0 (laws_FnPartitionSplit.j1 kq t384 t388 t400 x78_19 = some r) ∧ Aside0 (kq ≤ kj5) ∧ Aside0 (Kd.Q k27 27 wc w.heap.size (fun k_ => some k_ ≠ ((.slice Ao21 t388.length co21) : Value).ownBlock) (.slice Ao8 t384.length co8) t384) ∧ Aside0 (Kd.R k27 27 wc w.heap.size (fun k_ => some k_ ≠ ((.slice Ao8 t384.length co8) : Value).ownBlock) (.slice Ao21 t388.length co21) t388) ∧ Aside0 (Below w.heap.size w wc))
      case first =>
       have H := HC20.out
       clear HC20
       by_cases c23 : t400 < 1
       ·rw [if_pos c23] at H
        have c23b0 : decide (t400 < 1) = true := decide_eq_true c23
        clear c23
        (first | rw [c23b0] | (simp only [i64_w, i32_w]; rw [c23b0]) | skip)
        have H' := Aside0.mk H
        clear H
        go_wp2
        go_meet
        case rel => exact ⟨_, (true), (by first | rfl | (simp; done) | (simp [bne]; done) | (simp [*]; done)), H', ⟨by have := HJ5.out; first | omega | exact Nat.le_refl _⟩, ⟨by (with_reducible repeat (first | apply Kd.Q_alloc | apply Kd.Q_drewN | apply Kd.Q_drew)); exact HO_3.out⟩, ⟨by (with_reducible repeat (first | apply Kd.R_alloc | apply Kd.R_drewN | apply Kd.R_drew)); exact HO_5.out⟩, ⟨by repeat (first | (with_reducible first | exact HB.out | apply bA | apply bN | apply bD) | exact HB.out)⟩⟩
       ·rw [if_neg c23] at H
        have c23b0 : decide (t400 < 1) = false := decide_eq_false c23
        clear c23
        (first | rw [c23b0] | (simp only [i64_w, i32_w]; rw [c23b0]) | skip)
        by_cases c24 : t400 ≥ (t388.length : Int)
        ·rw [if_pos c24] at H
         have c24b0 : decide ((t388.length : Int) ≤ t400) = true := decide_eq_true c24
         clear c24
         have H' := Aside0.mk H
         clear H
         go_wp2
         go_meet
         case rel => exact ⟨_, (true), (by first | rfl | (simp; done) | (simp [bne]; done) | (simp [*]; done)), H', ⟨by have := HJ5.out; first | omega | exact Nat.le_refl _⟩, ⟨by (with_reducible repeat (first | apply Kd.Q_alloc | apply Kd.Q_drewN | apply Kd.Q_drew)); exact HO_3.out⟩, ⟨by (with_reducible repeat (first | apply Kd.R_alloc | apply Kd.R_drewN | apply Kd.R_drew)); exact HO_5.out⟩, ⟨by repeat (first | (with_reducible first | exact HB.out | apply bA | apply bN | apply bD) | exact HB.out)⟩⟩
        ·rw [if_neg c24] at H
         have c24b0 : decide ((t388.length : Int) ≤ t400) = false := decide_eq_false c24
         clear c24
         by_cases c25 : 0 ≤ t400
         ·rw [if_pos c25] at H
          have c25b0 : decide (0 ≤ t400) = true := decide_eq_true c25
          clear c25
          by_cases c26 : t400 < (t388.length : Int)
          ·rw [if_pos c26] at H
           have c26b0 : decide (t400 < (t388.length : Int)) = true := decide_eq_true c26
           clear c26
           by_cases c27 : ((rd_T27 t388 t400).f0).toList = t385.toList
           ·rw [if_pos c27] at H
            have c27b0 : (((rd_T27 t388 t400).f0).toList == t385.toList) = true := beq_iff_eq.mpr c27
            have c27b1 : (((rd_T27 t388 t400).f0).toList != t385.toList) = false := bne_eq_false_iff_eq.mpr c27
            clear c27
            replace H := Option.bind_eq_some_iff.mp H
            obtain ⟨t402, A280, H⟩ := H
            replace H : (laws_FnPartitionSplit.j1 kj5 t384 t388 t400 (!t402)) = some r := H
            have A28 := Aside0.mk A280
            clear A280
            have H' := Aside0.mk H
            clear H
            have p401 : 0 ≤ (t400 : Int) := of_decide_eq_true (by first | (with_reducible assumption) | assumption)
            have q401 : t400 < (t388.length : Int) := of_decide_eq_true (by first | (with_reducible assumption) | assumption)
            obtain ⟨ad401, e401, hx401_0, hx401_1⟩ := at_T27 (Kd.R_reads' HO_5.out).2.2 t400 p401 q401
            cases e401
            replace p401 := eq_true p401
            replace q401 := eq_true q401
            go_wp2_with (first | (go_at_call 10; (with_reducible refine (impl_PartitionValid.calls kj5 _ _ t388 t402 _ ?side1 ?side2 A28.out).mono ?_); (case side1 => repeat (first | exact (Kd.R_reads' HO_5.out).2.2 | (with_reducible refine Kd.C_alloc ?_ _) | (with_reducible refine Kd.C_drewN ?_ _) | (with_reducible refine Kd.C_drew ?_))); (case side2 => exact (Kd.R_reads' HO_5.out).2.1); rintro e w29 ⟨rfl, hb⟩; have n0_ := Aside0.mk (Kd.Q_below (by (with_reducible repeat (first | apply Kd.Q_alloc | apply Kd.Q_drewN | apply Kd.Q_drew)); exact HO_3.out) hb); have n1_ := Aside0.mk (Kd.R_below (by (with_reducible repeat (first | apply Kd.R_alloc | apply Kd.R_drewN | apply Kd.R_drew)); exact HO_5.out) hb); have n2_ := Aside0.mk (below_step (by exact hopb HB.out) hb); clear HO_3; clear HO_5; clear HB; have HO_3 := n0_; have HO_5 := n1_; have HB := n2_; clear n0_ n1_ n2_; (try clear hb); (try clear hb2); (try clear hk); (try clear hi)))
            go_meet
            case rel => exact ⟨_, (!t402), (by first | rfl | (simp; done) | (simp [bne]; done) | (simp [*]; done)), H', ⟨by have := HJ5.out; first | omega | exact Nat.le_refl _⟩, ⟨by (with_reducible repeat (first | apply Kd.Q_alloc | apply Kd.Q_drewN | apply Kd.Q_drew)); exact HO_3.out⟩, ⟨by (with_reducible repeat (first | apply Kd.R_alloc | apply Kd.R_drewN | apply Kd.R_drew)); exact HO_5.out⟩, ⟨by repeat (first | (with_reducible first | exact HB.out | apply bA | apply bN | apply bD) | exact HB.out)⟩⟩
           ·rw [if_neg c27] at H
            have c27b0 : (((rd_T27 t388 t400).f0).toList == t385.toList) = false := beq_eq_false_iff_ne.mpr c27
            have c27b1 : (((rd_T27 t388 t400).f0).toList != t385.toList) = true := bne_iff_ne.mpr c27
            have H' := Aside0.mk H
            clear H
            have p401 : 0 ≤ (t400 : Int) := of_decide_eq_true (by first | (with_reducible assumption) | assumption)
            have q401 : t400 < (t388.length : Int) := of_decide_eq_true (by first | (with_reducible assumption) | assumption)
            obtain ⟨ad401, e401, hx401_0, hx401_1⟩ := at_T27 (Kd.R_reads' HO_5.out).2.2 t400 p401 q401
            cases e401
            replace p401 := eq_true p401
            replace q401 := eq_true q401
            go_wp2
            go_meet
            case rel => exact ⟨_, (true), (by first | rfl | (simp; done) | (simp [bne]; done) | (simp [*]; done)), H', ⟨by have := HJ5.out; first | omega | exact Nat.le_refl _⟩, ⟨by (with_reducible repeat (first | apply Kd.Q_alloc | apply Kd.Q_drewN | apply Kd.Q_drew)); exact HO_3.out⟩, ⟨by (with_reducible repeat (first | apply Kd.R_alloc | apply Kd.R_drewN | apply Kd.R_drew)); exact HO_5.out⟩, ⟨by repeat (first | (with_reducible first | exact HB.out | apply bA | apply bN | apply bD) | exact HB.out)⟩⟩
          ·rw [if_neg c26] at H
           exact absurd H (by simp)
         ·rw [if_neg c25] at H
          exact absurd H (by simp)
      case rest =>
       clear HC20
       try clear c1
       try clear c2
       try clear c2b0
       try clear c2b1
       try clear p2
       try clear c3
       try clear p4
       try clear q4
       try clear hx4
       try clear c8
       try clear c12
       try clear c16
       try clear c17
       try clear c18
       try clear c20
       try clear c23
       try clear c23b0
       try clear c24
       try clear c24b0
       try clear c25
       try clear c25b0
       try clear c26
       try clear c26b0
       try clear c27
       try clear c27b0
       try clear c27b1
       try clear hx401_0
       try clear hx401_1
       try clear p2
       try clear p401
       try clear q401
       obtain ⟨kq, x78_19, rfl, HA, HJ19, HO_3, HO_5, HB⟩ := hcut
       cases kq with
       | zero => exact absurd HA.out (by simp [laws_FnPartitionSplit.j1])
       | succ kj19 =>
        have H := HA.out
        clear HA
        simp only [laws_FnPartitionSplit.j1] at H
        by_cases c30 : x78_19 = true
        ·subst c30
         have H1 : (none) = some r := by rw [if_pos rfl] at H; exact H
         clear H
         have H := H1
         clear H1
         exact absurd H (by simp)
        ·replace c30 := Bool.eq_false_iff.mpr c30
         subst c30
         have H1 : ((impl_PartitionMerge.f kj19 t388 (wrap64 (t400 - 1))).bind fun bt403 => (if bt403.2 = true then ((laws_sameSpans.f kj19 bt403.1 t384).bind fun t407 => (some t407)) else (none))) = some r := by rw [if_neg (show ¬ (false = true) by decide)] at H; exact H
         clear H
         have H := H1
         clear H1
         replace H := Option.bind_eq_some_iff.mp H
         obtain ⟨⟨t403, t404⟩, A310, H⟩ := H
         replace H : (if t404 = true then ((laws_sameSpans.f kj19 t403 t384).bind fun t407 => (some t407)) else (none)) = some r := H
         have A31 := Aside0.mk A310
         clear A310
         by_cases c32 : t404 = true
         ·subst c32
          have H1 : ((laws_sameSpans.f kj19 t403 t384).bind fun t407 => (some t407)) = some r := by rw [if_pos rfl] at H; exact H
          clear H
          have H := H1
          clear H1
          replace H := Option.bind_eq_some_iff.mp H
          obtain ⟨t407, A330, H⟩ := H
          replace H : (some t407) = some r := H
          have A33 := Aside0.mk A330
          clear A330
          obtain rfl := Option.some.inj H
          go_wp2_with (first | ((with_reducible refine gate_callee (f := 28) rfl ?_); refine goesL_ (some 83) rfl rfl Try.func28 (by kernel_rfl) rfl #[.slice Ao21 t388.length co21, .int .i64 (wrap64 (t400 - 1))] rfl (by (try simp only [List.map_toArray, List.map_cons, List.map_nil]); first | done | rfl | (simp only [List.length_drop, List.length_take]; rfl)) ?_; (with_reducible refine (impl_PartitionMerge.calls kj19 _ _ t388 (wrap64 (t400 - 1)) t403 true _ ?side1 ?side2 A31.out).mono ?_); (case side1 => repeat (first | exact (Kd.R_reads' HO_5.out).2.2 | (with_reducible refine Kd.C_alloc ?_ _) | (with_reducible refine Kd.C_drewN ?_ _) | (with_reducible refine Kd.C_drew ?_))); (case side2 => exact (Kd.R_reads' HO_5.out).2.1); rintro e w34 ⟨v405, rfl, ho0, hb⟩; refine ⟨_, rfl, ?_⟩; have n0_ := Aside0.mk (Kd.Q_elder' (by (with_reducible repeat (first | apply Kd.Q_alloc | apply Kd.Q_drewN | apply Kd.Q_drew)); exact HO_3.out) (Kd.R_base ho0) hb); have n1_ := Aside0.mk (Kd.R_elder' (by (with_reducible repeat (first | apply Kd.R_alloc | apply Kd.R_drewN | apply Kd.R_drew)); exact HO_5.out) (Kd.R_base ho0) hb); have n2_ := Aside0.mk (Kd.R_lower (Kd.R_new' (Kd.R_new' ho0 (Kd.Q_lt (by (with_reducible repeat (first | apply Kd.Q_alloc | apply Kd.Q_drewN | apply Kd.Q_drew)); exact HO_3.out))) (Kd.R_lt (by (with_reducible repeat (first | apply Kd.R_alloc | apply Kd.R_drewN | apply Kd.R_drew)); exact HO_5.out))) (below_size (by exact hopb HB.out))); have n3_ := Aside0.mk (below_step (by exact hopb HB.out) hb); clear HO_3; clear HO_5; clear HB; have HO_3 := n0_; have HO_5 := n1_; have HO406 := n2_; have HB := n3_; clear n0_ n1_ n2_ n3_; (try clear hb); (try clear hb2); (try clear hk); (try clear hi); (try clear ho0); obtain ⟨Ao35, co35, eo35⟩ := Kd.R_slice HO406.out; subst eo35) | (go_at_call 16; (with_reducible refine (laws_sameSpans.calls kj19 _ _ t403 _ _ t384 t407 _ ?side1 ?side2 ?side3 ?side4 A33.out).mono ?_); (case side1 => repeat (first | exact (Kd.R_reads' HO406.out).2.2 | (with_reducible refine Kd.C_alloc ?_ _) | (with_reducible refine Kd.C_drewN ?_ _) | (with_reducible refine Kd.C_drew ?_))); (case side2 => exact (Kd.R_reads' HO406.out).2.1); (case side3 => repeat (first | exact (Kd.Q_reads' HO_3.out).2.2 | (with_reducible refine Kd.C_alloc ?_ _) | (with_reducible refine Kd.C_drewN ?_ _) | (with_reducible refine Kd.C_drew ?_))); (case side4 => exact (Kd.Q_reads' HO_3.out).2.1); rintro e w' ⟨rfl, ⟨nd, rfl⟩⟩))
          go_ret
          exact ⟨by first | rfl | (simp only [u8_w_, w64_u8_] <;> rfl) | (simp [errW_none, errW_some] <;> rfl) | (simp [*, errW_none, errW_some] <;> rfl), by repeat (first | (with_reducible first | exact HB.out | apply bA | apply bN | apply bD) | exact HB.out)⟩
         ·replace c32 := Bool.eq_false_iff.mpr c32
          subst c32
          have H1 : (none) = some r := by rw [if_neg (show ¬ (false = true) by decide)] at H; exact H
          clear H
          have H := H1
          clear H1
          exact absurd H (by simp)
     ·replace c18 := Bool.eq_false_iff.mpr c18
      subst c18
      have H1 : ((laws_sameSpans.f kj5 t388 t384).bind fun t397 => (if t397 = true then ((laws_alive.f kj5).bind fun t398 => (some t398)) else (if (t388.length : Int) = 0 then ((laws_alive.f kj5).bind fun t399 => (some t399)) else (none)))) = some r := by rw [if_neg (show ¬ (false = true) by decide)] at H; exact H
      clear H
      have H := H1
      clear H1
      replace H := Option.bind_eq_some_iff.mp H
      obtain ⟨t397, A360, H⟩ := H
      replace H : (if t397 = true then ((laws_alive.f kj5).bind fun t398 => (some t398)) else (if (t388.length : Int) = 0 then ((laws_alive.f kj5).bind fun t399 => (some t399)) else (none))) = some r := H
      have A36 := Aside0.mk A360
      clear A360
      by_cases c37 : t397 = true
      ·subst c37
       have H1 : ((laws_alive.f kj5).bind fun t398 => (some t398)) = some r := by rw [if_pos rfl] at H; exact H
       clear H
       have H := H1
       clear H1
       replace H := Option.bind_eq_some_iff.mp H
       obtain ⟨t398, A380, H⟩ := H
       replace H : (some t398) = some r := H
       have A38 := Aside0.mk A380
       clear A380
       obtain rfl := Option.some.inj H
       obtain ⟨Ao39, co39, eo39⟩ := Kd.R_slice HO_5.out
       subst eo39
       go_wp2_with (first | ((with_reducible refine gate_callee (f := 16) rfl ?_); refine goesL_ (some 45) rfl rfl Try.func16 (by kernel_rfl) rfl #[.slice Ao39 t388.length co39, .slice Ao8 t384.length co8] rfl (by (try simp only [List.map_toArray, List.map_cons, List.map_nil]); first | done | rfl | (simp only [List.length_drop, List.length_take]; rfl)) ?_; (with_reducible refine (laws_sameSpans.calls kj5 _ _ t388 _ _ t384 true _ ?side1 ?side2 ?side3 ?side4 A36.out).mono ?_); (case side1 => repeat (first | exact (Kd.R_reads' HO_5.out).2.2 | (with_reducible refine Kd.C_alloc ?_ _) | (with_reducible refine Kd.C_drewN ?_ _) | (with_reducible refine Kd.C_drew ?_))); (case side2 => exact (Kd.R_reads' HO_5.out).2.1); (case side3 => repeat (first | exact (Kd.Q_reads' HO_3.out).2.2 | (with_reducible refine Kd.C_alloc ?_ _) | (with_reducible refine Kd.C_drewN ?_ _) | (with_reducible refine Kd.C_drew ?_))); (case side4 => exact (Kd.Q_reads' HO_3.out).2.1); rintro e w' ⟨rfl, ⟨nd, rfl⟩⟩; refine ⟨_, rfl, ?_⟩) | (go_at_call 12; (with_reducible refine (laws_alive.calls kj5  t398 _ A38.out).mono ?_); rintro e w40 ⟨rfl, hb⟩; have n0_ := Aside0.mk (Kd.Q_below (by (with_reducible repeat (first | apply Kd.Q_alloc | apply Kd.Q_drewN | apply Kd.Q_drew)); exact HO_3.out) hb); have n1_ := Aside0.mk (Kd.R_below (by (with_reducible repeat (first | apply Kd.R_alloc | apply Kd.R_drewN | apply Kd.R_drew)); exact HO_5.out) hb); have n2_ := Aside0.mk (below_step (by exact hopb HB.out) hb); clear HO_3; clear HO_5; clear HB; have HO_3 := n0_; have HO_5 := n1_; have HB := n2_; clear n0_ n1_ n2_; (try clear hb); (try clear hb2); (try clear hk); (try clear hi)))
       go_ret
       exact ⟨by first | rfl | (simp only [u8_w_, w64_u8_] <;> rfl) | (simp [errW_none, errW_some] <;> rfl) | (simp [*, errW_none, errW_some] <;> rfl), by repeat (first | (with_reducible first | exact HB.out | apply bA | apply bN | apply bD) | exact HB.out)⟩
      ·replace c37 := Bool.eq_false_iff.mpr c37
       subst c37
       have H1 : (if (t388.length : Int) = 0 then ((laws_alive.f kj5).bind fun t399 => (some t399)) else (none)) = some r := by rw [if_neg (show ¬ (false = true) by decide)] at H; exact H
       clear H
       have H := H1
       clear H1
       by_cases c41 : (t388.length : Int) = 0
       ·rw [if_pos c41] at H
        have c41b0 : ((t388.length : Int) == 0) = true := beq_iff_eq.mpr c41
        have c41b1 : ((t388.length : Int) != 0) = false := bne_eq_false_iff_eq.mpr c41
        clear c41
        replace H := Option.bind_eq_some_iff.mp H
        obtain ⟨t399, A420, H⟩ := H
        replace H : (some t399) = some r := H
        have A42 := Aside0.mk A420
        clear A420
        obtain rfl := Option.some.inj H
        obtain ⟨Ao43, co43, eo43⟩ := Kd.R_slice HO_5.out
        subst eo43
        go_wp2_with (first | ((with_reducible refine gate_callee (f := 16) rfl ?_); refine goesL_ (some 45) rfl rfl Try.func16 (by kernel_rfl) rfl #[.slice Ao43 t388.length co43, .slice Ao8 t384.length co8] rfl (by (try simp only [List.map_toArray, List.map_cons, List.map_nil]); first | done | rfl | (simp only [List.length_drop, List.length_take]; rfl)) ?_; (with_reducible refine (laws_sameSpans.calls kj5 _ _ t388 _ _ t384 false _ ?side1 ?side2 ?side3 ?side4 A36.out).mono ?_); (case side1 => repeat (first | exact (Kd.R_reads' HO_5.out).2.2 | (with_reducible refine Kd.C_alloc ?_ _) | (with_reducible refine Kd.C_drewN ?_ _) | (with_reducible refine Kd.C_drew ?_))); (case side2 => exact (Kd.R_reads' HO_5.out).2.1); (case side3 => repeat (first | exact (Kd.Q_reads' HO_3.out).2.2 | (with_reducible refine Kd.C_alloc ?_ _) | (with_reducible refine Kd.C_drewN ?_ _) | (with_reducible refine Kd.C_drew ?_))); (case side4 => exact (Kd.Q_reads' HO_3.out).2.1); rintro e w' ⟨rfl, ⟨nd, rfl⟩⟩; refine ⟨_, rfl, ?_⟩) | (go_at_call 12; (with_reducible refine (laws_alive.calls kj5  t399 _ A42.out).mono ?_); rintro e w44 ⟨rfl, hb⟩; have n0_ := Aside0.mk (Kd.Q_below (by (with_reducible repeat (first | apply Kd.Q_alloc | apply Kd.Q_drewN | apply Kd.Q_drew)); exact HO_3.out) hb); have n1_ := Aside0.mk (Kd.R_below (by (with_reducible repeat (first | apply Kd.R_alloc | apply Kd.R_drewN | apply Kd.R_drew)); exact HO_5.out) hb); have n2_ := Aside0.mk (below_step (by exact hopb HB.out) hb); clear HO_3; clear HO_5; clear HB; have HO_3 := n0_; have HO_5 := n1_; have HB := n2_; clear n0_ n1_ n2_; (try clear hb); (try clear hb2); (try clear hk); (try clear hi)))
        go_ret
        exact ⟨by first | rfl | (simp only [u8_w_, w64_u8_] <;> rfl) | (simp [errW_none, errW_some] <;> rfl) | (simp [*, errW_none, errW_some] <;> rfl), by repeat (first | (with_reducible first | exact HB.out | apply bA | apply bN | apply bD) | exact HB.out)⟩
       ·rw [if_neg c41] at H
        exact absurd H (by simp)

/-- THE ONE PURE STATEMENT of laws_FnPartitionSplit: yours. -/
def laws_FnPartitionSplit.Pure : Prop := ∀ (l0 : List Int), l0.length ≤ maxLen → l0.length * 1 ≤ 140737488351232 → (∀ x ∈ l0, (Lit.int .u8 x).wf = true) → ∃ k, laws_FnPartitionSplit.f k l0 = some true
theorem laws_FnPartitionSplit.walk (P : laws_FnPartitionSplit.Pure) (a0 : Option Addr) (len0 cap0 : Nat) (z0 : List Int) (w : World) (w0 : (a0 = none ∧ len0 = 0 ∧ cap0 = 0 ∧ z0 = []) ∨ ∃ x, a0 = some x ∧ len0 ≤ cap0 ∧ cap0 ≤ maxLen ∧ z0.length = cap0 ∧ (∀ i, i < z0.length → w.cell? (x.add i) = some (.int .u8 (z0.getD i 0))) ∧ ∀ n ∈ z0, (Lit.int .u8 n).wf = true) (y0 : len0 * 1 ≤ 140737488351232) :
  Calls Try.prog 8 #[.slice a0 len0 cap0] w fun e w' => e = .returned (.bool true) ∧ Below w.heap.size w w' := by
 obtain ⟨l0, rfl, hr0, hm0, hw0, hc0⟩ := ReadsInt.ofRowC w0
 obtain ⟨k, h⟩ := P l0 hm0 y0 hw0
 refine (laws_FnPartitionSplit.calls k _ _ l0 true w (Kd.C_of_reads (d := (0 : Int)) (h1 := fun _ => rfl) hr0) hc0 h).mono ?_
 rintro e w' ⟨rfl, hd⟩
 exact ⟨rfl, hd⟩

end Go.Proofs.Ytohafpgcnknooaa.PFnPartitionSplit
