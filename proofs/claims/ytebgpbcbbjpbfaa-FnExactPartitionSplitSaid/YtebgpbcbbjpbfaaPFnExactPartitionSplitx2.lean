-- Written for this claim by a program of this session (wip/myprint in the proofs' repo)
import Derived.Test.YtebgpbcbbjpbfaaPFnExactPartitionSplitx0
import Derived.Test.YtebgpbcbbjpbfaaPFnExactPartitionSplitx1
import Derived.Test.YtebgpbcbbjpbfaaWZip
namespace Go.Proofs.Ytebgpbcbbjpbfaa.PFnExactPartitionSplit
open Go.RowKit Go.Proofs.YtebgpbcbbjpbfaaW.PrintWords Go.Proofs.YtebgpbcbbjpbfaaW.PrintLast Go.Proofs.YtebgpbcbbjpbfaaW.PrintMore
attribute [local go_sem] max2_int min2_int max_two min_two max_three min_three max_four min_four max2_strs min2_strs   -- for this text's walks alone
set_option linter.unusedVariables false
set_option linter.unusedSimpArgs false

/-! ### spec_PartitionValid: function 96 -/
mutual
def spec_PartitionValid.j0 : Nat → List (S76) → Bool → Option (Bool)
 | 0, _, _ => none
 | k + 1, x0, x33 => if x33 = true then (some false) else (spec_PartitionValid.l0 k x0 1)
def spec_PartitionValid.l0 : Nat → List (S76) → Int → Option (Bool)
 | 0, _, _ => none
 | k + 1, x0, x3 => if x3 < (x0.length : Int) then (if 0 ≤ (wrap64 (x3 - 1)) then (if (wrap64 (x3 - 1)) < (x0.length : Int) then (if 0 ≤ x3 then ((spec_IntervalJoin.f k ((rd_T76 x0 (wrap64 (x3 - 1))).f0) ((rd_T76 x0 (wrap64 (x3 - 1))).f1) ((rd_T76 x0 x3).f0) ((rd_T76 x0 x3).f1)).bind fun bt121 => (if bt121.2.2 = true then (spec_PartitionValid.l0 k x0 (wrap64 (x3 + 1))) else (some false))) else (none)) else (none)) else (none)) else (some true)
end
def spec_PartitionValid.f (k : Nat) (l0 : List (S76)) : Option (Bool) := (spec_l1In.f (l0.length : Int) 1 6).bind fun t114 => (if t114 = true then (if 0 < (l0.length : Int) then ((spec_IntervalValid.f k ((rd_T76 l0 0).f0) ((rd_T76 l0 0).f1)).bind fun t116 => (if t116 = true then (if ((rd_T76 l0 0).f0).toList = ([] : List UInt8) then (if 0 ≤ (wrap64 ((l0.length : Int) - 1)) then (if (wrap64 ((l0.length : Int) - 1)) < (l0.length : Int) then (spec_PartitionValid.j0 k l0 (((rd_T76 l0 (wrap64 ((l0.length : Int) - 1))).f1).toList != ([] : List UInt8))) else (none)) else (none)) else (spec_PartitionValid.j0 k l0 true)) else (spec_PartitionValid.j0 k l0 true))) else (none)) else (spec_PartitionValid.j0 k l0 true))
theorem spec_PartitionValid.mono_l : ∀ k, (∀ y0 y1, LeO (spec_PartitionValid.j0 k y0 y1) (spec_PartitionValid.j0 (k + 1) y0 y1)) ∧ (∀ y0 y1, LeO (spec_PartitionValid.l0 k y0 y1) (spec_PartitionValid.l0 (k + 1) y0 y1))
 | 0 => ⟨fun _ _ r h => by simp [spec_PartitionValid.j0] at h, fun _ _ r h => by simp [spec_PartitionValid.l0] at h⟩
 | k + 1 => by
  obtain ⟨ih0, ih1⟩ := spec_PartitionValid.mono_l k
  refine ⟨?_, ?_⟩
  ·intro y0 y1
   unfold spec_PartitionValid.j0
   repeat' first
   | (with_reducible exact ih0 _ _)
   | (with_reducible exact ih1 _ _)
   | (with_reducible exact spec_IntervalJoin.mono _ _ _ _ _)
   | (with_reducible exact spec_IntervalValid.mono _ _ _)
   | (with_reducible exact LeO.refl _)
   | (with_reducible exact LeO.none _)
   | (with_reducible refine LeO.ite ?_ ?_)
   | (with_reducible refine LeO.bind ?_ (fun _ => ?_))
   | exact ih0 _ _
   | exact ih1 _ _
   | exact spec_IntervalJoin.mono _ _ _ _ _
   | exact spec_IntervalValid.mono _ _ _
   | exact LeO.none _
   | refine LeO.ite ?_ ?_
   | refine LeO.bind ?_ (fun _ => ?_)
  ·intro y0 y1
   unfold spec_PartitionValid.l0
   repeat' first
   | (with_reducible exact ih0 _ _)
   | (with_reducible exact ih1 _ _)
   | (with_reducible exact spec_IntervalJoin.mono _ _ _ _ _)
   | (with_reducible exact spec_IntervalValid.mono _ _ _)
   | (with_reducible exact LeO.refl _)
   | (with_reducible exact LeO.none _)
   | (with_reducible refine LeO.ite ?_ ?_)
   | (with_reducible refine LeO.bind ?_ (fun _ => ?_))
   | exact ih0 _ _
   | exact ih1 _ _
   | exact spec_IntervalJoin.mono _ _ _ _ _
   | exact spec_IntervalValid.mono _ _ _
   | exact LeO.none _
   | refine LeO.ite ?_ ?_
   | refine LeO.bind ?_ (fun _ => ?_)
theorem spec_PartitionValid.mono : ∀ a0 k, LeO (spec_PartitionValid.f k a0) (spec_PartitionValid.f (k + 1) a0) := by
 intro a0 k
 obtain ⟨ih0, ih1⟩ := spec_PartitionValid.mono_l k
 unfold spec_PartitionValid.f
 repeat' first
   | (with_reducible exact ih0 _ _)
   | (with_reducible exact ih1 _ _)
   | (with_reducible exact spec_IntervalJoin.mono _ _ _ _ _)
   | (with_reducible exact spec_IntervalValid.mono _ _ _)
   | (with_reducible exact LeO.refl _)
   | (with_reducible exact LeO.none _)
   | (with_reducible refine LeO.ite ?_ ?_)
   | (with_reducible refine LeO.bind ?_ (fun _ => ?_))
   | exact ih0 _ _
   | exact ih1 _ _
   | exact spec_IntervalJoin.mono _ _ _ _ _
   | exact spec_IntervalValid.mono _ _ _
   | exact LeO.none _
   | refine LeO.ite ?_ ?_
   | refine LeO.bind ?_ (fun _ => ?_)
def spec_PartitionValid.T6 : Bool × List (List Nat × List Nat) := (true, [([], []), ([], []), ([1], [1]), ([0, 2], [0, 2]), ([3], [3]), ([], []), ([], []), ([5, 6], [5, 6]), ([7], [7]), ([4, 8], [4, 8]), ([9], [9]), ([10], [10]), ([10], [10]), ([], []), ([13, 11, 9, 0, 1, 2, 3, 4, 5, 6, 7, 8, 9, 10, 11, 13], [11, 13]), ([12, 14, 0, 1, 2, 3, 4, 5, 6, 7, 8, 9, 10, 11, 12, 13, 14], [12])])
def spec_PartitionValid.B6 : List Nat := [0, 0, 2, 7, 15, 0, 0, 96, 224, 511, 1023, 2047, 2047, 0, 12287, 32767]
theorem spec_PartitionValid.tab6 : rtab .any (opsOf Try.f96 6) = spec_PartitionValid.T6 := by kernel_rfl
theorem spec_PartitionValid.bits6 : waitsOk spec_PartitionValid.T6.2 spec_PartitionValid.B6 = true := by kernel_rfl
set_option maxHeartbeats 8000000 in
set_option maxRecDepth 100000 in
theorem spec_PartitionValid.calls (k : Nat) (A0 : Option Addr) (c0 : Nat) (l0 : List (S76)) (r : Bool) (w : World) (hr0 : Kd.C k76 w A0 l0.length l0) (hc0 : l0.length ≤ c0) (h : spec_PartitionValid.f k l0 = some r) :
  Calls Try.prog 96 #[.slice A0 l0.length c0] w fun e w' => e = .returned (.bool r) ∧ Below w.heap.size w w' := by
 have hu76 := Try.underlying76
 have HR0 := Aside0.mk hr0
 have HC0 := Aside0.mk hc0
 clear hr0 hc0
 have HB := Aside0.mk (Below.refl w.heap.size w)
 have H : ((spec_l1In.f (l0.length : Int) 1 6).bind fun t114 => (if t114 = true then (if 0 < (l0.length : Int) then ((spec_IntervalValid.f k ((rd_T76 l0 0).f0) ((rd_T76 l0 0).f1)).bind fun t116 => (if t116 = true then (if ((rd_T76 l0 0).f0).toList = ([] : List UInt8) then (if 0 ≤ (wrap64 ((l0.length : Int) - 1)) then (if (wrap64 ((l0.length : Int) - 1)) < (l0.length : Int) then (spec_PartitionValid.j0 k l0 (((rd_T76 l0 (wrap64 ((l0.length : Int) - 1))).f1).toList != ([] : List UInt8))) else (none)) else (none)) else (spec_PartitionValid.j0 k l0 true)) else (spec_PartitionValid.j0 k l0 true))) else (none)) else (spec_PartitionValid.j0 k l0 true))) = some r := h
 clear h
 have HC2 := Aside0.mk H
 clear H
 go_enter Try.func96, Try.ntmps96
 go_upto_region 1 with (fail)
 go_cut [33] (fun v33 wc => ∃ (kq : Nat) (x33_1 : Bool), v33 = .bool x33_1 ∧ Aside0 (spec_PartitionValid.j0 kq l0 x33_1 = some r) ∧ Aside0 (kq ≤ k) ∧ Aside0 (Below w.heap.size w wc))
 case first =>
  have H := HC2.out
  clear HC2
  replace H := Option.bind_eq_some_iff.mp H
  obtain ⟨t114, A30, H⟩ := H
  replace H : (if t114 = true then (if 0 < (l0.length : Int) then ((spec_IntervalValid.f k ((rd_T76 l0 0).f0) ((rd_T76 l0 0).f1)).bind fun t116 => (if t116 = true then (if ((rd_T76 l0 0).f0).toList = ([] : List UInt8) then (if 0 ≤ (wrap64 ((l0.length : Int) - 1)) then (if (wrap64 ((l0.length : Int) - 1)) < (l0.length : Int) then (spec_PartitionValid.j0 k l0 (((rd_T76 l0 (wrap64 ((l0.length : Int) - 1))).f1).toList != ([] : List UInt8))) else (none)) else (none)) else (spec_PartitionValid.j0 k l0 true)) else (spec_PartitionValid.j0 k l0 true))) else (none)) else (spec_PartitionValid.j0 k l0 true)) = some r := H
  have A3 := Aside0.mk A30
  clear A30
  by_cases c4 : t114 = true
  ·subst c4
   have H1 : (if 0 < (l0.length : Int) then ((spec_IntervalValid.f k ((rd_T76 l0 0).f0) ((rd_T76 l0 0).f1)).bind fun t116 => (if t116 = true then (if ((rd_T76 l0 0).f0).toList = ([] : List UInt8) then (if 0 ≤ (wrap64 ((l0.length : Int) - 1)) then (if (wrap64 ((l0.length : Int) - 1)) < (l0.length : Int) then (spec_PartitionValid.j0 k l0 (((rd_T76 l0 (wrap64 ((l0.length : Int) - 1))).f1).toList != ([] : List UInt8))) else (none)) else (none)) else (spec_PartitionValid.j0 k l0 true)) else (spec_PartitionValid.j0 k l0 true))) else (none)) = some r := by rw [if_pos rfl] at H; exact H
   clear H
   have H := H1
   clear H1
   by_cases c5 : 0 < (l0.length : Int)
   ·rw [if_pos c5] at H
    have c5b0 : decide (0 < (l0.length : Int)) = true := decide_eq_true c5
    have c5b1 : decide (0 < l0.length) = true := decide_eq_true (by omega)
    clear c5
    (first | rw [c5b0] | (simp only [i64_w, i32_w]; rw [c5b0]) | skip)
    replace H := Option.bind_eq_some_iff.mp H
    obtain ⟨t116, A60, H⟩ := H
    replace H : (if t116 = true then (if ((rd_T76 l0 0).f0).toList = ([] : List UInt8) then (if 0 ≤ (wrap64 ((l0.length : Int) - 1)) then (if (wrap64 ((l0.length : Int) - 1)) < (l0.length : Int) then (spec_PartitionValid.j0 k l0 (((rd_T76 l0 (wrap64 ((l0.length : Int) - 1))).f1).toList != ([] : List UInt8))) else (none)) else (none)) else (spec_PartitionValid.j0 k l0 true)) else (spec_PartitionValid.j0 k l0 true)) = some r := H
    have A6 := Aside0.mk A60
    clear A60
    by_cases c7 : t116 = true
    ·subst c7
     have H1 : (if ((rd_T76 l0 0).f0).toList = ([] : List UInt8) then (if 0 ≤ (wrap64 ((l0.length : Int) - 1)) then (if (wrap64 ((l0.length : Int) - 1)) < (l0.length : Int) then (spec_PartitionValid.j0 k l0 (((rd_T76 l0 (wrap64 ((l0.length : Int) - 1))).f1).toList != ([] : List UInt8))) else (none)) else (none)) else (spec_PartitionValid.j0 k l0 true)) = some r := by rw [if_pos rfl] at H; exact H
     clear H
     have H := H1
     clear H1
     by_cases c8 : ((rd_T76 l0 0).f0).toList = ([] : List UInt8)
     ·rw [if_pos c8] at H
      have c8b0 : (((rd_T76 l0 0).f0).toList == ([] : List UInt8)) = true := beq_iff_eq.mpr c8
      have c8b1 : (((rd_T76 l0 0).f0).toList != ([] : List UInt8)) = false := bne_eq_false_iff_eq.mpr c8
      clear c8
      obtain ⟨ji9, hji9⟩ : ∃ j_ : Int, (wrap64 ((l0.length : Int) - 1)) = j_ := ⟨_, rfl⟩
      replace H : (if 0 ≤ (ji9) then (if (ji9) < (l0.length : Int) then (spec_PartitionValid.j0 k l0 (((rd_T76 l0 (ji9)).f1).toList != ([] : List UInt8))) else (none)) else (none)) = some r := by first | (rw [hji9] at H; exact H) | (simp only [hji9] at H ⊢; exact H)
      (try rw [hji9] at A3)
      (try rw [hji9] at A6)
      have hji9w : (IntKind.i64.wrap ((l0.length : Int) - 1)) = ji9 := (i64_w _).trans hji9
      by_cases c10 : 0 ≤ (ji9)
      ·rw [if_pos c10] at H
       have c10b0 : decide (0 ≤ (ji9)) = true := decide_eq_true c10
       clear c10
       by_cases c11 : (ji9) < (l0.length : Int)
       ·rw [if_pos c11] at H
        have c11b0 : decide ((ji9) < (l0.length : Int)) = true := decide_eq_true c11
        clear c11
        have H' := Aside0.mk H
        clear H
        go_wp2_with (first | ((with_reducible refine gate_callee (f := 81) rfl ?_); refine goesL_ (some 8) rfl rfl Try.func81 (by kernel_rfl) rfl #[.int .i64 (l0.length : Int), .int .i64 1, .int .i64 6] rfl (by (try simp only [List.map_toArray, List.map_cons, List.map_nil]); first | done | rfl | (simp only [List.length_drop, List.length_take]; rfl)) ?_; (with_reducible refine (spec_l1In.calls (l0.length : Int) 1 6 true _ A3.out).mono ?_); rintro e w' ⟨rfl, ⟨nd, rfl⟩⟩; refine ⟨_, rfl, ?_⟩; have p115 : 0 ≤ (0 : Int) := (by omega); have q115 : 0 < (l0.length : Int) := of_decide_eq_true (by first | (with_reducible assumption) | assumption); obtain ⟨ad115, e115, hx115_0, hx115_1⟩ := at_T76 HR0.out 0 p115 q115; cases e115; have qi115 : (0 < l0.length) = True := eq_true (by omega); (try rw [show ((0 : Int)).toNat = 0 from rfl] at hx115_0); (try rw [show 0 * 2 = 0 from rfl] at hx115_0); (try rw [Addr.add_zero'] at hx115_0); (try rw [show ((0 : Int)).toNat = 0 from rfl] at hx115_1); (try rw [show 0 * 2 = 0 from rfl] at hx115_1); (try rw [Addr.add_zero'] at hx115_1); replace hx115_0 := (HB.out.cell (World.block_lt_of_cell? w _ hx115_0)).trans hx115_0; replace hx115_1 := (HB.out.cell (World.block_lt_of_cell? w _ hx115_1)).trans hx115_1; replace p115 := eq_true p115; replace q115 := eq_true q115) | (go_at_call 98; (with_reducible refine (spec_IntervalValid.calls k ((rd_T76 l0 0).f0) ((rd_T76 l0 0).f1) true _ A6.out).mono ?_); rintro e w12 ⟨rfl, hb⟩; have n0_ := Aside0.mk (below_step (by exact hopb HB.out) hb); clear HB; have HB := n0_; clear n0_; (try clear hb); (try clear hb2); (try clear hk); (try clear hi); have p117 : 0 ≤ (0 : Int) := (by omega); have q117 : 0 < (l0.length : Int) := of_decide_eq_true (by first | (with_reducible assumption) | assumption); obtain ⟨ad117, e117, hx117_0, hx117_1⟩ := at_T76 HR0.out 0 p117 q117; obtain rfl : ad115 = ad117 := (by injection e117); have qi117 : (0 < l0.length) = True := eq_true (by omega); (try rw [show ((0 : Int)).toNat = 0 from rfl] at hx117_0); (try rw [show 0 * 2 = 0 from rfl] at hx117_0); (try rw [Addr.add_zero'] at hx117_0); (try rw [show ((0 : Int)).toNat = 0 from rfl] at hx117_1); (try rw [show 0 * 2 = 0 from rfl] at hx117_1); (try rw [Addr.add_zero'] at hx117_1); replace hx117_0 := (HB.out.cell (World.block_lt_of_cell? w _ hx117_0)).trans hx117_0; replace hx117_1 := (HB.out.cell (World.block_lt_of_cell? w _ hx117_1)).trans hx117_1; replace p117 := eq_true p117; replace q117 := eq_true q117; have p118 : 0 ≤ ((ji9) : Int) := of_decide_eq_true (by first | (with_reducible assumption) | assumption); have q118 : (ji9) < (l0.length : Int) := of_decide_eq_true (by first | (with_reducible assumption) | assumption); obtain ⟨ad118, e118, hx118_0, hx118_1⟩ := at_T76 HR0.out (ji9) p118 q118; obtain rfl : ad115 = ad118 := (by injection e118); replace hx118_0 := (HB.out.cell (World.block_lt_of_cell? w _ hx118_0)).trans hx118_0; replace hx118_1 := (HB.out.cell (World.block_lt_of_cell? w _ hx118_1)).trans hx118_1; replace p118 := eq_true p118; replace q118 := eq_true q118))
        go_meet
        case rel => exact ⟨_, ((((rd_T76 l0 (ji9)).f1).toList != ([] : List UInt8))), (by first | rfl | (simp; done) | (simp [bne]; done) | (simp only [← hji9] <;> (first | rfl | simp)) | (simp [*]; done)), H', ⟨by first | omega | exact Nat.le_refl _⟩, ⟨by repeat (first | (with_reducible first | exact HB.out | apply bA | apply bN | apply bD) | exact HB.out)⟩⟩
       ·rw [if_neg c11] at H
        exact absurd H (by simp)
      ·rw [if_neg c10] at H
       exact absurd H (by simp)
     ·rw [if_neg c8] at H
      have c8b0 : (((rd_T76 l0 0).f0).toList == ([] : List UInt8)) = false := beq_eq_false_iff_ne.mpr c8
      have c8b1 : (((rd_T76 l0 0).f0).toList != ([] : List UInt8)) = true := bne_iff_ne.mpr c8
      have H' := Aside0.mk H
      clear H
      go_wp2_with (first | ((with_reducible refine gate_callee (f := 81) rfl ?_); refine goesL_ (some 8) rfl rfl Try.func81 (by kernel_rfl) rfl #[.int .i64 (l0.length : Int), .int .i64 1, .int .i64 6] rfl (by (try simp only [List.map_toArray, List.map_cons, List.map_nil]); first | done | rfl | (simp only [List.length_drop, List.length_take]; rfl)) ?_; (with_reducible refine (spec_l1In.calls (l0.length : Int) 1 6 true _ A3.out).mono ?_); rintro e w' ⟨rfl, ⟨nd, rfl⟩⟩; refine ⟨_, rfl, ?_⟩; have p115 : 0 ≤ (0 : Int) := (by omega); have q115 : 0 < (l0.length : Int) := of_decide_eq_true (by first | (with_reducible assumption) | assumption); obtain ⟨ad115, e115, hx115_0, hx115_1⟩ := at_T76 HR0.out 0 p115 q115; cases e115; have qi115 : (0 < l0.length) = True := eq_true (by omega); (try rw [show ((0 : Int)).toNat = 0 from rfl] at hx115_0); (try rw [show 0 * 2 = 0 from rfl] at hx115_0); (try rw [Addr.add_zero'] at hx115_0); (try rw [show ((0 : Int)).toNat = 0 from rfl] at hx115_1); (try rw [show 0 * 2 = 0 from rfl] at hx115_1); (try rw [Addr.add_zero'] at hx115_1); replace hx115_0 := (HB.out.cell (World.block_lt_of_cell? w _ hx115_0)).trans hx115_0; replace hx115_1 := (HB.out.cell (World.block_lt_of_cell? w _ hx115_1)).trans hx115_1; replace p115 := eq_true p115; replace q115 := eq_true q115) | (go_at_call 98; (with_reducible refine (spec_IntervalValid.calls k ((rd_T76 l0 0).f0) ((rd_T76 l0 0).f1) true _ A6.out).mono ?_); rintro e w13 ⟨rfl, hb⟩; have n0_ := Aside0.mk (below_step (by exact hopb HB.out) hb); clear HB; have HB := n0_; clear n0_; (try clear hb); (try clear hb2); (try clear hk); (try clear hi); have p117 : 0 ≤ (0 : Int) := (by omega); have q117 : 0 < (l0.length : Int) := of_decide_eq_true (by first | (with_reducible assumption) | assumption); obtain ⟨ad117, e117, hx117_0, hx117_1⟩ := at_T76 HR0.out 0 p117 q117; obtain rfl : ad115 = ad117 := (by injection e117); have qi117 : (0 < l0.length) = True := eq_true (by omega); (try rw [show ((0 : Int)).toNat = 0 from rfl] at hx117_0); (try rw [show 0 * 2 = 0 from rfl] at hx117_0); (try rw [Addr.add_zero'] at hx117_0); (try rw [show ((0 : Int)).toNat = 0 from rfl] at hx117_1); (try rw [show 0 * 2 = 0 from rfl] at hx117_1); (try rw [Addr.add_zero'] at hx117_1); replace hx117_0 := (HB.out.cell (World.block_lt_of_cell? w _ hx117_0)).trans hx117_0; replace hx117_1 := (HB.out.cell (World.block_lt_of_cell? w _ hx117_1)).trans hx117_1; replace p117 := eq_true p117; replace q117 := eq_true q117))
      go_meet
      case rel => exact ⟨_, (true), (by first | rfl | (simp; done) | (simp [bne]; done) | (simp [*]; done)), H', ⟨by first | omega | exact Nat.le_refl _⟩, ⟨by repeat (first | (with_reducible first | exact HB.out | apply bA | apply bN | apply bD) | exact HB.out)⟩⟩
    ·replace c7 := Bool.eq_false_iff.mpr c7
     subst c7
     have H1 : (spec_PartitionValid.j0 k l0 true) = some r := by rw [if_neg (show ¬ (false = true) by decide)] at H; exact H
     clear H
     have H := H1
     clear H1
     have H' := Aside0.mk H
     clear H
     go_wp2_with (first | ((with_reducible refine gate_callee (f := 81) rfl ?_); refine goesL_ (some 8) rfl rfl Try.func81 (by kernel_rfl) rfl #[.int .i64 (l0.length : Int), .int .i64 1, .int .i64 6] rfl (by (try simp only [List.map_toArray, List.map_cons, List.map_nil]); first | done | rfl | (simp only [List.length_drop, List.length_take]; rfl)) ?_; (with_reducible refine (spec_l1In.calls (l0.length : Int) 1 6 true _ A3.out).mono ?_); rintro e w' ⟨rfl, ⟨nd, rfl⟩⟩; refine ⟨_, rfl, ?_⟩; have p115 : 0 ≤ (0 : Int) := (by omega); have q115 : 0 < (l0.length : Int) := of_decide_eq_true (by first | (with_reducible assumption) | assumption); obtain ⟨ad115, e115, hx115_0, hx115_1⟩ := at_T76 HR0.out 0 p115 q115; cases e115; have qi115 : (0 < l0.length) = True := eq_true (by omega); (try rw [show ((0 : Int)).toNat = 0 from rfl] at hx115_0); (try rw [show 0 * 2 = 0 from rfl] at hx115_0); (try rw [Addr.add_zero'] at hx115_0); (try rw [show ((0 : Int)).toNat = 0 from rfl] at hx115_1); (try rw [show 0 * 2 = 0 from rfl] at hx115_1); (try rw [Addr.add_zero'] at hx115_1); replace hx115_0 := (HB.out.cell (World.block_lt_of_cell? w _ hx115_0)).trans hx115_0; replace hx115_1 := (HB.out.cell (World.block_lt_of_cell? w _ hx115_1)).trans hx115_1; replace p115 := eq_true p115; replace q115 := eq_true q115) | (go_at_call 98; (with_reducible refine (spec_IntervalValid.calls k ((rd_T76 l0 0).f0) ((rd_T76 l0 0).f1) false _ A6.out).mono ?_); rintro e w14 ⟨rfl, hb⟩; have n0_ := Aside0.mk (below_step (by exact hopb HB.out) hb); clear HB; have HB := n0_; clear n0_; (try clear hb); (try clear hb2); (try clear hk); (try clear hi)))
     go_meet
     case rel => exact ⟨_, (true), (by first | rfl | (simp; done) | (simp [bne]; done) | (simp [*]; done)), H', ⟨by first | omega | exact Nat.le_refl _⟩, ⟨by repeat (first | (with_reducible first | exact HB.out | apply bA | apply bN | apply bD) | exact HB.out)⟩⟩
   ·rw [if_neg c5] at H
    exact absurd H (by simp)
  ·replace c4 := Bool.eq_false_iff.mpr c4
   subst c4
   have H1 : (spec_PartitionValid.j0 k l0 true) = some r := by rw [if_neg (show ¬ (false = true) by decide)] at H; exact H
   clear H
   have H := H1
   clear H1
   have H' := Aside0.mk H
   clear H
   go_wp2_with (first | ((with_reducible refine gate_callee (f := 81) rfl ?_); refine goesL_ (some 8) rfl rfl Try.func81 (by kernel_rfl) rfl #[.int .i64 (l0.length : Int), .int .i64 1, .int .i64 6] rfl (by (try simp only [List.map_toArray, List.map_cons, List.map_nil]); first | done | rfl | (simp only [List.length_drop, List.length_take]; rfl)) ?_; (with_reducible refine (spec_l1In.calls (l0.length : Int) 1 6 false _ A3.out).mono ?_); rintro e w' ⟨rfl, ⟨nd, rfl⟩⟩; refine ⟨_, rfl, ?_⟩))
   go_meet
   case rel => exact ⟨_, (true), (by first | rfl | (simp; done) | (simp [bne]; done) | (simp [*]; done)), H', ⟨by first | omega | exact Nat.le_refl _⟩, ⟨by repeat (first | (with_reducible first | exact HB.out | apply bA | apply bN | apply bD) | exact HB.out)⟩⟩
 case rest =>
  clear HC2
  try clear c1
  try clear p1
  try clear q1
  try clear hx1
  try clear qi1
  try clear p2
  try clear c4
  try clear c5
  try clear c5b0
  try clear c5b1
  try clear p6
  try clear c7
  try clear c8
  try clear c8b0
  try clear c8b1
  try clear c9
  try clear c10
  try clear c10b0
  try clear c11
  try clear c11b0
  try clear p11
  try clear q11
  try clear hx11
  try clear qi11
  try clear hx115_0
  try clear hx115_1
  try clear hx117_0
  try clear hx117_1
  try clear hx118_0
  try clear hx118_1
  try clear p115
  try clear p117
  try clear p118
  try clear q115
  try clear q117
  try clear q118
  obtain ⟨kq, x33_1, rfl, HA, HJ1, HB⟩ := hcut
  cases kq with
  | zero => exact absurd HA.out (by simp [spec_PartitionValid.j0])
  | succ kj1 =>
   have H := HA.out
   clear HA
   simp only [spec_PartitionValid.j0] at H
   by_cases c15 : x33_1 = true
   ·subst c15
    have H1 : (some false) = some r := by rw [if_pos rfl] at H; exact H
    clear H
    have H := H1
    clear H1
    obtain rfl := Option.some.inj H
    go_wp2
    go_ret
    exact ⟨by first | rfl | (simp only [u8_w_, w64_u8_] <;> rfl) | (simp [errW_none, errW_some] <;> rfl) | (simp [*, errW_none, errW_some] <;> rfl), by repeat (first | (with_reducible first | exact HB.out | apply bA | apply bN | apply bD) | exact HB.out)⟩
   ·replace c15 := Bool.eq_false_iff.mpr c15
    subst c15
    have H1 : (spec_PartitionValid.l0 kj1 l0 1) = some r := by rw [if_neg (show ¬ (false = true) by decide)] at H; exact H
    clear H
    have H := H1
    clear H1
    have H' := Aside0.mk H
    clear H
    go_wp2
    go_loopg [3] kj1 (fun kq v3 w' => ∃ (x3_2 : Int), v3 = .int .i64 x3_2 ∧ Aside0 (spec_PartitionValid.l0 kq l0 x3_2 = some r) ∧ Aside0 (kq ≤ kj1) ∧ Aside0 (Below w.heap.size w w'))
    case atStart => exact ⟨(1), (by first | rfl | (simp; done) | (simp [bne]; done) | (simp [*]; done)), H', ⟨Nat.le_refl _⟩, ⟨by repeat (first | (with_reducible first | exact HB.out | apply bA | apply bN | apply bD) | exact HB.out)⟩⟩
    case round =>
     clear H'
     try clear c1
     try clear p1
     try clear q1
     try clear hx1
     try clear qi1
     try clear p2
     try clear c4
     try clear c5
     try clear c5b0
     try clear c5b1
     try clear p6
     try clear c7
     try clear c8
     try clear c8b0
     try clear c8b1
     try clear c9
     try clear c10
     try clear c10b0
     try clear c11
     try clear c11b0
     try clear p11
     try clear q11
     try clear hx11
     try clear qi11
     try clear c15
     try clear hx115_0
     try clear hx115_1
     try clear hx117_0
     try clear hx117_1
     try clear hx118_0
     try clear hx118_1
     try clear p1
     try clear p11
     try clear p115
     try clear p117
     try clear p118
     try clear p2
     try clear p6
     try clear q1
     try clear q11
     try clear q115
     try clear q117
     try clear q118
     obtain ⟨x3_2, rfl, HA, HK2, HB⟩ := hrel
     cases gk with
     | zero => exact absurd HA.out (by simp [spec_PartitionValid.l0])
     | succ k2 =>
      have H := HA.out
      clear HA
      simp only [spec_PartitionValid.l0] at H
      by_cases c16 : x3_2 < (l0.length : Int)
      ·rw [if_pos c16] at H
       have c16b0 : decide (x3_2 < (l0.length : Int)) = true := decide_eq_true c16
       clear c16
       obtain ⟨ji17, hji17⟩ : ∃ j_ : Int, (wrap64 (x3_2 - 1)) = j_ := ⟨_, rfl⟩
       replace H : (if 0 ≤ (ji17) then (if (ji17) < (l0.length : Int) then (if 0 ≤ x3_2 then ((spec_IntervalJoin.f k2 ((rd_T76 l0 (ji17)).f0) ((rd_T76 l0 (ji17)).f1) ((rd_T76 l0 x3_2).f0) ((rd_T76 l0 x3_2).f1)).bind fun bt121 => (if bt121.2.2 = true then (spec_PartitionValid.l0 k2 l0 (wrap64 (x3_2 + 1))) else (some false))) else (none)) else (none)) else (none)) = some r := by first | (rw [hji17] at H; exact H) | (simp only [hji17] at H ⊢; exact H)
       have hji17w : (IntKind.i64.wrap (x3_2 - 1)) = ji17 := (i64_w _).trans hji17
       by_cases c18 : 0 ≤ (ji17)
       ·rw [if_pos c18] at H
        have c18b0 : decide (0 ≤ (ji17)) = true := decide_eq_true c18
        clear c18
        by_cases c19 : (ji17) < (l0.length : Int)
        ·rw [if_pos c19] at H
         have c19b0 : decide ((ji17) < (l0.length : Int)) = true := decide_eq_true c19
         clear c19
         by_cases c20 : 0 ≤ x3_2
         ·rw [if_pos c20] at H
          have c20b0 : decide (0 ≤ x3_2) = true := decide_eq_true c20
          clear c20
          replace H := Option.bind_eq_some_iff.mp H
          obtain ⟨⟨t121, t122, t123⟩, A210, H⟩ := H
          replace H : (if t123 = true then (spec_PartitionValid.l0 k2 l0 (wrap64 (x3_2 + 1))) else (some false)) = some r := H
          have A21 := Aside0.mk A210
          clear A210
          by_cases c22 : t123 = true
          ·subst c22
           have H1 : (spec_PartitionValid.l0 k2 l0 (wrap64 (x3_2 + 1))) = some r := by rw [if_pos rfl] at H; exact H
           clear H
           have H := H1
           clear H1
           have H' := Aside0.mk H
           clear H
           try go_wp2
           have n0_ := Aside0.mk (below_drew1 HB.out)
           clear HB
           have HB := n0_
           clear n0_
           have p119 : 0 ≤ ((ji17) : Int) := of_decide_eq_true (by first | (with_reducible assumption) | assumption)
           have q119 : (ji17) < (l0.length : Int) := of_decide_eq_true (by first | (with_reducible assumption) | assumption)
           obtain ⟨ad119, e119, hx119_0, hx119_1⟩ := at_T76 HR0.out (ji17) p119 q119
           have hw119_1 := hx119_1
           have hw119_0 := hx119_0
           cases e119
           replace hx119_0 := (HB.out.cell (World.block_lt_of_cell? w _ hx119_0)).trans hx119_0
           replace hx119_1 := (HB.out.cell (World.block_lt_of_cell? w _ hx119_1)).trans hx119_1
           replace p119 := eq_true p119
           replace q119 := eq_true q119
           have p120 : 0 ≤ (x3_2 : Int) := of_decide_eq_true (by first | (with_reducible assumption) | assumption)
           have q120 : x3_2 < (l0.length : Int) := of_decide_eq_true (by first | (with_reducible assumption) | assumption)
           obtain ⟨ad120, e120, hx120_0, hx120_1⟩ := at_T76 HR0.out x3_2 p120 q120
           have hw120_1 := hx120_1
           have hw120_0 := hx120_0
           obtain rfl : ad119 = ad120 := (by injection e120)
           replace hx120_0 := (HB.out.cell (World.block_lt_of_cell? w _ hx120_0)).trans hx120_0
           replace hx120_1 := (HB.out.cell (World.block_lt_of_cell? w _ hx120_1)).trans hx120_1
           replace p120 := eq_true p120
           replace q120 := eq_true q120
           refine start_ (n := 16) (S := fun w' => w'.cell? (ad119.add (((ji17)).toNat * 2)) = some (.string ((rd_T76 l0 (ji17)).f0)) ∧ w'.cell? ⟨(ad119.add (((ji17)).toNat * 2)).block, (ad119.add (((ji17)).toNat * 2)).off + 1, none⟩ = some (.string ((rd_T76 l0 (ji17)).f1)) ∧ w'.cell? (ad119.add ((x3_2).toNat * 2)) = some (.string ((rd_T76 l0 x3_2).f0)) ∧ w'.cell? ⟨(ad119.add ((x3_2).toNat * 2)).block, (ad119.add ((x3_2).toNat * 2)).off + 1, none⟩ = some (.string ((rd_T76 l0 x3_2).f1))) (ds := []) #[false, false, false, false, false, false, false, false, false, false, false, false, false, false, false, false] (by kernel_rfl) rfl rfl ⟨((HB.out.cell (World.block_lt_of_cell? w _ hw119_0)).trans hw119_0), ((HB.out.cell (World.block_lt_of_cell? w _ hw119_1)).trans hw119_1), ((HB.out.cell (World.block_lt_of_cell? w _ hw120_0)).trans hw120_0), ((HB.out.cell (World.block_lt_of_cell? w _ hw120_1)).trans hw120_1)⟩ (fun hHeld => ?_); refine with_tabW spec_PartitionValid.tab6 spec_PartitionValid.bits6 (fun HT_ HW_ => ?_)
           generalize wr.drew = w23 at HB hx119_0 hx119_1 hx120_0 hx120_1 hHeld ⊢
           refine pure_ (i := 0) (N := some 41) (v := ?_) (a' := ?_) #[true, false, false, false, false, false, false, false, false, false, false, false, false, false, false, false] rfl rfl (any_of HT_.out (by kernel_rfl)) (fun _ _ _ h => h) (Or.inl ⟨by rfl, ?_⟩) ?_ ?_
           rotate_left
           ·intro w'
            go_simp
            with_reducible rfl
           rotate_left
           ·simp only [Act.put, lT, lZ, lS, i64_w, i32_w]
            rfl
           refine pure_ (i := 1) (N := some 42) (v := ?_) (a' := ?_) #[true, true, false, false, false, false, false, false, false, false, false, false, false, false, false, false] rfl rfl (any_of HT_.out (by kernel_rfl)) (fun _ _ _ h => h) (Or.inl ⟨by rfl, ?_⟩) ?_ ?_
           rotate_left
           ·intro w'
            go_simp
            with_reducible rfl
           rotate_left
           ·simp only [Act.put, lT, lZ, lS, i64_w, i32_w]
            rfl
           refine pure_ (i := 2) (N := some 43) (v := ?_) (a' := ?_) #[true, true, true, false, false, false, false, false, false, false, false, false, false, false, false, false] rfl rfl (any_of HT_.out (by kernel_rfl)) (fun _ _ _ h => h) (Or.inl ⟨by rfl, ?_⟩) ?_ ?_
           rotate_left
           ·intro w'
            go_simp
            with_reducible rfl
           rotate_left
           ·simp only [Act.put, lT, lZ, lS, i64_w, i32_w]
            rfl
           refine pure_ (i := 3) (N := some 44) (v := ?_) (a' := ?_) #[true, true, true, true, false, false, false, false, false, false, false, false, false, false, false, false] rfl rfl (any_of HT_.out (by kernel_rfl)) (fun _ _ _ h => h) (Or.inl ⟨by rfl, ?_⟩) ?_ ?_
           rotate_left
           ·intro w'
            go_simp
            with_reducible rfl
           rotate_left
           ·simp only [Act.put, lT, lZ, lS, i64_w, i32_w]
            rfl
           refine pure_ (i := 5) (N := some 46) (v := ?_) (a' := ?_) #[true, true, true, true, false, true, false, false, false, false, false, false, false, false, false, false] rfl rfl (any_of HT_.out (by kernel_rfl)) (fun _ _ _ h => h) (Or.inl ⟨by rfl, ?_⟩) ?_ ?_
           rotate_left
           ·intro w'
            go_simp
            with_reducible rfl
           rotate_left
           ·simp only [Act.put, lT, lZ, lS, i64_w, i32_w]
            rfl
           refine pure_ (i := 6) (N := some 47) (v := ?_) (a' := ?_) #[true, true, true, true, false, true, true, false, false, false, false, false, false, false, false, false] rfl rfl (any_of HT_.out (by kernel_rfl)) (fun _ _ _ h => h) (Or.inl ⟨by rfl, ?_⟩) ?_ ?_
           rotate_left
           ·intro w'
            go_simp
            with_reducible rfl
           rotate_left
           ·simp only [Act.put, lT, lZ, lS, i64_w, i32_w]
            rfl
           refine pure_ (i := 7) (N := some 48) (v := ?_) (a' := ?_) #[true, true, true, true, false, true, true, true, false, false, false, false, false, false, false, false] rfl rfl (any_of HT_.out (by kernel_rfl)) (fun _ _ _ h => h) (Or.inl ⟨by rfl, ?_⟩) ?_ ?_
           rotate_left
           ·intro w'
            go_simp
            with_reducible rfl
           rotate_left
           ·simp only [Act.put, lT, lZ, lS, i64_w, i32_w]
            rfl
           refine take_ (i := 4) (N := some 45) (v := ?_) (a' := ?_) #[true, true, true, true, true, true, true, true, false, false, false, false, false, false, false, false] rfl rfl (take_ofW HT_.out HW_.out (by kernel_rfl)) (fun _ _ _ h => h) (Or.inl ⟨by rfl, ?_⟩) hHeld ?_ ?_
           rotate_left
           ·rintro w' ⟨s0, s1, s2, s3⟩
            go_simp
            with_reducible rfl
           rotate_left
           ·simp only [Act.put, lT, lZ, lS, i64_w, i32_w]
            rfl
           refine take_ (i := 8) (N := some 49) (v := ?_) (a' := ?_) #[true, true, true, true, true, true, true, true, true, false, false, false, false, false, false, false] rfl rfl (take_ofW HT_.out HW_.out (by kernel_rfl)) (fun _ _ _ h => h) (Or.inl ⟨by rfl, ?_⟩) hHeld ?_ ?_
           rotate_left
           ·rintro w' ⟨s0, s1, s2, s3⟩
            go_simp
            with_reducible rfl
           rotate_left
           ·simp only [Act.put, lT, lZ, lS, i64_w, i32_w]
            rfl
           refine join_ (σ := Nat) 2 #[true, true, true, true, true, true, true, true, true, true, true, true, true, true, false, false] (fun s_ => [(50, .tuple #[.agg #[.string t121, .string t122], .bool true]), (4, .pointer (some ⟨s_, 0, none⟩)), (40, .tuple #[.agg #[.string t121, .string t122], .bool true]), (51, .agg #[.string t121, .string t122]), (52, .bool true)]) (fun s_ w' => (w'.cell? (ad119.add (((ji17)).toNat * 2)) = some (.string ((rd_T76 l0 (ji17)).f0)) ∧ w'.cell? ⟨(ad119.add (((ji17)).toNat * 2)).block, (ad119.add (((ji17)).toNat * 2)).off + 1, none⟩ = some (.string ((rd_T76 l0 (ji17)).f1)) ∧ w'.cell? (ad119.add ((x3_2).toNat * 2)) = some (.string ((rd_T76 l0 x3_2).f0)) ∧ w'.cell? ⟨(ad119.add ((x3_2).toNat * 2)).block, (ad119.add ((x3_2).toNat * 2)).off + 1, none⟩ = some (.string ((rd_T76 l0 x3_2).f1))) ∧ (w'.heap[s_]? = some (.cells #[.string (⟨#[]⟩ : ByteArray), .string (⟨#[]⟩ : ByteArray)] 76 (0, 0))) ∧ (w.heap.size ≤ s_) ∧ (w.heap.size ≤ s_) ∧ (Below w.heap.size w w')) ?_ ?_
           rotate_left
           ·intro hCont
            refine two_ (i := 9) (j := 13) (Ni := some 50) (Nj := some 4) #[true, true, true, true, true, true, true, true, true, true, false, false, false, false, false, false] #[true, true, true, true, true, true, true, true, true, false, false, false, false, true, false, false] rfl rfl rfl rfl (two_of HT_.out (by kernel_rfl)) (by decide) (by decide) (fun K hK => ?_) (fun K hK => ?_)
            ·skip
             refine goes_ Try.func111 (by kernel_rfl) rfl #[.agg #[.string ((rd_T76 l0 (ji17)).f0), .string ((rd_T76 l0 (ji17)).f1)], .agg #[.string ((rd_T76 l0 x3_2).f0), .string ((rd_T76 l0 x3_2).f1)]] (by rfl) rfl rfl (by (try simp only [List.map_toArray, List.map_cons, List.map_nil]); first | done | (simp only [hji17]; rfl) | rfl | (simp only [List.length_drop, List.length_take]; rfl)) ?_
             with_reducible refine (spec_IntervalJoin.calls k2 ((rd_T76 l0 (ji17)).f0) ((rd_T76 l0 (ji17)).f1) ((rd_T76 l0 x3_2).f0) ((rd_T76 l0 x3_2).f1) t121 t122 true _ A21.out).mono ?_
             rintro e w24 ⟨rfl, hb⟩
             refine ⟨_, rfl, ?_⟩
             have n0_ := Aside0.mk (below_step (by exact hopb HB.out) hb)
             clear HB
             have HB := n0_
             clear n0_
             (try clear hb)
             (try clear hb2)
             (try clear hk)
             (try clear hi)
             refine hK.out _ _ ⟨((HB.out.cell (World.block_lt_of_cell? w _ hw119_0)).trans hw119_0), ((HB.out.cell (World.block_lt_of_cell? w _ hw119_1)).trans hw119_1), ((HB.out.cell (World.block_lt_of_cell? w _ hw120_0)).trans hw120_0), ((HB.out.cell (World.block_lt_of_cell? w _ hw120_1)).trans hw120_1)⟩ (fun hHeld => ?_)
             clear hK K
             refine norm_ (a' := ?_) ?_ ?_
             rotate_left
             ·show Act.put _ (some 50) _ = _
              simp only [Act.put, lT, lZ, lS, i64_w, i32_w]
              rfl
             refine pure_ (i := 10) (N := some 40) (v := ?_) (a' := ?_) #[true, true, true, true, true, true, true, true, true, true, true, false, false, false, false, false] rfl rfl (any_of HT_.out (by kernel_rfl)) (fun _ _ _ h => h) (Or.inl ⟨by rfl, ?_⟩) ?_ ?_
             rotate_left
             ·intro w'
              go_simp
              with_reducible rfl
             rotate_left
             ·simp only [Act.put, lT, lZ, lS, i64_w, i32_w]
              rfl
             refine pure_ (i := 11) (N := some 51) (v := ?_) (a' := ?_) #[true, true, true, true, true, true, true, true, true, true, true, true, false, false, false, false] rfl rfl (any_of HT_.out (by kernel_rfl)) (fun _ _ _ h => h) (Or.inl ⟨by rfl, ?_⟩) ?_ ?_
             rotate_left
             ·intro w'
              go_simp
              with_reducible rfl
             rotate_left
             ·simp only [Act.put, lT, lZ, lS, i64_w, i32_w]
              rfl
             refine pure_ (i := 12) (N := some 52) (v := ?_) (a' := ?_) #[true, true, true, true, true, true, true, true, true, true, true, true, true, false, false, false] rfl rfl (any_of HT_.out (by kernel_rfl)) (fun _ _ _ h => h) (Or.inl ⟨by rfl, ?_⟩) ?_ ?_
             rotate_left
             ·intro w'
              go_simp
              with_reducible rfl
             rotate_left
             ·simp only [Act.put, lT, lZ, lS, i64_w, i32_w]
              rfl
             refine one_ (i := 13) (N := some 4) #[true, true, true, true, true, true, true, true, true, true, true, true, true, true, false, false] rfl rfl (one_of HT_.out (by kernel_rfl)) (by decide) (fun K hK => ?_)
             refine box_step ?hg (N := 4) ?hd (cs := #[.string (⟨#[]⟩ : ByteArray), .string (⟨#[]⟩ : ByteArray)]) (t := 76) ?hr ?_; (case hd => rfl); (case hg => rfl); (case hr => first | (go_simp; done) | (go_simp; rfl))
             intro gb124 hg w25 hbox hb
             have n0_ := Aside0.mk (below_step (by exact hopb HB.out) hb)
             have n1_ := Aside0.mk (hbox)
             have n2_ := Aside0.mk ((by rw [hg]; exact (below_size (by exact hopb HB.out)) : w.heap.size ≤ gb124))
             have n3_ := n2_
             clear HB
             have HB := n0_
             have BK124 := n1_
             have GW124 := n2_
             have GE124 := n3_
             clear n0_ n1_ n2_ n3_
             clear hb hbox hg
             refine hK.out _ _ ⟨((HB.out.cell (World.block_lt_of_cell? w _ hw119_0)).trans hw119_0), ((HB.out.cell (World.block_lt_of_cell? w _ hw119_1)).trans hw119_1), ((HB.out.cell (World.block_lt_of_cell? w _ hw120_0)).trans hw120_0), ((HB.out.cell (World.block_lt_of_cell? w _ hw120_1)).trans hw120_1)⟩ (fun hHeld => ?_)
             clear hK K
             refine norm_ (a' := ?_) ?_ ?_
             rotate_left
             ·show Act.put _ (some 4) _ = _
              simp only [Act.put, lT, lZ, lS, i64_w, i32_w]
              rfl
             exact norm_ (by simp only [putAll, Act.put, lT, lZ, lS]) (hCont (gb124) _ ⟨hHeld, (by exact hop BK124.out), GW124.out, GE124.out, (by repeat (first | (with_reducible first | exact HB.out | apply bA | apply bN | apply bD | refine bS ?_ GE124.out) | exact HB.out))⟩)
            ·skip
             refine box_step ?hg (N := 4) ?hd (cs := #[.string (⟨#[]⟩ : ByteArray), .string (⟨#[]⟩ : ByteArray)]) (t := 76) ?hr ?_; (case hd => rfl); (case hg => rfl); (case hr => first | (go_simp; done) | (go_simp; rfl))
             intro gb124 hg w24 hbox hb
             have n0_ := Aside0.mk (below_step (by exact hopb HB.out) hb)
             have n1_ := Aside0.mk (hbox)
             have n2_ := Aside0.mk ((by rw [hg]; exact (below_size (by exact hopb HB.out)) : w.heap.size ≤ gb124))
             have n3_ := n2_
             clear HB
             have HB := n0_
             have BK124 := n1_
             have GW124 := n2_
             have GE124 := n3_
             clear n0_ n1_ n2_ n3_
             clear hb hbox hg
             refine hK.out _ _ ⟨((HB.out.cell (World.block_lt_of_cell? w _ hw119_0)).trans hw119_0), ((HB.out.cell (World.block_lt_of_cell? w _ hw119_1)).trans hw119_1), ((HB.out.cell (World.block_lt_of_cell? w _ hw120_0)).trans hw120_0), ((HB.out.cell (World.block_lt_of_cell? w _ hw120_1)).trans hw120_1)⟩ (fun hHeld => ?_)
             clear hK K
             refine norm_ (a' := ?_) ?_ ?_
             rotate_left
             ·show Act.put _ (some 4) _ = _
              simp only [Act.put, lT, lZ, lS, i64_w, i32_w]
              rfl
             refine one_ (i := 9) (N := some 50) #[true, true, true, true, true, true, true, true, true, true, false, false, false, true, false, false] rfl rfl (one_of HT_.out (by kernel_rfl)) (by decide) (fun K hK => ?_)
             refine goes_ Try.func111 (by kernel_rfl) rfl #[.agg #[.string ((rd_T76 l0 (ji17)).f0), .string ((rd_T76 l0 (ji17)).f1)], .agg #[.string ((rd_T76 l0 x3_2).f0), .string ((rd_T76 l0 x3_2).f1)]] (by rfl) rfl rfl (by (try simp only [List.map_toArray, List.map_cons, List.map_nil]); first | done | (simp only [hji17]; rfl) | rfl | (simp only [List.length_drop, List.length_take]; rfl)) ?_
             with_reducible refine (spec_IntervalJoin.calls k2 ((rd_T76 l0 (ji17)).f0) ((rd_T76 l0 (ji17)).f1) ((rd_T76 l0 x3_2).f0) ((rd_T76 l0 x3_2).f1) t121 t122 true _ A21.out).mono ?_
             rintro e w25 ⟨rfl, hb⟩
             refine ⟨_, rfl, ?_⟩
             have n0_ := Aside0.mk (blk_below (hop BK124.out) hb)
             have n1_ := Aside0.mk (below_step (by repeat (first | (with_reducible first | exact HB.out | apply bA | apply bN | apply bD | refine bS ?_ GE124.out) | exact HB.out)) hb)
             clear BK124
             clear HB
             have BK124 := n0_
             have HB := n1_
             clear n0_ n1_
             (try clear hb)
             (try clear hb2)
             (try clear hk)
             (try clear hi)
             refine hK.out _ _ ⟨((HB.out.cell (World.block_lt_of_cell? w _ hw119_0)).trans hw119_0), ((HB.out.cell (World.block_lt_of_cell? w _ hw119_1)).trans hw119_1), ((HB.out.cell (World.block_lt_of_cell? w _ hw120_0)).trans hw120_0), ((HB.out.cell (World.block_lt_of_cell? w _ hw120_1)).trans hw120_1)⟩ (fun hHeld => ?_)
             clear hK K
             refine norm_ (a' := ?_) ?_ ?_
             rotate_left
             ·show Act.put _ (some 50) _ = _
              simp only [Act.put, lT, lZ, lS, i64_w, i32_w]
              rfl
             refine pure_ (i := 10) (N := some 40) (v := ?_) (a' := ?_) #[true, true, true, true, true, true, true, true, true, true, true, false, false, true, false, false] rfl rfl (any_of HT_.out (by kernel_rfl)) (fun _ _ _ h => h) (Or.inl ⟨by rfl, ?_⟩) ?_ ?_
             rotate_left
             ·intro w'
              go_simp
              with_reducible rfl
             rotate_left
             ·simp only [Act.put, lT, lZ, lS, i64_w, i32_w]
              rfl
             refine pure_ (i := 11) (N := some 51) (v := ?_) (a' := ?_) #[true, true, true, true, true, true, true, true, true, true, true, true, false, true, false, false] rfl rfl (any_of HT_.out (by kernel_rfl)) (fun _ _ _ h => h) (Or.inl ⟨by rfl, ?_⟩) ?_ ?_
             rotate_left
             ·intro w'
              go_simp
              with_reducible rfl
             rotate_left
             ·simp only [Act.put, lT, lZ, lS, i64_w, i32_w]
              rfl
             refine pure_ (i := 12) (N := some 52) (v := ?_) (a' := ?_) #[true, true, true, true, true, true, true, true, true, true, true, true, true, true, false, false] rfl rfl (any_of HT_.out (by kernel_rfl)) (fun _ _ _ h => h) (Or.inl ⟨by rfl, ?_⟩) ?_ ?_
             rotate_left
             ·intro w'
              go_simp
              with_reducible rfl
             rotate_left
             ·simp only [Act.put, lT, lZ, lS, i64_w, i32_w]
              rfl
             exact norm_ (by simp only [putAll, Act.put, lT, lZ, lS]) (hCont (gb124) _ ⟨hHeld, (by exact hop BK124.out), GW124.out, GE124.out, (by repeat (first | (with_reducible first | exact HB.out | apply bA | apply bN | apply bD | refine bS ?_ GE124.out) | exact HB.out))⟩)
           rintro gb124 w26 ⟨hS_, h0_, h1_, h2_, h3_⟩
           have n0_ : Aside0 (w26.heap[gb124]? = some (.cells #[.string (⟨#[]⟩ : ByteArray), .string (⟨#[]⟩ : ByteArray)] 76 (0, 0))) := ⟨h0_⟩
           have n1_ : Aside0 (w.heap.size ≤ gb124) := ⟨h1_⟩
           have n2_ : Aside0 (w.heap.size ≤ gb124) := ⟨h2_⟩
           have n3_ : Aside0 (Below w.heap.size w w26) := ⟨h3_⟩
           clear HB
           clear h0_ h1_ h2_ h3_
           have BK124 := n0_
           have GW124 := n1_
           have GE124 := n2_
           have HB := n3_
           clear n0_ n1_ n2_ n3_
           have hHeld : w26.cell? (ad119.add (((ji17)).toNat * 2)) = some (.string ((rd_T76 l0 (ji17)).f0)) ∧ w26.cell? ⟨(ad119.add (((ji17)).toNat * 2)).block, (ad119.add (((ji17)).toNat * 2)).off + 1, none⟩ = some (.string ((rd_T76 l0 (ji17)).f1)) ∧ w26.cell? (ad119.add ((x3_2).toNat * 2)) = some (.string ((rd_T76 l0 x3_2).f0)) ∧ w26.cell? ⟨(ad119.add ((x3_2).toNat * 2)).block, (ad119.add ((x3_2).toNat * 2)).off + 1, none⟩ = some (.string ((rd_T76 l0 x3_2).f1)) := hS_
           refine norm_ (a' := ?_) ?_ ?_
           rotate_left
           ·simp only [putAll, Act.put, lT, lZ, lS]
            rfl
           refine one_ (i := 14) (N := none) #[true, true, true, true, true, true, true, true, true, true, true, true, true, true, true, false] rfl rfl (one_of HT_.out (by kernel_rfl)) (by decide) (fun K hK => ?_)
           have hs27 : w26.cell? ⟨gb124, 0, none⟩ = some (.string (⟨#[]⟩ : ByteArray)) := (blk_cell BK124.out 0).trans rfl
           have hfs27 := blk_frozen BK124.out 0
           have hs28 : w26.cell? ⟨gb124, 1, none⟩ = some (.string (⟨#[]⟩ : ByteArray)) := (blk_cell BK124.out 1).trans rfl
           have hfs28 := blk_frozen BK124.out 1
           refine skip_ (w1 := ?_) (by rfl) rfl ?_ ?_
           rotate_left
           ·go_simp
            rfl
           refine hK.out _ _ ⟨((cell_far (p := ⟨gb124, _, none⟩) (by first | exact Nat.ne_of_lt (Nat.lt_of_lt_of_le (by have := World.block_lt_of_cell? _ _ hw119_0; first | rwa [add_block] at this | exact this) GW124.out) | (rw [add_block]; exact Nat.ne_of_lt (Nat.lt_of_lt_of_le (by have := World.block_lt_of_cell? _ _ hw119_0; first | rwa [add_block] at this | exact this) GW124.out)) | (show (Addr.add _ _).block ≠ _; rw [add_block]; exact Nat.ne_of_lt (Nat.lt_of_lt_of_le (by have := World.block_lt_of_cell? _ _ hw119_0; first | rwa [add_block] at this | exact this) GW124.out)) | (dsimp only; exact Nat.ne_of_lt (Nat.lt_of_lt_of_le (by have := World.block_lt_of_cell? _ _ hw119_0; first | rwa [add_block] at this | exact this) GW124.out))) _).trans (((cell_far (p := ⟨gb124, _, none⟩) (by first | exact Nat.ne_of_lt (Nat.lt_of_lt_of_le (by have := World.block_lt_of_cell? _ _ hw119_0; first | rwa [add_block] at this | exact this) GW124.out) | (rw [add_block]; exact Nat.ne_of_lt (Nat.lt_of_lt_of_le (by have := World.block_lt_of_cell? _ _ hw119_0; first | rwa [add_block] at this | exact this) GW124.out)) | (show (Addr.add _ _).block ≠ _; rw [add_block]; exact Nat.ne_of_lt (Nat.lt_of_lt_of_le (by have := World.block_lt_of_cell? _ _ hw119_0; first | rwa [add_block] at this | exact this) GW124.out)) | (dsimp only; exact Nat.ne_of_lt (Nat.lt_of_lt_of_le (by have := World.block_lt_of_cell? _ _ hw119_0; first | rwa [add_block] at this | exact this) GW124.out))) _).trans (hHeld.1)))), ((cell_far (p := ⟨gb124, _, none⟩) (by first | exact Nat.ne_of_lt (Nat.lt_of_lt_of_le (by have := World.block_lt_of_cell? _ _ hw119_1; first | rwa [add_block] at this | exact this) GW124.out) | (rw [add_block]; exact Nat.ne_of_lt (Nat.lt_of_lt_of_le (by have := World.block_lt_of_cell? _ _ hw119_1; first | rwa [add_block] at this | exact this) GW124.out)) | (show (Addr.add _ _).block ≠ _; rw [add_block]; exact Nat.ne_of_lt (Nat.lt_of_lt_of_le (by have := World.block_lt_of_cell? _ _ hw119_1; first | rwa [add_block] at this | exact this) GW124.out)) | (dsimp only; exact Nat.ne_of_lt (Nat.lt_of_lt_of_le (by have := World.block_lt_of_cell? _ _ hw119_1; first | rwa [add_block] at this | exact this) GW124.out))) _).trans (((cell_far (p := ⟨gb124, _, none⟩) (by first | exact Nat.ne_of_lt (Nat.lt_of_lt_of_le (by have := World.block_lt_of_cell? _ _ hw119_1; first | rwa [add_block] at this | exact this) GW124.out) | (rw [add_block]; exact Nat.ne_of_lt (Nat.lt_of_lt_of_le (by have := World.block_lt_of_cell? _ _ hw119_1; first | rwa [add_block] at this | exact this) GW124.out)) | (show (Addr.add _ _).block ≠ _; rw [add_block]; exact Nat.ne_of_lt (Nat.lt_of_lt_of_le (by have := World.block_lt_of_cell? _ _ hw119_1; first | rwa [add_block] at this | exact this) GW124.out)) | (dsimp only; exact Nat.ne_of_lt (Nat.lt_of_lt_of_le (by have := World.block_lt_of_cell? _ _ hw119_1; first | rwa [add_block] at this | exact this) GW124.out))) _).trans (hHeld.2.1)))), ((cell_far (p := ⟨gb124, _, none⟩) (by first | exact Nat.ne_of_lt (Nat.lt_of_lt_of_le (by have := World.block_lt_of_cell? _ _ hw120_0; first | rwa [add_block] at this | exact this) GW124.out) | (rw [add_block]; exact Nat.ne_of_lt (Nat.lt_of_lt_of_le (by have := World.block_lt_of_cell? _ _ hw120_0; first | rwa [add_block] at this | exact this) GW124.out)) | (show (Addr.add _ _).block ≠ _; rw [add_block]; exact Nat.ne_of_lt (Nat.lt_of_lt_of_le (by have := World.block_lt_of_cell? _ _ hw120_0; first | rwa [add_block] at this | exact this) GW124.out)) | (dsimp only; exact Nat.ne_of_lt (Nat.lt_of_lt_of_le (by have := World.block_lt_of_cell? _ _ hw120_0; first | rwa [add_block] at this | exact this) GW124.out))) _).trans (((cell_far (p := ⟨gb124, _, none⟩) (by first | exact Nat.ne_of_lt (Nat.lt_of_lt_of_le (by have := World.block_lt_of_cell? _ _ hw120_0; first | rwa [add_block] at this | exact this) GW124.out) | (rw [add_block]; exact Nat.ne_of_lt (Nat.lt_of_lt_of_le (by have := World.block_lt_of_cell? _ _ hw120_0; first | rwa [add_block] at this | exact this) GW124.out)) | (show (Addr.add _ _).block ≠ _; rw [add_block]; exact Nat.ne_of_lt (Nat.lt_of_lt_of_le (by have := World.block_lt_of_cell? _ _ hw120_0; first | rwa [add_block] at this | exact this) GW124.out)) | (dsimp only; exact Nat.ne_of_lt (Nat.lt_of_lt_of_le (by have := World.block_lt_of_cell? _ _ hw120_0; first | rwa [add_block] at this | exact this) GW124.out))) _).trans (hHeld.2.2.1)))), ((cell_far (p := ⟨gb124, _, none⟩) (by first | exact Nat.ne_of_lt (Nat.lt_of_lt_of_le (by have := World.block_lt_of_cell? _ _ hw120_1; first | rwa [add_block] at this | exact this) GW124.out) | (rw [add_block]; exact Nat.ne_of_lt (Nat.lt_of_lt_of_le (by have := World.block_lt_of_cell? _ _ hw120_1; first | rwa [add_block] at this | exact this) GW124.out)) | (show (Addr.add _ _).block ≠ _; rw [add_block]; exact Nat.ne_of_lt (Nat.lt_of_lt_of_le (by have := World.block_lt_of_cell? _ _ hw120_1; first | rwa [add_block] at this | exact this) GW124.out)) | (dsimp only; exact Nat.ne_of_lt (Nat.lt_of_lt_of_le (by have := World.block_lt_of_cell? _ _ hw120_1; first | rwa [add_block] at this | exact this) GW124.out))) _).trans (((cell_far (p := ⟨gb124, _, none⟩) (by first | exact Nat.ne_of_lt (Nat.lt_of_lt_of_le (by have := World.block_lt_of_cell? _ _ hw120_1; first | rwa [add_block] at this | exact this) GW124.out) | (rw [add_block]; exact Nat.ne_of_lt (Nat.lt_of_lt_of_le (by have := World.block_lt_of_cell? _ _ hw120_1; first | rwa [add_block] at this | exact this) GW124.out)) | (show (Addr.add _ _).block ≠ _; rw [add_block]; exact Nat.ne_of_lt (Nat.lt_of_lt_of_le (by have := World.block_lt_of_cell? _ _ hw120_1; first | rwa [add_block] at this | exact this) GW124.out)) | (dsimp only; exact Nat.ne_of_lt (Nat.lt_of_lt_of_le (by have := World.block_lt_of_cell? _ _ hw120_1; first | rwa [add_block] at this | exact this) GW124.out))) _).trans (hHeld.2.2.2))))⟩ (fun hHeld => ?_)
           clear hK K
           refine pure_ (i := 15) (N := some 5) (v := ?_) (a' := ?_) #[true, true, true, true, true, true, true, true, true, true, true, true, true, true, true, true] rfl rfl (any_of HT_.out (by kernel_rfl)) (fun _ _ _ h => h) (Or.inl ⟨by rfl, ?_⟩) ?_ ?_
           rotate_left
           ·intro w'
            go_simp
            with_reducible rfl
           rotate_left
           ·simp only [Act.put, lT, lZ, lS, i64_w, i32_w]
            rfl
           refine done_ (done_of HT_.out (by kernel_rfl)) ?_
           try go_wp2
           go_roundg k2
           case measure => have := HJ1.out; have := HK2.out; omega
           case rel => exact ⟨(wrap64 (x3_2 + 1)), (by first | rfl | (simp; done) | (simp [bne]; done) | (simp [*]; done)), H', ⟨by have := HJ1.out; have := HK2.out; omega⟩, ⟨by repeat (first | (with_reducible first | exact HB.out | apply bA | apply bN | apply bD | refine bS ?_ GE124.out) | exact HB.out)⟩⟩
          ·replace c22 := Bool.eq_false_iff.mpr c22
           subst c22
           have H1 : (some false) = some r := by rw [if_neg (show ¬ (false = true) by decide)] at H; exact H
           clear H
           have H := H1
           clear H1
           obtain rfl := Option.some.inj H
           try go_wp2
           have n0_ := Aside0.mk (below_drew1 HB.out)
           clear HB
           have HB := n0_
           clear n0_
           have p119 : 0 ≤ ((ji17) : Int) := of_decide_eq_true (by first | (with_reducible assumption) | assumption)
           have q119 : (ji17) < (l0.length : Int) := of_decide_eq_true (by first | (with_reducible assumption) | assumption)
           obtain ⟨ad119, e119, hx119_0, hx119_1⟩ := at_T76 HR0.out (ji17) p119 q119
           have hw119_1 := hx119_1
           have hw119_0 := hx119_0
           cases e119
           replace hx119_0 := (HB.out.cell (World.block_lt_of_cell? w _ hx119_0)).trans hx119_0
           replace hx119_1 := (HB.out.cell (World.block_lt_of_cell? w _ hx119_1)).trans hx119_1
           replace p119 := eq_true p119
           replace q119 := eq_true q119
           have p120 : 0 ≤ (x3_2 : Int) := of_decide_eq_true (by first | (with_reducible assumption) | assumption)
           have q120 : x3_2 < (l0.length : Int) := of_decide_eq_true (by first | (with_reducible assumption) | assumption)
           obtain ⟨ad120, e120, hx120_0, hx120_1⟩ := at_T76 HR0.out x3_2 p120 q120
           have hw120_1 := hx120_1
           have hw120_0 := hx120_0
           obtain rfl : ad119 = ad120 := (by injection e120)
           replace hx120_0 := (HB.out.cell (World.block_lt_of_cell? w _ hx120_0)).trans hx120_0
           replace hx120_1 := (HB.out.cell (World.block_lt_of_cell? w _ hx120_1)).trans hx120_1
           replace p120 := eq_true p120
           replace q120 := eq_true q120
           refine start_ (n := 16) (S := fun w' => w'.cell? (ad119.add (((ji17)).toNat * 2)) = some (.string ((rd_T76 l0 (ji17)).f0)) ∧ w'.cell? ⟨(ad119.add (((ji17)).toNat * 2)).block, (ad119.add (((ji17)).toNat * 2)).off + 1, none⟩ = some (.string ((rd_T76 l0 (ji17)).f1)) ∧ w'.cell? (ad119.add ((x3_2).toNat * 2)) = some (.string ((rd_T76 l0 x3_2).f0)) ∧ w'.cell? ⟨(ad119.add ((x3_2).toNat * 2)).block, (ad119.add ((x3_2).toNat * 2)).off + 1, none⟩ = some (.string ((rd_T76 l0 x3_2).f1))) (ds := []) #[false, false, false, false, false, false, false, false, false, false, false, false, false, false, false, false] (by kernel_rfl) rfl rfl ⟨((HB.out.cell (World.block_lt_of_cell? w _ hw119_0)).trans hw119_0), ((HB.out.cell (World.block_lt_of_cell? w _ hw119_1)).trans hw119_1), ((HB.out.cell (World.block_lt_of_cell? w _ hw120_0)).trans hw120_0), ((HB.out.cell (World.block_lt_of_cell? w _ hw120_1)).trans hw120_1)⟩ (fun hHeld => ?_); refine with_tabW spec_PartitionValid.tab6 spec_PartitionValid.bits6 (fun HT_ HW_ => ?_)
           generalize wr.drew = w29 at HB hx119_0 hx119_1 hx120_0 hx120_1 hHeld ⊢
           refine pure_ (i := 0) (N := some 41) (v := ?_) (a' := ?_) #[true, false, false, false, false, false, false, false, false, false, false, false, false, false, false, false] rfl rfl (any_of HT_.out (by kernel_rfl)) (fun _ _ _ h => h) (Or.inl ⟨by rfl, ?_⟩) ?_ ?_
           rotate_left
           ·intro w'
            go_simp
            with_reducible rfl
           rotate_left
           ·simp only [Act.put, lT, lZ, lS, i64_w, i32_w]
            rfl
           refine pure_ (i := 1) (N := some 42) (v := ?_) (a' := ?_) #[true, true, false, false, false, false, false, false, false, false, false, false, false, false, false, false] rfl rfl (any_of HT_.out (by kernel_rfl)) (fun _ _ _ h => h) (Or.inl ⟨by rfl, ?_⟩) ?_ ?_
           rotate_left
           ·intro w'
            go_simp
            with_reducible rfl
           rotate_left
           ·simp only [Act.put, lT, lZ, lS, i64_w, i32_w]
            rfl
           refine pure_ (i := 2) (N := some 43) (v := ?_) (a' := ?_) #[true, true, true, false, false, false, false, false, false, false, false, false, false, false, false, false] rfl rfl (any_of HT_.out (by kernel_rfl)) (fun _ _ _ h => h) (Or.inl ⟨by rfl, ?_⟩) ?_ ?_
           rotate_left
           ·intro w'
            go_simp
            with_reducible rfl
           rotate_left
           ·simp only [Act.put, lT, lZ, lS, i64_w, i32_w]
            rfl
           refine pure_ (i := 3) (N := some 44) (v := ?_) (a' := ?_) #[true, true, true, true, false, false, false, false, false, false, false, false, false, false, false, false] rfl rfl (any_of HT_.out (by kernel_rfl)) (fun _ _ _ h => h) (Or.inl ⟨by rfl, ?_⟩) ?_ ?_
           rotate_left
           ·intro w'
            go_simp
            with_reducible rfl
           rotate_left
           ·simp only [Act.put, lT, lZ, lS, i64_w, i32_w]
            rfl
           refine pure_ (i := 5) (N := some 46) (v := ?_) (a' := ?_) #[true, true, true, true, false, true, false, false, false, false, false, false, false, false, false, false] rfl rfl (any_of HT_.out (by kernel_rfl)) (fun _ _ _ h => h) (Or.inl ⟨by rfl, ?_⟩) ?_ ?_
           rotate_left
           ·intro w'
            go_simp
            with_reducible rfl
           rotate_left
           ·simp only [Act.put, lT, lZ, lS, i64_w, i32_w]
            rfl
           refine pure_ (i := 6) (N := some 47) (v := ?_) (a' := ?_) #[true, true, true, true, false, true, true, false, false, false, false, false, false, false, false, false] rfl rfl (any_of HT_.out (by kernel_rfl)) (fun _ _ _ h => h) (Or.inl ⟨by rfl, ?_⟩) ?_ ?_
           rotate_left
           ·intro w'
            go_simp
            with_reducible rfl
           rotate_left
           ·simp only [Act.put, lT, lZ, lS, i64_w, i32_w]
            rfl
           refine pure_ (i := 7) (N := some 48) (v := ?_) (a' := ?_) #[true, true, true, true, false, true, true, true, false, false, false, false, false, false, false, false] rfl rfl (any_of HT_.out (by kernel_rfl)) (fun _ _ _ h => h) (Or.inl ⟨by rfl, ?_⟩) ?_ ?_
           rotate_left
           ·intro w'
            go_simp
            with_reducible rfl
           rotate_left
           ·simp only [Act.put, lT, lZ, lS, i64_w, i32_w]
            rfl
           refine take_ (i := 4) (N := some 45) (v := ?_) (a' := ?_) #[true, true, true, true, true, true, true, true, false, false, false, false, false, false, false, false] rfl rfl (take_ofW HT_.out HW_.out (by kernel_rfl)) (fun _ _ _ h => h) (Or.inl ⟨by rfl, ?_⟩) hHeld ?_ ?_
           rotate_left
           ·rintro w' ⟨s0, s1, s2, s3⟩
            go_simp
            with_reducible rfl
           rotate_left
           ·simp only [Act.put, lT, lZ, lS, i64_w, i32_w]
            rfl
           refine take_ (i := 8) (N := some 49) (v := ?_) (a' := ?_) #[true, true, true, true, true, true, true, true, true, false, false, false, false, false, false, false] rfl rfl (take_ofW HT_.out HW_.out (by kernel_rfl)) (fun _ _ _ h => h) (Or.inl ⟨by rfl, ?_⟩) hHeld ?_ ?_
           rotate_left
           ·rintro w' ⟨s0, s1, s2, s3⟩
            go_simp
            with_reducible rfl
           rotate_left
           ·simp only [Act.put, lT, lZ, lS, i64_w, i32_w]
            rfl
           refine join_ (σ := Nat) 2 #[true, true, true, true, true, true, true, true, true, true, true, true, true, true, false, false] (fun s_ => [(50, .tuple #[.agg #[.string t121, .string t122], .bool false]), (4, .pointer (some ⟨s_, 0, none⟩)), (40, .tuple #[.agg #[.string t121, .string t122], .bool false]), (51, .agg #[.string t121, .string t122]), (52, .bool false)]) (fun s_ w' => (w'.cell? (ad119.add (((ji17)).toNat * 2)) = some (.string ((rd_T76 l0 (ji17)).f0)) ∧ w'.cell? ⟨(ad119.add (((ji17)).toNat * 2)).block, (ad119.add (((ji17)).toNat * 2)).off + 1, none⟩ = some (.string ((rd_T76 l0 (ji17)).f1)) ∧ w'.cell? (ad119.add ((x3_2).toNat * 2)) = some (.string ((rd_T76 l0 x3_2).f0)) ∧ w'.cell? ⟨(ad119.add ((x3_2).toNat * 2)).block, (ad119.add ((x3_2).toNat * 2)).off + 1, none⟩ = some (.string ((rd_T76 l0 x3_2).f1))) ∧ (w'.heap[s_]? = some (.cells #[.string (⟨#[]⟩ : ByteArray), .string (⟨#[]⟩ : ByteArray)] 76 (0, 0))) ∧ (w.heap.size ≤ s_) ∧ (w.heap.size ≤ s_) ∧ (Below w.heap.size w w')) ?_ ?_
           rotate_left
           ·intro hCont
            refine two_ (i := 9) (j := 13) (Ni := some 50) (Nj := some 4) #[true, true, true, true, true, true, true, true, true, true, false, false, false, false, false, false] #[true, true, true, true, true, true, true, true, true, false, false, false, false, true, false, false] rfl rfl rfl rfl (two_of HT_.out (by kernel_rfl)) (by decide) (by decide) (fun K hK => ?_) (fun K hK => ?_)
            ·skip
             refine goes_ Try.func111 (by kernel_rfl) rfl #[.agg #[.string ((rd_T76 l0 (ji17)).f0), .string ((rd_T76 l0 (ji17)).f1)], .agg #[.string ((rd_T76 l0 x3_2).f0), .string ((rd_T76 l0 x3_2).f1)]] (by rfl) rfl rfl (by (try simp only [List.map_toArray, List.map_cons, List.map_nil]); first | done | (simp only [hji17]; rfl) | rfl | (simp only [List.length_drop, List.length_take]; rfl)) ?_
             with_reducible refine (spec_IntervalJoin.calls k2 ((rd_T76 l0 (ji17)).f0) ((rd_T76 l0 (ji17)).f1) ((rd_T76 l0 x3_2).f0) ((rd_T76 l0 x3_2).f1) t121 t122 false _ A21.out).mono ?_
             rintro e w30 ⟨rfl, hb⟩
             refine ⟨_, rfl, ?_⟩
             have n0_ := Aside0.mk (below_step (by exact hopb HB.out) hb)
             clear HB
             have HB := n0_
             clear n0_
             (try clear hb)
             (try clear hb2)
             (try clear hk)
             (try clear hi)
             refine hK.out _ _ ⟨((HB.out.cell (World.block_lt_of_cell? w _ hw119_0)).trans hw119_0), ((HB.out.cell (World.block_lt_of_cell? w _ hw119_1)).trans hw119_1), ((HB.out.cell (World.block_lt_of_cell? w _ hw120_0)).trans hw120_0), ((HB.out.cell (World.block_lt_of_cell? w _ hw120_1)).trans hw120_1)⟩ (fun hHeld => ?_)
             clear hK K
             refine norm_ (a' := ?_) ?_ ?_
             rotate_left
             ·show Act.put _ (some 50) _ = _
              simp only [Act.put, lT, lZ, lS, i64_w, i32_w]
              rfl
             refine pure_ (i := 10) (N := some 40) (v := ?_) (a' := ?_) #[true, true, true, true, true, true, true, true, true, true, true, false, false, false, false, false] rfl rfl (any_of HT_.out (by kernel_rfl)) (fun _ _ _ h => h) (Or.inl ⟨by rfl, ?_⟩) ?_ ?_
             rotate_left
             ·intro w'
              go_simp
              with_reducible rfl
             rotate_left
             ·simp only [Act.put, lT, lZ, lS, i64_w, i32_w]
              rfl
             refine pure_ (i := 11) (N := some 51) (v := ?_) (a' := ?_) #[true, true, true, true, true, true, true, true, true, true, true, true, false, false, false, false] rfl rfl (any_of HT_.out (by kernel_rfl)) (fun _ _ _ h => h) (Or.inl ⟨by rfl, ?_⟩) ?_ ?_
             rotate_left
             ·intro w'
              go_simp
              with_reducible rfl
             rotate_left
             ·simp only [Act.put, lT, lZ, lS, i64_w, i32_w]
              rfl
             refine pure_ (i := 12) (N := some 52) (v := ?_) (a' := ?_) #[true, true, true, true, true, true, true, true, true, true, true, true, true, false, false, false] rfl rfl (any_of HT_.out (by kernel_rfl)) (fun _ _ _ h => h) (Or.inl ⟨by rfl, ?_⟩) ?_ ?_
             rotate_left
             ·intro w'
              go_simp
              with_reducible rfl
             rotate_left
             ·simp only [Act.put, lT, lZ, lS, i64_w, i32_w]
              rfl
             refine one_ (i := 13) (N := some 4) #[true, true, true, true, true, true, true, true, true, true, true, true, true, true, false, false] rfl rfl (one_of HT_.out (by kernel_rfl)) (by decide) (fun K hK => ?_)
             refine box_step ?hg (N := 4) ?hd (cs := #[.string (⟨#[]⟩ : ByteArray), .string (⟨#[]⟩ : ByteArray)]) (t := 76) ?hr ?_; (case hd => rfl); (case hg => rfl); (case hr => first | (go_simp; done) | (go_simp; rfl))
             intro gb124 hg w31 hbox hb
             have n0_ := Aside0.mk (below_step (by exact hopb HB.out) hb)
             have n1_ := Aside0.mk (hbox)
             have n2_ := Aside0.mk ((by rw [hg]; exact (below_size (by exact hopb HB.out)) : w.heap.size ≤ gb124))
             have n3_ := n2_
             clear HB
             have HB := n0_
             have BK124 := n1_
             have GW124 := n2_
             have GE124 := n3_
             clear n0_ n1_ n2_ n3_
             clear hb hbox hg
             refine hK.out _ _ ⟨((HB.out.cell (World.block_lt_of_cell? w _ hw119_0)).trans hw119_0), ((HB.out.cell (World.block_lt_of_cell? w _ hw119_1)).trans hw119_1), ((HB.out.cell (World.block_lt_of_cell? w _ hw120_0)).trans hw120_0), ((HB.out.cell (World.block_lt_of_cell? w _ hw120_1)).trans hw120_1)⟩ (fun hHeld => ?_)
             clear hK K
             refine norm_ (a' := ?_) ?_ ?_
             rotate_left
             ·show Act.put _ (some 4) _ = _
              simp only [Act.put, lT, lZ, lS, i64_w, i32_w]
              rfl
             exact norm_ (by simp only [putAll, Act.put, lT, lZ, lS]) (hCont (gb124) _ ⟨hHeld, (by exact hop BK124.out), GW124.out, GE124.out, (by repeat (first | (with_reducible first | exact HB.out | apply bA | apply bN | apply bD | refine bS ?_ GE124.out) | exact HB.out))⟩)
            ·skip
             refine box_step ?hg (N := 4) ?hd (cs := #[.string (⟨#[]⟩ : ByteArray), .string (⟨#[]⟩ : ByteArray)]) (t := 76) ?hr ?_; (case hd => rfl); (case hg => rfl); (case hr => first | (go_simp; done) | (go_simp; rfl))
             intro gb124 hg w30 hbox hb
             have n0_ := Aside0.mk (below_step (by exact hopb HB.out) hb)
             have n1_ := Aside0.mk (hbox)
             have n2_ := Aside0.mk ((by rw [hg]; exact (below_size (by exact hopb HB.out)) : w.heap.size ≤ gb124))
             have n3_ := n2_
             clear HB
             have HB := n0_
             have BK124 := n1_
             have GW124 := n2_
             have GE124 := n3_
             clear n0_ n1_ n2_ n3_
             clear hb hbox hg
             refine hK.out _ _ ⟨((HB.out.cell (World.block_lt_of_cell? w _ hw119_0)).trans hw119_0), ((HB.out.cell (World.block_lt_of_cell? w _ hw119_1)).trans hw119_1), ((HB.out.cell (World.block_lt_of_cell? w _ hw120_0)).trans hw120_0), ((HB.out.cell (World.block_lt_of_cell? w _ hw120_1)).trans hw120_1)⟩ (fun hHeld => ?_)
             clear hK K
             refine norm_ (a' := ?_) ?_ ?_
             rotate_left
             ·show Act.put _ (some 4) _ = _
              simp only [Act.put, lT, lZ, lS, i64_w, i32_w]
              rfl
             refine one_ (i := 9) (N := some 50) #[true, true, true, true, true, true, true, true, true, true, false, false, false, true, false, false] rfl rfl (one_of HT_.out (by kernel_rfl)) (by decide) (fun K hK => ?_)
             refine goes_ Try.func111 (by kernel_rfl) rfl #[.agg #[.string ((rd_T76 l0 (ji17)).f0), .string ((rd_T76 l0 (ji17)).f1)], .agg #[.string ((rd_T76 l0 x3_2).f0), .string ((rd_T76 l0 x3_2).f1)]] (by rfl) rfl rfl (by (try simp only [List.map_toArray, List.map_cons, List.map_nil]); first | done | (simp only [hji17]; rfl) | rfl | (simp only [List.length_drop, List.length_take]; rfl)) ?_
             with_reducible refine (spec_IntervalJoin.calls k2 ((rd_T76 l0 (ji17)).f0) ((rd_T76 l0 (ji17)).f1) ((rd_T76 l0 x3_2).f0) ((rd_T76 l0 x3_2).f1) t121 t122 false _ A21.out).mono ?_
             rintro e w31 ⟨rfl, hb⟩
             refine ⟨_, rfl, ?_⟩
             have n0_ := Aside0.mk (blk_below (hop BK124.out) hb)
             have n1_ := Aside0.mk (below_step (by repeat (first | (with_reducible first | exact HB.out | apply bA | apply bN | apply bD | refine bS ?_ GE124.out) | exact HB.out)) hb)
             clear BK124
             clear HB
             have BK124 := n0_
             have HB := n1_
             clear n0_ n1_
             (try clear hb)
             (try clear hb2)
             (try clear hk)
             (try clear hi)
             refine hK.out _ _ ⟨((HB.out.cell (World.block_lt_of_cell? w _ hw119_0)).trans hw119_0), ((HB.out.cell (World.block_lt_of_cell? w _ hw119_1)).trans hw119_1), ((HB.out.cell (World.block_lt_of_cell? w _ hw120_0)).trans hw120_0), ((HB.out.cell (World.block_lt_of_cell? w _ hw120_1)).trans hw120_1)⟩ (fun hHeld => ?_)
             clear hK K
             refine norm_ (a' := ?_) ?_ ?_
             rotate_left
             ·show Act.put _ (some 50) _ = _
              simp only [Act.put, lT, lZ, lS, i64_w, i32_w]
              rfl
             refine pure_ (i := 10) (N := some 40) (v := ?_) (a' := ?_) #[true, true, true, true, true, true, true, true, true, true, true, false, false, true, false, false] rfl rfl (any_of HT_.out (by kernel_rfl)) (fun _ _ _ h => h) (Or.inl ⟨by rfl, ?_⟩) ?_ ?_
             rotate_left
             ·intro w'
              go_simp
              with_reducible rfl
             rotate_left
             ·simp only [Act.put, lT, lZ, lS, i64_w, i32_w]
              rfl
             refine pure_ (i := 11) (N := some 51) (v := ?_) (a' := ?_) #[true, true, true, true, true, true, true, true, true, true, true, true, false, true, false, false] rfl rfl (any_of HT_.out (by kernel_rfl)) (fun _ _ _ h => h) (Or.inl ⟨by rfl, ?_⟩) ?_ ?_
             rotate_left
             ·intro w'
              go_simp
              with_reducible rfl
             rotate_left
             ·simp only [Act.put, lT, lZ, lS, i64_w, i32_w]
              rfl
             refine pure_ (i := 12) (N := some 52) (v := ?_) (a' := ?_) #[true, true, true, true, true, true, true, true, true, true, true, true, true, true, false, false] rfl rfl (any_of HT_.out (by kernel_rfl)) (fun _ _ _ h => h) (Or.inl ⟨by rfl, ?_⟩) ?_ ?_
             rotate_left
             ·intro w'
              go_simp
              with_reducible rfl
             rotate_left
             ·simp only [Act.put, lT, lZ, lS, i64_w, i32_w]
              rfl
             exact norm_ (by simp only [putAll, Act.put, lT, lZ, lS]) (hCont (gb124) _ ⟨hHeld, (by exact hop BK124.out), GW124.out, GE124.out, (by repeat (first | (with_reducible first | exact HB.out | apply bA | apply bN | apply bD | refine bS ?_ GE124.out) | exact HB.out))⟩)
           rintro gb124 w32 ⟨hS_, h0_, h1_, h2_, h3_⟩
           have n0_ : Aside0 (w32.heap[gb124]? = some (.cells #[.string (⟨#[]⟩ : ByteArray), .string (⟨#[]⟩ : ByteArray)] 76 (0, 0))) := ⟨h0_⟩
           have n1_ : Aside0 (w.heap.size ≤ gb124) := ⟨h1_⟩
           have n2_ : Aside0 (w.heap.size ≤ gb124) := ⟨h2_⟩
           have n3_ : Aside0 (Below w.heap.size w w32) := ⟨h3_⟩
           clear HB
           clear h0_ h1_ h2_ h3_
           have BK124 := n0_
           have GW124 := n1_
           have GE124 := n2_
           have HB := n3_
           clear n0_ n1_ n2_ n3_
           have hHeld : w32.cell? (ad119.add (((ji17)).toNat * 2)) = some (.string ((rd_T76 l0 (ji17)).f0)) ∧ w32.cell? ⟨(ad119.add (((ji17)).toNat * 2)).block, (ad119.add (((ji17)).toNat * 2)).off + 1, none⟩ = some (.string ((rd_T76 l0 (ji17)).f1)) ∧ w32.cell? (ad119.add ((x3_2).toNat * 2)) = some (.string ((rd_T76 l0 x3_2).f0)) ∧ w32.cell? ⟨(ad119.add ((x3_2).toNat * 2)).block, (ad119.add ((x3_2).toNat * 2)).off + 1, none⟩ = some (.string ((rd_T76 l0 x3_2).f1)) := hS_
           refine norm_ (a' := ?_) ?_ ?_
           rotate_left
           ·simp only [putAll, Act.put, lT, lZ, lS]
            rfl
           refine one_ (i := 14) (N := none) #[true, true, true, true, true, true, true, true, true, true, true, true, true, true, true, false] rfl rfl (one_of HT_.out (by kernel_rfl)) (by decide) (fun K hK => ?_)
           have hs33 : w32.cell? ⟨gb124, 0, none⟩ = some (.string (⟨#[]⟩ : ByteArray)) := (blk_cell BK124.out 0).trans rfl
           have hfs33 := blk_frozen BK124.out 0
           have hs34 : w32.cell? ⟨gb124, 1, none⟩ = some (.string (⟨#[]⟩ : ByteArray)) := (blk_cell BK124.out 1).trans rfl
           have hfs34 := blk_frozen BK124.out 1
           refine skip_ (w1 := ?_) (by rfl) rfl ?_ ?_
           rotate_left
           ·go_simp
            rfl
           refine hK.out _ _ ⟨((cell_far (p := ⟨gb124, _, none⟩) (by first | exact Nat.ne_of_lt (Nat.lt_of_lt_of_le (by have := World.block_lt_of_cell? _ _ hw119_0; first | rwa [add_block] at this | exact this) GW124.out) | (rw [add_block]; exact Nat.ne_of_lt (Nat.lt_of_lt_of_le (by have := World.block_lt_of_cell? _ _ hw119_0; first | rwa [add_block] at this | exact this) GW124.out)) | (show (Addr.add _ _).block ≠ _; rw [add_block]; exact Nat.ne_of_lt (Nat.lt_of_lt_of_le (by have := World.block_lt_of_cell? _ _ hw119_0; first | rwa [add_block] at this | exact this) GW124.out)) | (dsimp only; exact Nat.ne_of_lt (Nat.lt_of_lt_of_le (by have := World.block_lt_of_cell? _ _ hw119_0; first | rwa [add_block] at this | exact this) GW124.out))) _).trans (((cell_far (p := ⟨gb124, _, none⟩) (by first | exact Nat.ne_of_lt (Nat.lt_of_lt_of_le (by have := World.block_lt_of_cell? _ _ hw119_0; first | rwa [add_block] at this | exact this) GW124.out) | (rw [add_block]; exact Nat.ne_of_lt (Nat.lt_of_lt_of_le (by have := World.block_lt_of_cell? _ _ hw119_0; first | rwa [add_block] at this | exact this) GW124.out)) | (show (Addr.add _ _).block ≠ _; rw [add_block]; exact Nat.ne_of_lt (Nat.lt_of_lt_of_le (by have := World.block_lt_of_cell? _ _ hw119_0; first | rwa [add_block] at this | exact this) GW124.out)) | (dsimp only; exact Nat.ne_of_lt (Nat.lt_of_lt_of_le (by have := World.block_lt_of_cell? _ _ hw119_0; first | rwa [add_block] at this | exact this) GW124.out))) _).trans (hHeld.1)))), ((cell_far (p := ⟨gb124, _, none⟩) (by first | exact Nat.ne_of_lt (Nat.lt_of_lt_of_le (by have := World.block_lt_of_cell? _ _ hw119_1; first | rwa [add_block] at this | exact this) GW124.out) | (rw [add_block]; exact Nat.ne_of_lt (Nat.lt_of_lt_of_le (by have := World.block_lt_of_cell? _ _ hw119_1; first | rwa [add_block] at this | exact this) GW124.out)) | (show (Addr.add _ _).block ≠ _; rw [add_block]; exact Nat.ne_of_lt (Nat.lt_of_lt_of_le (by have := World.block_lt_of_cell? _ _ hw119_1; first | rwa [add_block] at this | exact this) GW124.out)) | (dsimp only; exact Nat.ne_of_lt (Nat.lt_of_lt_of_le (by have := World.block_lt_of_cell? _ _ hw119_1; first | rwa [add_block] at this | exact this) GW124.out))) _).trans (((cell_far (p := ⟨gb124, _, none⟩) (by first | exact Nat.ne_of_lt (Nat.lt_of_lt_of_le (by have := World.block_lt_of_cell? _ _ hw119_1; first | rwa [add_block] at this | exact this) GW124.out) | (rw [add_block]; exact Nat.ne_of_lt (Nat.lt_of_lt_of_le (by have := World.block_lt_of_cell? _ _ hw119_1; first | rwa [add_block] at this | exact this) GW124.out)) | (show (Addr.add _ _).block ≠ _; rw [add_block]; exact Nat.ne_of_lt (Nat.lt_of_lt_of_le (by have := World.block_lt_of_cell? _ _ hw119_1; first | rwa [add_block] at this | exact this) GW124.out)) | (dsimp only; exact Nat.ne_of_lt (Nat.lt_of_lt_of_le (by have := World.block_lt_of_cell? _ _ hw119_1; first | rwa [add_block] at this | exact this) GW124.out))) _).trans (hHeld.2.1)))), ((cell_far (p := ⟨gb124, _, none⟩) (by first | exact Nat.ne_of_lt (Nat.lt_of_lt_of_le (by have := World.block_lt_of_cell? _ _ hw120_0; first | rwa [add_block] at this | exact this) GW124.out) | (rw [add_block]; exact Nat.ne_of_lt (Nat.lt_of_lt_of_le (by have := World.block_lt_of_cell? _ _ hw120_0; first | rwa [add_block] at this | exact this) GW124.out)) | (show (Addr.add _ _).block ≠ _; rw [add_block]; exact Nat.ne_of_lt (Nat.lt_of_lt_of_le (by have := World.block_lt_of_cell? _ _ hw120_0; first | rwa [add_block] at this | exact this) GW124.out)) | (dsimp only; exact Nat.ne_of_lt (Nat.lt_of_lt_of_le (by have := World.block_lt_of_cell? _ _ hw120_0; first | rwa [add_block] at this | exact this) GW124.out))) _).trans (((cell_far (p := ⟨gb124, _, none⟩) (by first | exact Nat.ne_of_lt (Nat.lt_of_lt_of_le (by have := World.block_lt_of_cell? _ _ hw120_0; first | rwa [add_block] at this | exact this) GW124.out) | (rw [add_block]; exact Nat.ne_of_lt (Nat.lt_of_lt_of_le (by have := World.block_lt_of_cell? _ _ hw120_0; first | rwa [add_block] at this | exact this) GW124.out)) | (show (Addr.add _ _).block ≠ _; rw [add_block]; exact Nat.ne_of_lt (Nat.lt_of_lt_of_le (by have := World.block_lt_of_cell? _ _ hw120_0; first | rwa [add_block] at this | exact this) GW124.out)) | (dsimp only; exact Nat.ne_of_lt (Nat.lt_of_lt_of_le (by have := World.block_lt_of_cell? _ _ hw120_0; first | rwa [add_block] at this | exact this) GW124.out))) _).trans (hHeld.2.2.1)))), ((cell_far (p := ⟨gb124, _, none⟩) (by first | exact Nat.ne_of_lt (Nat.lt_of_lt_of_le (by have := World.block_lt_of_cell? _ _ hw120_1; first | rwa [add_block] at this | exact this) GW124.out) | (rw [add_block]; exact Nat.ne_of_lt (Nat.lt_of_lt_of_le (by have := World.block_lt_of_cell? _ _ hw120_1; first | rwa [add_block] at this | exact this) GW124.out)) | (show (Addr.add _ _).block ≠ _; rw [add_block]; exact Nat.ne_of_lt (Nat.lt_of_lt_of_le (by have := World.block_lt_of_cell? _ _ hw120_1; first | rwa [add_block] at this | exact this) GW124.out)) | (dsimp only; exact Nat.ne_of_lt (Nat.lt_of_lt_of_le (by have := World.block_lt_of_cell? _ _ hw120_1; first | rwa [add_block] at this | exact this) GW124.out))) _).trans (((cell_far (p := ⟨gb124, _, none⟩) (by first | exact Nat.ne_of_lt (Nat.lt_of_lt_of_le (by have := World.block_lt_of_cell? _ _ hw120_1; first | rwa [add_block] at this | exact this) GW124.out) | (rw [add_block]; exact Nat.ne_of_lt (Nat.lt_of_lt_of_le (by have := World.block_lt_of_cell? _ _ hw120_1; first | rwa [add_block] at this | exact this) GW124.out)) | (show (Addr.add _ _).block ≠ _; rw [add_block]; exact Nat.ne_of_lt (Nat.lt_of_lt_of_le (by have := World.block_lt_of_cell? _ _ hw120_1; first | rwa [add_block] at this | exact this) GW124.out)) | (dsimp only; exact Nat.ne_of_lt (Nat.lt_of_lt_of_le (by have := World.block_lt_of_cell? _ _ hw120_1; first | rwa [add_block] at this | exact this) GW124.out))) _).trans (hHeld.2.2.2))))⟩ (fun hHeld => ?_)
           clear hK K
           refine pure_ (i := 15) (N := some 5) (v := ?_) (a' := ?_) #[true, true, true, true, true, true, true, true, true, true, true, true, true, true, true, true] rfl rfl (any_of HT_.out (by kernel_rfl)) (fun _ _ _ h => h) (Or.inl ⟨by rfl, ?_⟩) ?_ ?_
           rotate_left
           ·intro w'
            go_simp
            with_reducible rfl
           rotate_left
           ·simp only [Act.put, lT, lZ, lS, i64_w, i32_w]
            rfl
           refine done_ (done_of HT_.out (by kernel_rfl)) ?_
           try go_wp2
           go_ret
           exact ⟨by first | rfl | (simp only [u8_w_, w64_u8_] <;> rfl) | (simp [errW_none, errW_some] <;> rfl) | (simp only [← hji17]; first | rfl | (simp [errW_none, errW_some] <;> rfl)) | (simp [*, errW_none, errW_some] <;> rfl), by repeat (first | (with_reducible first | exact HB.out | apply bA | apply bN | apply bD | refine bS ?_ GE124.out) | exact HB.out)⟩
         ·rw [if_neg c20] at H
          exact absurd H (by simp)
        ·rw [if_neg c19] at H
         exact absurd H (by simp)
       ·rw [if_neg c18] at H
        exact absurd H (by simp)
      ·rw [if_neg c16] at H
       have c16b0 : decide (x3_2 < (l0.length : Int)) = false := decide_eq_false c16
       clear c16
       obtain rfl := Option.some.inj H
       go_wp2
       go_ret
       exact ⟨by first | rfl | (simp only [u8_w_, w64_u8_] <;> rfl) | (simp [errW_none, errW_some] <;> rfl) | (simp [*, errW_none, errW_some] <;> rfl), by repeat (first | (with_reducible first | exact HB.out | apply bA | apply bN | apply bD) | exact HB.out)⟩

end Go.Proofs.Ytebgpbcbbjpbfaa.PFnExactPartitionSplit
