-- Written for this claim by a program of this session (wip/myprint in the proofs' repo)
import Derived.Test.YtebgpbcbbjpbfaaPFnExactPartitionSplitx0
import Derived.Test.YtebgpbcbbjpbfaaPFnExactPartitionSplitx5
import Derived.Test.YtebgpbcbbjpbfaaWZip
namespace Go.Proofs.Ytebgpbcbbjpbfaa.PFnExactPartitionSplit
open Go.RowKit Go.Proofs.YtebgpbcbbjpbfaaW.PrintWords Go.Proofs.YtebgpbcbbjpbfaaW.PrintLast Go.Proofs.YtebgpbcbbjpbfaaW.PrintMore
attribute [local go_sem] max2_int min2_int max_two min_two max_three min_three max_four min_four max2_strs min2_strs   -- for this text's walks alone
set_option linter.unusedVariables false
set_option linter.unusedSimpArgs false

/-! ### impl_PartitionValid: function 99 -/
mutual
def impl_PartitionValid.j0 : Nat → List (S76) → Bool → Option (Bool)
 | 0, _, _ => none
 | k + 1, x0, x31 => if x31 = true then (some false) else (impl_PartitionValid.l0 k x0 x0 (x0.length : Int) 0)
def impl_PartitionValid.l0 : Nat → List (S76) → List (S76) → Int → Int → Option (Bool)
 | 0, _, _, _, _ => none
 | k + 1, x0, x32, x33, x34 => if x34 < x33 then (if 0 ≤ x34 then (if x34 < (x32.length : Int) then ((impl_IntervalValid.f k ((rd_T76 x32 x34).f0) ((rd_T76 x32 x34).f1)).bind fun t206 => (if t206 = true then (if x34 > 0 then (if 0 ≤ (wrap64 (x34 - 1)) then (if (wrap64 (x34 - 1)) < (x0.length : Int) then ((impl_IntervalJoin.f k ((rd_T76 x0 (wrap64 (x34 - 1))).f0) ((rd_T76 x0 (wrap64 (x34 - 1))).f1) ((rd_T76 x32 x34).f0) ((rd_T76 x32 x34).f1)).bind fun bt208 => (if bt208.2.2 = true then (impl_PartitionValid.l0 k x0 x32 x33 (wrap64 (x34 + 1))) else (some false))) else (none)) else (none)) else (impl_PartitionValid.l0 k x0 x32 x33 (wrap64 (x34 + 1)))) else (some false))) else (none)) else (none)) else (some true)
end
def impl_PartitionValid.f (k : Nat) (l0 : List (S76)) : Option (Bool) := if (l0.length : Int) < 1 then (impl_PartitionValid.j0 k l0 true) else (if (l0.length : Int) > 6 then (impl_PartitionValid.j0 k l0 true) else (if 0 < (l0.length : Int) then (if ((rd_T76 l0 0).f0).toList = ([] : List UInt8) then (if 0 ≤ (wrap64 ((l0.length : Int) - 1)) then (if (wrap64 ((l0.length : Int) - 1)) < (l0.length : Int) then (impl_PartitionValid.j0 k l0 (((rd_T76 l0 (wrap64 ((l0.length : Int) - 1))).f1).toList != ([] : List UInt8))) else (none)) else (none)) else (impl_PartitionValid.j0 k l0 true)) else (none)))
theorem impl_PartitionValid.mono_l : ∀ k, (∀ y0 y1, LeO (impl_PartitionValid.j0 k y0 y1) (impl_PartitionValid.j0 (k + 1) y0 y1)) ∧ (∀ y0 y1 y2 y3, LeO (impl_PartitionValid.l0 k y0 y1 y2 y3) (impl_PartitionValid.l0 (k + 1) y0 y1 y2 y3))
 | 0 => ⟨fun _ _ r h => by simp [impl_PartitionValid.j0] at h, fun _ _ _ _ r h => by simp [impl_PartitionValid.l0] at h⟩
 | k + 1 => by
  obtain ⟨ih0, ih1⟩ := impl_PartitionValid.mono_l k
  refine ⟨?_, ?_⟩
  ·intro y0 y1
   unfold impl_PartitionValid.j0
   repeat' first
   | (with_reducible exact ih0 _ _)
   | (with_reducible exact ih1 _ _ _ _)
   | (with_reducible exact impl_IntervalJoin.mono _ _ _ _ _)
   | (with_reducible exact impl_IntervalValid.mono _ _ _)
   | (with_reducible exact LeO.refl _)
   | (with_reducible exact LeO.none _)
   | (with_reducible refine LeO.ite ?_ ?_)
   | (with_reducible refine LeO.bind ?_ (fun _ => ?_))
   | exact ih0 _ _
   | exact ih1 _ _ _ _
   | exact impl_IntervalJoin.mono _ _ _ _ _
   | exact impl_IntervalValid.mono _ _ _
   | exact LeO.none _
   | refine LeO.ite ?_ ?_
   | refine LeO.bind ?_ (fun _ => ?_)
  ·intro y0 y1 y2 y3
   unfold impl_PartitionValid.l0
   repeat' first
   | (with_reducible exact ih0 _ _)
   | (with_reducible exact ih1 _ _ _ _)
   | (with_reducible exact impl_IntervalJoin.mono _ _ _ _ _)
   | (with_reducible exact impl_IntervalValid.mono _ _ _)
   | (with_reducible exact LeO.refl _)
   | (with_reducible exact LeO.none _)
   | (with_reducible refine LeO.ite ?_ ?_)
   | (with_reducible refine LeO.bind ?_ (fun _ => ?_))
   | exact ih0 _ _
   | exact ih1 _ _ _ _
   | exact impl_IntervalJoin.mono _ _ _ _ _
   | exact impl_IntervalValid.mono _ _ _
   | exact LeO.none _
   | refine LeO.ite ?_ ?_
   | refine LeO.bind ?_ (fun _ => ?_)
theorem impl_PartitionValid.mono : ∀ a0 k, LeO (impl_PartitionValid.f k a0) (impl_PartitionValid.f (k + 1) a0) := by
 intro a0 k
 obtain ⟨ih0, ih1⟩ := impl_PartitionValid.mono_l k
 unfold impl_PartitionValid.f
 repeat' first
   | (with_reducible exact ih0 _ _)
   | (with_reducible exact ih1 _ _ _ _)
   | (with_reducible exact impl_IntervalJoin.mono _ _ _ _ _)
   | (with_reducible exact impl_IntervalValid.mono _ _ _)
   | (with_reducible exact LeO.refl _)
   | (with_reducible exact LeO.none _)
   | (with_reducible refine LeO.ite ?_ ?_)
   | (with_reducible refine LeO.bind ?_ (fun _ => ?_))
   | exact ih0 _ _
   | exact ih1 _ _ _ _
   | exact impl_IntervalJoin.mono _ _ _ _ _
   | exact impl_IntervalValid.mono _ _ _
   | exact LeO.none _
   | refine LeO.ite ?_ ?_
   | refine LeO.bind ?_ (fun _ => ?_)
def impl_PartitionValid.T10 : Bool × List (List Nat × List Nat) := (true, [([], []), ([], []), ([1], [1]), ([0, 2], [0, 2]), ([3], [3]), ([], []), ([4, 5], [4, 5]), ([6], [6]), ([7], [7]), ([7], [7]), ([], []), ([10, 8, 6, 0, 1, 2, 3, 4, 5, 6, 7, 8, 10], [8, 10]), ([9, 11, 0, 1, 2, 3, 4, 5, 6, 7, 8, 9, 10, 11], [9])])
def impl_PartitionValid.B10 : List Nat := [0, 0, 2, 7, 15, 0, 63, 127, 255, 255, 0, 1535, 4095]
theorem impl_PartitionValid.tab10 : rtab .any (opsOf Try.f99 10) = impl_PartitionValid.T10 := by kernel_rfl
theorem impl_PartitionValid.bits10 : waitsOk impl_PartitionValid.T10.2 impl_PartitionValid.B10 = true := by kernel_rfl
set_option maxHeartbeats 8000000 in
set_option maxRecDepth 100000 in
theorem impl_PartitionValid.calls (k : Nat) (A0 : Option Addr) (c0 : Nat) (l0 : List (S76)) (r : Bool) (w : World) (hr0 : Kd.C k76 w A0 l0.length l0) (hc0 : l0.length ≤ c0) (h : impl_PartitionValid.f k l0 = some r) :
  Calls Try.prog 99 #[.slice A0 l0.length c0] w fun e w' => e = .returned (.bool r) ∧ Below w.heap.size w w' := by
 have hu76 := Try.underlying76
 have HR0 := Aside0.mk hr0
 have HC0 := Aside0.mk hc0
 clear hr0 hc0
 have HB := Aside0.mk (Below.refl w.heap.size w)
 have H : (if (l0.length : Int) < 1 then (impl_PartitionValid.j0 k l0 true) else (if (l0.length : Int) > 6 then (impl_PartitionValid.j0 k l0 true) else (if 0 < (l0.length : Int) then (if ((rd_T76 l0 0).f0).toList = ([] : List UInt8) then (if 0 ≤ (wrap64 ((l0.length : Int) - 1)) then (if (wrap64 ((l0.length : Int) - 1)) < (l0.length : Int) then (impl_PartitionValid.j0 k l0 (((rd_T76 l0 (wrap64 ((l0.length : Int) - 1))).f1).toList != ([] : List UInt8))) else (none)) else (none)) else (impl_PartitionValid.j0 k l0 true)) else (none)))) = some r := h
 clear h
 have HC2 := Aside0.mk H
 clear H
 go_enter Try.func99, Try.ntmps99
 go_upto_region 2 with (fail)
 go_cut [31] (fun v31 wc => ∃ (kq : Nat) (x31_1 : Bool), v31 = .bool x31_1 ∧ Aside0 (impl_PartitionValid.j0 kq l0 x31_1 = some r) ∧ Aside0 (kq ≤ k) ∧ Aside0 (Below w.heap.size w wc))
 case first =>
  have H := HC2.out
  clear HC2
  by_cases c3 : (l0.length : Int) < 1
  ·rw [if_pos c3] at H
   have c3b0 : decide ((l0.length : Int) < 1) = true := decide_eq_true c3
   have c3b1 : decide (l0.length < 1) = true := decide_eq_true (by omega)
   clear c3
   (first | rw [c3b0] | (simp only [i64_w, i32_w]; rw [c3b0]) | skip)
   have H' := Aside0.mk H
   clear H
   go_wp2
   go_meet
   case rel => exact ⟨_, (true), (by first | rfl | (simp; done) | (simp [bne]; done) | (simp [*]; done)), H', ⟨by first | omega | exact Nat.le_refl _⟩, ⟨by repeat (first | (with_reducible first | exact HB.out | apply bA | apply bN | apply bD) | exact HB.out)⟩⟩
  ·rw [if_neg c3] at H
   have c3b0 : decide ((l0.length : Int) < 1) = false := decide_eq_false c3
   have c3b1 : decide (l0.length < 1) = false := decide_eq_false (by omega)
   clear c3
   (first | rw [c3b0] | (simp only [i64_w, i32_w]; rw [c3b0]) | skip)
   by_cases c4 : (l0.length : Int) > 6
   ·rw [if_pos c4] at H
    have c4b0 : decide (6 < (l0.length : Int)) = true := decide_eq_true c4
    have c4b1 : decide (6 < l0.length) = true := decide_eq_true (by omega)
    clear c4
    have H' := Aside0.mk H
    clear H
    go_wp2
    go_meet
    case rel => exact ⟨_, (true), (by first | rfl | (simp; done) | (simp [bne]; done) | (simp [*]; done)), H', ⟨by first | omega | exact Nat.le_refl _⟩, ⟨by repeat (first | (with_reducible first | exact HB.out | apply bA | apply bN | apply bD) | exact HB.out)⟩⟩
   ·rw [if_neg c4] at H
    have c4b0 : decide (6 < (l0.length : Int)) = false := decide_eq_false c4
    have c4b1 : decide (6 < l0.length) = false := decide_eq_false (by omega)
    clear c4
    by_cases c5 : 0 < (l0.length : Int)
    ·rw [if_pos c5] at H
     have c5b0 : decide (0 < (l0.length : Int)) = true := decide_eq_true c5
     have c5b1 : decide (0 < l0.length) = true := decide_eq_true (by omega)
     clear c5
     by_cases c6 : ((rd_T76 l0 0).f0).toList = ([] : List UInt8)
     ·rw [if_pos c6] at H
      have c6b0 : (((rd_T76 l0 0).f0).toList == ([] : List UInt8)) = true := beq_iff_eq.mpr c6
      have c6b1 : (((rd_T76 l0 0).f0).toList != ([] : List UInt8)) = false := bne_eq_false_iff_eq.mpr c6
      clear c6
      obtain ⟨ji7, hji7⟩ : ∃ j_ : Int, (wrap64 ((l0.length : Int) - 1)) = j_ := ⟨_, rfl⟩
      replace H : (if 0 ≤ (ji7) then (if (ji7) < (l0.length : Int) then (impl_PartitionValid.j0 k l0 (((rd_T76 l0 (ji7)).f1).toList != ([] : List UInt8))) else (none)) else (none)) = some r := by first | (rw [hji7] at H; exact H) | (simp only [hji7] at H ⊢; exact H)
      have hji7w : (IntKind.i64.wrap ((l0.length : Int) - 1)) = ji7 := (i64_w _).trans hji7
      by_cases c8 : 0 ≤ (ji7)
      ·rw [if_pos c8] at H
       have c8b0 : decide (0 ≤ (ji7)) = true := decide_eq_true c8
       clear c8
       by_cases c9 : (ji7) < (l0.length : Int)
       ·rw [if_pos c9] at H
        have c9b0 : decide ((ji7) < (l0.length : Int)) = true := decide_eq_true c9
        clear c9
        have H' := Aside0.mk H
        clear H
        have p202 : 0 ≤ (0 : Int) := (by omega)
        have q202 : 0 < (l0.length : Int) := of_decide_eq_true (by first | (with_reducible assumption) | assumption)
        obtain ⟨ad202, e202, hx202_0, hx202_1⟩ := at_T76 HR0.out 0 p202 q202
        cases e202
        have qi202 : (0 < l0.length) = True := eq_true (by omega)
        (try rw [show ((0 : Int)).toNat = 0 from rfl] at hx202_0)
        (try rw [show 0 * 2 = 0 from rfl] at hx202_0)
        (try rw [Addr.add_zero'] at hx202_0)
        (try rw [show ((0 : Int)).toNat = 0 from rfl] at hx202_1)
        (try rw [show 0 * 2 = 0 from rfl] at hx202_1)
        (try rw [Addr.add_zero'] at hx202_1)
        replace hx202_0 := (HB.out.cell (World.block_lt_of_cell? w _ hx202_0)).trans hx202_0
        replace hx202_1 := (HB.out.cell (World.block_lt_of_cell? w _ hx202_1)).trans hx202_1
        replace p202 := eq_true p202
        replace q202 := eq_true q202
        have p203 : 0 ≤ ((ji7) : Int) := of_decide_eq_true (by first | (with_reducible assumption) | assumption)
        have q203 : (ji7) < (l0.length : Int) := of_decide_eq_true (by first | (with_reducible assumption) | assumption)
        obtain ⟨ad203, e203, hx203_0, hx203_1⟩ := at_T76 HR0.out (ji7) p203 q203
        obtain rfl : ad202 = ad203 := (by injection e203)
        replace hx203_0 := (HB.out.cell (World.block_lt_of_cell? w _ hx203_0)).trans hx203_0
        replace hx203_1 := (HB.out.cell (World.block_lt_of_cell? w _ hx203_1)).trans hx203_1
        replace p203 := eq_true p203
        replace q203 := eq_true q203
        go_wp2
        go_meet
        case rel => exact ⟨_, ((((rd_T76 l0 (ji7)).f1).toList != ([] : List UInt8))), (by first | rfl | (simp; done) | (simp [bne]; done) | (simp only [← hji7] <;> (first | rfl | simp)) | (simp [*]; done)), H', ⟨by first | omega | exact Nat.le_refl _⟩, ⟨by repeat (first | (with_reducible first | exact HB.out | apply bA | apply bN | apply bD) | exact HB.out)⟩⟩
       ·rw [if_neg c9] at H
        exact absurd H (by simp)
      ·rw [if_neg c8] at H
       exact absurd H (by simp)
     ·rw [if_neg c6] at H
      have c6b0 : (((rd_T76 l0 0).f0).toList == ([] : List UInt8)) = false := beq_eq_false_iff_ne.mpr c6
      have c6b1 : (((rd_T76 l0 0).f0).toList != ([] : List UInt8)) = true := bne_iff_ne.mpr c6
      have H' := Aside0.mk H
      clear H
      have p202 : 0 ≤ (0 : Int) := (by omega)
      have q202 : 0 < (l0.length : Int) := of_decide_eq_true (by first | (with_reducible assumption) | assumption)
      obtain ⟨ad202, e202, hx202_0, hx202_1⟩ := at_T76 HR0.out 0 p202 q202
      cases e202
      have qi202 : (0 < l0.length) = True := eq_true (by omega)
      (try rw [show ((0 : Int)).toNat = 0 from rfl] at hx202_0)
      (try rw [show 0 * 2 = 0 from rfl] at hx202_0)
      (try rw [Addr.add_zero'] at hx202_0)
      (try rw [show ((0 : Int)).toNat = 0 from rfl] at hx202_1)
      (try rw [show 0 * 2 = 0 from rfl] at hx202_1)
      (try rw [Addr.add_zero'] at hx202_1)
      replace hx202_0 := (HB.out.cell (World.block_lt_of_cell? w _ hx202_0)).trans hx202_0
      replace hx202_1 := (HB.out.cell (World.block_lt_of_cell? w _ hx202_1)).trans hx202_1
      replace p202 := eq_true p202
      replace q202 := eq_true q202
      go_wp2
      go_meet
      case rel => exact ⟨_, (true), (by first | rfl | (simp; done) | (simp [bne]; done) | (simp [*]; done)), H', ⟨by first | omega | exact Nat.le_refl _⟩, ⟨by repeat (first | (with_reducible first | exact HB.out | apply bA | apply bN | apply bD) | exact HB.out)⟩⟩
    ·rw [if_neg c5] at H
     exact absurd H (by simp)
 case rest =>
  clear HC2
  try clear p2
  try clear q2
  try clear hx2
  try clear qi2
  try clear c3
  try clear c3b0
  try clear c3b1
  try clear c4
  try clear c4b0
  try clear c4b1
  try clear c5
  try clear c5b0
  try clear c5b1
  try clear c6
  try clear c6b0
  try clear c6b1
  try clear p6
  try clear c8
  try clear c8b0
  try clear c9
  try clear c9b0
  try clear hx202_0
  try clear hx202_1
  try clear hx203_0
  try clear hx203_1
  try clear p202
  try clear p203
  try clear q202
  try clear q203
  obtain ⟨kq, x31_1, rfl, HA, HJ1, HB⟩ := hcut
  cases kq with
  | zero => exact absurd HA.out (by simp [impl_PartitionValid.j0])
  | succ kj1 =>
   have H := HA.out
   clear HA
   simp only [impl_PartitionValid.j0] at H
   by_cases c10 : x31_1 = true
   ·subst c10
    have H1 : (some false) = some r := by rw [if_pos rfl] at H; exact H
    clear H
    have H := H1
    clear H1
    obtain rfl := Option.some.inj H
    go_wp2
    go_ret
    exact ⟨by first | rfl | (simp only [u8_w_, w64_u8_] <;> rfl) | (simp [errW_none, errW_some] <;> rfl) | (simp [*, errW_none, errW_some] <;> rfl), by repeat (first | (with_reducible first | exact HB.out | apply bA | apply bN | apply bD) | exact HB.out)⟩
   ·replace c10 := Bool.eq_false_iff.mpr c10
    subst c10
    have H1 : (impl_PartitionValid.l0 kj1 l0 l0 (l0.length : Int) 0) = some r := by rw [if_neg (show ¬ (false = true) by decide)] at H; exact H
    clear H
    have H := H1
    clear H1
    have H' := Aside0.mk H
    clear H
    go_wp2
    go_loopg [34] kj1 (fun kq v34 w' => ∃ (x34_2 : Int), v34 = .int .i64 x34_2 ∧ Aside0 (impl_PartitionValid.l0 kq l0 l0 (l0.length : Int) x34_2 = some r) ∧ Aside0 (kq ≤ kj1) ∧ Aside0 (Below w.heap.size w w'))
    case atStart => exact ⟨(0), (by first | rfl | (simp; done) | (simp [bne]; done) | (simp [*]; done)), H', ⟨Nat.le_refl _⟩, ⟨by repeat (first | (with_reducible first | exact HB.out | apply bA | apply bN | apply bD) | exact HB.out)⟩⟩
    case round =>
     clear H'
     try clear c1
     try clear p2
     try clear q2
     try clear hx2
     try clear qi2
     try clear c3
     try clear c3b0
     try clear c3b1
     try clear c4
     try clear c4b0
     try clear c4b1
     try clear c5
     try clear c5b0
     try clear c5b1
     try clear c6
     try clear c6b0
     try clear c6b1
     try clear p6
     try clear c8
     try clear c8b0
     try clear c9
     try clear c9b0
     try clear c10
     try clear hx202_0
     try clear hx202_1
     try clear hx203_0
     try clear hx203_1
     try clear p2
     try clear p202
     try clear p203
     try clear p6
     try clear q2
     try clear q202
     try clear q203
     obtain ⟨x34_2, rfl, HA, HK2, HB⟩ := hrel
     cases gk with
     | zero => exact absurd HA.out (by simp [impl_PartitionValid.l0])
     | succ k2 =>
      have H := HA.out
      clear HA
      simp only [impl_PartitionValid.l0] at H
      by_cases c11 : x34_2 < (l0.length : Int)
      ·rw [if_pos c11] at H
       have c11b0 : decide (x34_2 < (l0.length : Int)) = true := decide_eq_true c11
       clear c11
       by_cases c12 : 0 ≤ x34_2
       ·rw [if_pos c12] at H
        have c12b0 : decide (0 ≤ x34_2) = true := decide_eq_true c12
        clear c12
        by_cases c13 : x34_2 < (l0.length : Int)
        ·rw [if_pos c13] at H
         have c13b0 : decide (x34_2 < (l0.length : Int)) = true := decide_eq_true c13
         clear c13
         replace H := Option.bind_eq_some_iff.mp H
         obtain ⟨t206, A140, H⟩ := H
         replace H : (if t206 = true then (if x34_2 > 0 then (if 0 ≤ (wrap64 (x34_2 - 1)) then (if (wrap64 (x34_2 - 1)) < (l0.length : Int) then ((impl_IntervalJoin.f k2 ((rd_T76 l0 (wrap64 (x34_2 - 1))).f0) ((rd_T76 l0 (wrap64 (x34_2 - 1))).f1) ((rd_T76 l0 x34_2).f0) ((rd_T76 l0 x34_2).f1)).bind fun bt208 => (if bt208.2.2 = true then (impl_PartitionValid.l0 k2 l0 l0 (l0.length : Int) (wrap64 (x34_2 + 1))) else (some false))) else (none)) else (none)) else (impl_PartitionValid.l0 k2 l0 l0 (l0.length : Int) (wrap64 (x34_2 + 1)))) else (some false)) = some r := H
         have A14 := Aside0.mk A140
         clear A140
         by_cases c15 : t206 = true
         ·subst c15
          have H1 : (if x34_2 > 0 then (if 0 ≤ (wrap64 (x34_2 - 1)) then (if (wrap64 (x34_2 - 1)) < (l0.length : Int) then ((impl_IntervalJoin.f k2 ((rd_T76 l0 (wrap64 (x34_2 - 1))).f0) ((rd_T76 l0 (wrap64 (x34_2 - 1))).f1) ((rd_T76 l0 x34_2).f0) ((rd_T76 l0 x34_2).f1)).bind fun bt208 => (if bt208.2.2 = true then (impl_PartitionValid.l0 k2 l0 l0 (l0.length : Int) (wrap64 (x34_2 + 1))) else (some false))) else (none)) else (none)) else (impl_PartitionValid.l0 k2 l0 l0 (l0.length : Int) (wrap64 (x34_2 + 1)))) = some r := by rw [if_pos rfl] at H; exact H
          clear H
          have H := H1
          clear H1
          by_cases c16 : x34_2 > 0
          ·rw [if_pos c16] at H
           have c16b0 : decide (0 < x34_2) = true := decide_eq_true c16
           clear c16
           obtain ⟨ji17, hji17⟩ : ∃ j_ : Int, (wrap64 (x34_2 - 1)) = j_ := ⟨_, rfl⟩
           replace H : (if 0 ≤ (ji17) then (if (ji17) < (l0.length : Int) then ((impl_IntervalJoin.f k2 ((rd_T76 l0 (ji17)).f0) ((rd_T76 l0 (ji17)).f1) ((rd_T76 l0 x34_2).f0) ((rd_T76 l0 x34_2).f1)).bind fun bt208 => (if bt208.2.2 = true then (impl_PartitionValid.l0 k2 l0 l0 (l0.length : Int) (wrap64 (x34_2 + 1))) else (some false))) else (none)) else (none)) = some r := by first | (rw [hji17] at H; exact H) | (simp only [hji17] at H ⊢; exact H)
           (try rw [hji17] at A14)
           have hji17w : (IntKind.i64.wrap (x34_2 - 1)) = ji17 := (i64_w _).trans hji17
           by_cases c18 : 0 ≤ (ji17)
           ·rw [if_pos c18] at H
            have c18b0 : decide (0 ≤ (ji17)) = true := decide_eq_true c18
            clear c18
            by_cases c19 : (ji17) < (l0.length : Int)
            ·rw [if_pos c19] at H
             have c19b0 : decide ((ji17) < (l0.length : Int)) = true := decide_eq_true c19
             clear c19
             replace H := Option.bind_eq_some_iff.mp H
             obtain ⟨⟨t208, t209, t210⟩, A200, H⟩ := H
             replace H : (if t210 = true then (impl_PartitionValid.l0 k2 l0 l0 (l0.length : Int) (wrap64 (x34_2 + 1))) else (some false)) = some r := H
             have A20 := Aside0.mk A200
             clear A200
             by_cases c21 : t210 = true
             ·subst c21
              have H1 : (impl_PartitionValid.l0 k2 l0 l0 (l0.length : Int) (wrap64 (x34_2 + 1))) = some r := by rw [if_pos rfl] at H; exact H
              clear H
              have H := H1
              clear H1
              have H' := Aside0.mk H
              clear H
              have p204 : 0 ≤ (x34_2 : Int) := of_decide_eq_true (by first | (with_reducible assumption) | assumption)
              have q204 : x34_2 < (l0.length : Int) := of_decide_eq_true (by first | (with_reducible assumption) | assumption)
              obtain ⟨ad204, e204, hx204_0, hx204_1⟩ := at_T76 HR0.out x34_2 p204 q204
              cases e204
              replace hx204_0 := (HB.out.cell (World.block_lt_of_cell? w _ hx204_0)).trans hx204_0
              replace hx204_1 := (HB.out.cell (World.block_lt_of_cell? w _ hx204_1)).trans hx204_1
              replace p204 := eq_true p204
              replace q204 := eq_true q204
              try go_wp2_with (first | ((with_reducible refine gate_dst (N := 5) rfl ?_); refine box_event ?hg (N := 5) ?hd (cs := #[.string (⟨#[]⟩ : ByteArray), .string (⟨#[]⟩ : ByteArray)]) (t := 76) ?hr ?_; (case hd => rfl); (case hg => rfl); (case hr => first | (go_simp; done) | (go_simp; rfl)); intro gb205 hg w22 hbox hb; have n0_ := Aside0.mk (below_step (by exact hopb HB.out) hb); have n1_ := Aside0.mk (hbox); have n2_ := Aside0.mk ((by rw [hg]; exact (below_size (by exact hopb HB.out)) : w.heap.size ≤ gb205)); have n3_ := n2_; clear HB; have HB := n0_; have BK205 := n1_; have GW205 := n2_; have GE205 := n3_; clear n0_ n1_ n2_ n3_; clear hb hbox hg; have hcz23_0 : w22.cell? ⟨gb205, 0, none⟩ = some (.string (⟨#[]⟩ : ByteArray)) := (blk_cell BK205.out 0).trans rfl; have hcz23_1 : w22.cell? ⟨gb205, 1, none⟩ = some (.string (⟨#[]⟩ : ByteArray)) := (blk_cell BK205.out 1).trans rfl; have hfz23_0 := blk_frozen BK205.out 0; have hfz23_1 := blk_frozen BK205.out 1) | ((with_reducible refine gate_callee (f := 101) rfl ?_); refine goesL_ (some 40) rfl rfl Try.func101 (by kernel_rfl) rfl #[.agg #[.string ((rd_T76 l0 x34_2).f0), .string ((rd_T76 l0 x34_2).f1)]] rfl (by (try simp only [List.map_toArray, List.map_cons, List.map_nil]); first | done | rfl | (simp only [List.length_drop, List.length_take]; rfl)) ?_; (with_reducible refine (impl_IntervalValid.calls k2 ((rd_T76 l0 x34_2).f0) ((rd_T76 l0 x34_2).f1) true _ A14.out).mono ?_); rintro e w24 ⟨rfl, hb⟩; refine ⟨_, rfl, ?_⟩; have n0_ := Aside0.mk (blk_below (g := gb205) (o := .cells #[.string ((rd_T76 l0 x34_2).f0), .string ((rd_T76 l0 x34_2).f1)] 76 (0, 0)) (by (with_reducible repeat (first | refine kN ?_ _ | refine kD ?_ | refine kA ?_ _)); refine blk_put (cs := #[.string ((rd_T76 l0 x34_2).f0), .string (⟨#[]⟩ : ByteArray)]) ?_ 1 _ rfl; (with_reducible repeat (first | refine kN ?_ _ | refine kD ?_ | refine kA ?_ _)); refine blk_put (cs := #[.string (⟨#[]⟩ : ByteArray), .string (⟨#[]⟩ : ByteArray)]) ?_ 0 _ rfl; exact hop BK205.out) hb); have n1_ := Aside0.mk (below_step (by repeat (first | (with_reducible first | exact HB.out | apply bA | apply bN | apply bD | refine bS ?_ GE205.out) | exact HB.out)) hb); clear BK205; clear HB; have BK205 := n0_; have HB := n1_; clear n0_ n1_; (try clear hb); (try clear hb2); (try clear hk); (try clear hi)))
              have n0_ := Aside0.mk (blk_drew BK205.out)
              have n1_ := Aside0.mk (below_drew1 HB.out)
              clear BK205
              clear HB
              have BK205 := n0_
              have HB := n1_
              clear n0_ n1_
              have p207 : 0 ≤ ((ji17) : Int) := of_decide_eq_true (by first | (with_reducible assumption) | assumption)
              have q207 : (ji17) < (l0.length : Int) := of_decide_eq_true (by first | (with_reducible assumption) | assumption)
              obtain ⟨ad207, e207, hx207_0, hx207_1⟩ := at_T76 HR0.out (ji17) p207 q207
              have hw207_1 := hx207_1
              have hw207_0 := hx207_0
              obtain rfl : ad204 = ad207 := (by injection e207)
              replace hx207_0 := (HB.out.cell (World.block_lt_of_cell? w _ hx207_0)).trans hx207_0
              replace hx207_1 := (HB.out.cell (World.block_lt_of_cell? w _ hx207_1)).trans hx207_1
              replace p207 := eq_true p207
              replace q207 := eq_true q207
              refine start_ (n := 13) (S := fun w' => w'.cell? ⟨gb205, 0, none⟩ = some (.string ((rd_T76 l0 x34_2).f0)) ∧ w'.cell? ⟨gb205, 1, none⟩ = some (.string ((rd_T76 l0 x34_2).f1)) ∧ w'.cell? (ad204.add (((ji17)).toNat * 2)) = some (.string ((rd_T76 l0 (ji17)).f0)) ∧ w'.cell? ⟨(ad204.add (((ji17)).toNat * 2)).block, (ad204.add (((ji17)).toNat * 2)).off + 1, none⟩ = some (.string ((rd_T76 l0 (ji17)).f1))) (ds := []) #[false, false, false, false, false, false, false, false, false, false, false, false, false] (by kernel_rfl) rfl rfl ⟨(blk_cell BK205.out 0).trans rfl, (blk_cell BK205.out 1).trans rfl, ((HB.out.cell (World.block_lt_of_cell? w _ hw207_0)).trans hw207_0), ((HB.out.cell (World.block_lt_of_cell? w _ hw207_1)).trans hw207_1)⟩ (fun hHeld => ?_); refine with_tabW impl_PartitionValid.tab10 impl_PartitionValid.bits10 (fun HT_ HW_ => ?_)
              generalize w24.drew = w25 at BK205 HB hx207_0 hx207_1 hHeld ⊢
              refine pure_ (i := 0) (N := some 45) (v := ?_) (a' := ?_) #[true, false, false, false, false, false, false, false, false, false, false, false, false] rfl rfl (any_of HT_.out (by kernel_rfl)) (fun _ _ _ h => h) (Or.inl ⟨by rfl, ?_⟩) ?_ ?_
              rotate_left
              ·intro w'
               go_simp
               with_reducible rfl
              rotate_left
              ·simp only [Act.put, lT, lZ, lS, i64_w, i32_w]
               rfl
              refine pure_ (i := 1) (N := some 46) (v := ?_) (a' := ?_) #[true, true, false, false, false, false, false, false, false, false, false, false, false] rfl rfl (any_of HT_.out (by kernel_rfl)) (fun _ _ _ h => h) (Or.inl ⟨by rfl, ?_⟩) ?_ ?_
              rotate_left
              ·intro w'
               go_simp
               with_reducible rfl
              rotate_left
              ·simp only [Act.put, lT, lZ, lS, i64_w, i32_w]
               rfl
              refine pure_ (i := 2) (N := some 47) (v := ?_) (a' := ?_) #[true, true, true, false, false, false, false, false, false, false, false, false, false] rfl rfl (any_of HT_.out (by kernel_rfl)) (fun _ _ _ h => h) (Or.inl ⟨by rfl, ?_⟩) ?_ ?_
              rotate_left
              ·intro w'
               go_simp
               with_reducible rfl
              rotate_left
              ·simp only [Act.put, lT, lZ, lS, i64_w, i32_w]
               rfl
              refine pure_ (i := 3) (N := some 48) (v := ?_) (a' := ?_) #[true, true, true, true, false, false, false, false, false, false, false, false, false] rfl rfl (any_of HT_.out (by kernel_rfl)) (fun _ _ _ h => h) (Or.inl ⟨by rfl, ?_⟩) ?_ ?_
              rotate_left
              ·intro w'
               go_simp
               with_reducible rfl
              rotate_left
              ·simp only [Act.put, lT, lZ, lS, i64_w, i32_w]
               rfl
              refine take_ (i := 4) (N := some 49) (v := ?_) (a' := ?_) #[true, true, true, true, true, false, false, false, false, false, false, false, false] rfl rfl (take_ofW HT_.out HW_.out (by kernel_rfl)) (fun _ _ _ h => h) (Or.inl ⟨by rfl, ?_⟩) hHeld ?_ ?_
              rotate_left
              ·rintro w' ⟨s0, s1, s2, s3⟩
               go_simp
               with_reducible rfl
              rotate_left
              ·simp only [Act.put, lT, lZ, lS, i64_w, i32_w]
               rfl
              refine take_ (i := 5) (N := some 50) (v := ?_) (a' := ?_) #[true, true, true, true, true, true, false, false, false, false, false, false, false] rfl rfl (take_ofW HT_.out HW_.out (by kernel_rfl)) (fun _ _ _ h => h) (Or.inl ⟨by rfl, ?_⟩) hHeld ?_ ?_
              rotate_left
              ·rintro w' ⟨s0, s1, s2, s3⟩
               go_simp
               with_reducible rfl
              rotate_left
              ·simp only [Act.put, lT, lZ, lS, i64_w, i32_w]
               rfl
              refine join_ (σ := Nat) 2 #[true, true, true, true, true, true, true, true, true, true, true, false, false] (fun s_ => [(51, .tuple #[.agg #[.string t208, .string t209], .bool true]), (6, .pointer (some ⟨s_, 0, none⟩)), (44, .tuple #[.agg #[.string t208, .string t209], .bool true]), (52, .agg #[.string t208, .string t209]), (53, .bool true)]) (fun s_ w' => (w'.cell? ⟨gb205, 0, none⟩ = some (.string ((rd_T76 l0 x34_2).f0)) ∧ w'.cell? ⟨gb205, 1, none⟩ = some (.string ((rd_T76 l0 x34_2).f1)) ∧ w'.cell? (ad204.add (((ji17)).toNat * 2)) = some (.string ((rd_T76 l0 (ji17)).f0)) ∧ w'.cell? ⟨(ad204.add (((ji17)).toNat * 2)).block, (ad204.add (((ji17)).toNat * 2)).off + 1, none⟩ = some (.string ((rd_T76 l0 (ji17)).f1))) ∧ (w'.heap[gb205]? = some (.cells #[.string ((rd_T76 l0 x34_2).f0), .string ((rd_T76 l0 x34_2).f1)] 76 (0, 0))) ∧ (w'.heap[s_]? = some (.cells #[.string (⟨#[]⟩ : ByteArray), .string (⟨#[]⟩ : ByteArray)] 76 (0, 0))) ∧ (w.heap.size ≤ s_) ∧ (w.heap.size ≤ s_) ∧ (gb205 ≠ s_) ∧ (s_ ≠ gb205) ∧ (Below w.heap.size w w')) ?_ ?_
              rotate_left
              ·intro hCont
               refine two_ (i := 6) (j := 10) (Ni := some 51) (Nj := some 6) #[true, true, true, true, true, true, true, false, false, false, false, false, false] #[true, true, true, true, true, true, false, false, false, false, true, false, false] rfl rfl rfl rfl (two_of HT_.out (by kernel_rfl)) (by decide) (by decide) (fun K hK => ?_) (fun K hK => ?_)
               ·skip
                refine goes_ Try.func112 (by kernel_rfl) rfl #[.agg #[.string ((rd_T76 l0 (ji17)).f0), .string ((rd_T76 l0 (ji17)).f1)], .agg #[.string ((rd_T76 l0 x34_2).f0), .string ((rd_T76 l0 x34_2).f1)]] (by rfl) rfl rfl (by (try simp only [List.map_toArray, List.map_cons, List.map_nil]); first | done | (simp only [hji17]; rfl) | rfl | (simp only [List.length_drop, List.length_take]; rfl)) ?_
                with_reducible refine (impl_IntervalJoin.calls k2 ((rd_T76 l0 (ji17)).f0) ((rd_T76 l0 (ji17)).f1) ((rd_T76 l0 x34_2).f0) ((rd_T76 l0 x34_2).f1) t208 t209 true _ A20.out).mono ?_
                rintro e w26 ⟨rfl, hb⟩
                refine ⟨_, rfl, ?_⟩
                have n0_ := Aside0.mk (blk_below (hop BK205.out) hb)
                have n1_ := Aside0.mk (below_step (by repeat (first | (with_reducible first | exact HB.out | apply bA | apply bN | apply bD | refine bS ?_ GE205.out) | exact HB.out)) hb)
                clear BK205
                clear HB
                have BK205 := n0_
                have HB := n1_
                clear n0_ n1_
                (try clear hb)
                (try clear hb2)
                (try clear hk)
                (try clear hi)
                refine hK.out _ _ ⟨(blk_cell BK205.out 0).trans rfl, (blk_cell BK205.out 1).trans rfl, ((HB.out.cell (World.block_lt_of_cell? w _ hw207_0)).trans hw207_0), ((HB.out.cell (World.block_lt_of_cell? w _ hw207_1)).trans hw207_1)⟩ (fun hHeld => ?_)
                clear hK K
                refine norm_ (a' := ?_) ?_ ?_
                rotate_left
                ·show Act.put _ (some 51) _ = _
                 simp only [Act.put, lT, lZ, lS, i64_w, i32_w]
                 rfl
                refine pure_ (i := 7) (N := some 44) (v := ?_) (a' := ?_) #[true, true, true, true, true, true, true, true, false, false, false, false, false] rfl rfl (any_of HT_.out (by kernel_rfl)) (fun _ _ _ h => h) (Or.inl ⟨by rfl, ?_⟩) ?_ ?_
                rotate_left
                ·intro w'
                 go_simp
                 with_reducible rfl
                rotate_left
                ·simp only [Act.put, lT, lZ, lS, i64_w, i32_w]
                 rfl
                refine pure_ (i := 8) (N := some 52) (v := ?_) (a' := ?_) #[true, true, true, true, true, true, true, true, true, false, false, false, false] rfl rfl (any_of HT_.out (by kernel_rfl)) (fun _ _ _ h => h) (Or.inl ⟨by rfl, ?_⟩) ?_ ?_
                rotate_left
                ·intro w'
                 go_simp
                 with_reducible rfl
                rotate_left
                ·simp only [Act.put, lT, lZ, lS, i64_w, i32_w]
                 rfl
                refine pure_ (i := 9) (N := some 53) (v := ?_) (a' := ?_) #[true, true, true, true, true, true, true, true, true, true, false, false, false] rfl rfl (any_of HT_.out (by kernel_rfl)) (fun _ _ _ h => h) (Or.inl ⟨by rfl, ?_⟩) ?_ ?_
                rotate_left
                ·intro w'
                 go_simp
                 with_reducible rfl
                rotate_left
                ·simp only [Act.put, lT, lZ, lS, i64_w, i32_w]
                 rfl
                refine one_ (i := 10) (N := some 6) #[true, true, true, true, true, true, true, true, true, true, true, false, false] rfl rfl (one_of HT_.out (by kernel_rfl)) (by decide) (fun K hK => ?_)
                refine box_step ?hg (N := 6) ?hd (cs := #[.string (⟨#[]⟩ : ByteArray), .string (⟨#[]⟩ : ByteArray)]) (t := 76) ?hr ?_; (case hd => rfl); (case hg => rfl); (case hr => first | (go_simp; done) | (go_simp; rfl))
                intro gb211 hg w27 hbox hb
                have n0_ := Aside0.mk (blk_below (hop BK205.out) hb)
                have n1_ := Aside0.mk (below_step (by repeat (first | (with_reducible first | exact HB.out | apply bA | apply bN | apply bD | refine bS ?_ GE205.out) | exact HB.out)) hb)
                have n2_ := Aside0.mk (hbox)
                have n3_ := Aside0.mk ((by rw [hg]; exact (below_size (by repeat (first | (with_reducible first | exact HB.out | apply bA | apply bN | apply bD | refine bS ?_ GE205.out) | exact HB.out))) : w.heap.size ≤ gb211))
                have n4_ := n3_
                have n5_ := Aside0.mk ((by rw [hg]; exact Nat.ne_of_lt (blk_lt (hop BK205.out)) : gb205 ≠ gb211))
                have n6_ := Aside0.mk ((by rw [hg]; exact Nat.ne_of_gt (blk_lt (hop BK205.out)) : gb211 ≠ gb205))
                clear BK205
                clear HB
                have BK205 := n0_
                have HB := n1_
                have BK211 := n2_
                have GW211 := n3_
                have GE211 := n4_
                have NB205_211 := n5_
                have NB211_205 := n6_
                clear n0_ n1_ n2_ n3_ n4_ n5_ n6_
                clear hb hbox hg
                refine hK.out _ _ ⟨(blk_cell BK205.out 0).trans rfl, (blk_cell BK205.out 1).trans rfl, ((HB.out.cell (World.block_lt_of_cell? w _ hw207_0)).trans hw207_0), ((HB.out.cell (World.block_lt_of_cell? w _ hw207_1)).trans hw207_1)⟩ (fun hHeld => ?_)
                clear hK K
                refine norm_ (a' := ?_) ?_ ?_
                rotate_left
                ·show Act.put _ (some 6) _ = _
                 simp only [Act.put, lT, lZ, lS, i64_w, i32_w]
                 rfl
                exact norm_ (by simp only [putAll, Act.put, lT, lZ, lS]) (hCont (gb211) _ ⟨hHeld, (by exact hop BK205.out), (by exact hop BK211.out), GW211.out, GE211.out, NB205_211.out, NB211_205.out, (by repeat (first | (with_reducible first | exact HB.out | apply bA | apply bN | apply bD | refine bS ?_ GE205.out | refine bS ?_ GE211.out) | exact HB.out))⟩)
               ·skip
                refine box_step ?hg (N := 6) ?hd (cs := #[.string (⟨#[]⟩ : ByteArray), .string (⟨#[]⟩ : ByteArray)]) (t := 76) ?hr ?_; (case hd => rfl); (case hg => rfl); (case hr => first | (go_simp; done) | (go_simp; rfl))
                intro gb211 hg w26 hbox hb
                have n0_ := Aside0.mk (blk_below (hop BK205.out) hb)
                have n1_ := Aside0.mk (below_step (by repeat (first | (with_reducible first | exact HB.out | apply bA | apply bN | apply bD | refine bS ?_ GE205.out) | exact HB.out)) hb)
                have n2_ := Aside0.mk (hbox)
                have n3_ := Aside0.mk ((by rw [hg]; exact (below_size (by repeat (first | (with_reducible first | exact HB.out | apply bA | apply bN | apply bD | refine bS ?_ GE205.out) | exact HB.out))) : w.heap.size ≤ gb211))
                have n4_ := n3_
                have n5_ := Aside0.mk ((by rw [hg]; exact Nat.ne_of_lt (blk_lt (hop BK205.out)) : gb205 ≠ gb211))
                have n6_ := Aside0.mk ((by rw [hg]; exact Nat.ne_of_gt (blk_lt (hop BK205.out)) : gb211 ≠ gb205))
                clear BK205
                clear HB
                have BK205 := n0_
                have HB := n1_
                have BK211 := n2_
                have GW211 := n3_
                have GE211 := n4_
                have NB205_211 := n5_
                have NB211_205 := n6_
                clear n0_ n1_ n2_ n3_ n4_ n5_ n6_
                clear hb hbox hg
                refine hK.out _ _ ⟨(blk_cell BK205.out 0).trans rfl, (blk_cell BK205.out 1).trans rfl, ((HB.out.cell (World.block_lt_of_cell? w _ hw207_0)).trans hw207_0), ((HB.out.cell (World.block_lt_of_cell? w _ hw207_1)).trans hw207_1)⟩ (fun hHeld => ?_)
                clear hK K
                refine norm_ (a' := ?_) ?_ ?_
                rotate_left
                ·show Act.put _ (some 6) _ = _
                 simp only [Act.put, lT, lZ, lS, i64_w, i32_w]
                 rfl
                refine one_ (i := 6) (N := some 51) #[true, true, true, true, true, true, true, false, false, false, true, false, false] rfl rfl (one_of HT_.out (by kernel_rfl)) (by decide) (fun K hK => ?_)
                refine goes_ Try.func112 (by kernel_rfl) rfl #[.agg #[.string ((rd_T76 l0 (ji17)).f0), .string ((rd_T76 l0 (ji17)).f1)], .agg #[.string ((rd_T76 l0 x34_2).f0), .string ((rd_T76 l0 x34_2).f1)]] (by rfl) rfl rfl (by (try simp only [List.map_toArray, List.map_cons, List.map_nil]); first | done | (simp only [hji17]; rfl) | rfl | (simp only [List.length_drop, List.length_take]; rfl)) ?_
                with_reducible refine (impl_IntervalJoin.calls k2 ((rd_T76 l0 (ji17)).f0) ((rd_T76 l0 (ji17)).f1) ((rd_T76 l0 x34_2).f0) ((rd_T76 l0 x34_2).f1) t208 t209 true _ A20.out).mono ?_
                rintro e w27 ⟨rfl, hb⟩
                refine ⟨_, rfl, ?_⟩
                have n0_ := Aside0.mk (blk_below (hop BK205.out) hb)
                have n1_ := Aside0.mk (blk_below (hop BK211.out) hb)
                have n2_ := Aside0.mk (below_step (by repeat (first | (with_reducible first | exact HB.out | apply bA | apply bN | apply bD | refine bS ?_ GE205.out | refine bS ?_ GE211.out) | exact HB.out)) hb)
                clear BK205
                clear BK211
                clear HB
                have BK205 := n0_
                have BK211 := n1_
                have HB := n2_
                clear n0_ n1_ n2_
                (try clear hb)
                (try clear hb2)
                (try clear hk)
                (try clear hi)
                refine hK.out _ _ ⟨(blk_cell BK205.out 0).trans rfl, (blk_cell BK205.out 1).trans rfl, ((HB.out.cell (World.block_lt_of_cell? w _ hw207_0)).trans hw207_0), ((HB.out.cell (World.block_lt_of_cell? w _ hw207_1)).trans hw207_1)⟩ (fun hHeld => ?_)
                clear hK K
                refine norm_ (a' := ?_) ?_ ?_
                rotate_left
                ·show Act.put _ (some 51) _ = _
                 simp only [Act.put, lT, lZ, lS, i64_w, i32_w]
                 rfl
                refine pure_ (i := 7) (N := some 44) (v := ?_) (a' := ?_) #[true, true, true, true, true, true, true, true, false, false, true, false, false] rfl rfl (any_of HT_.out (by kernel_rfl)) (fun _ _ _ h => h) (Or.inl ⟨by rfl, ?_⟩) ?_ ?_
                rotate_left
                ·intro w'
                 go_simp
                 with_reducible rfl
                rotate_left
                ·simp only [Act.put, lT, lZ, lS, i64_w, i32_w]
                 rfl
                refine pure_ (i := 8) (N := some 52) (v := ?_) (a' := ?_) #[true, true, true, true, true, true, true, true, true, false, true, false, false] rfl rfl (any_of HT_.out (by kernel_rfl)) (fun _ _ _ h => h) (Or.inl ⟨by rfl, ?_⟩) ?_ ?_
                rotate_left
                ·intro w'
                 go_simp
                 with_reducible rfl
                rotate_left
                ·simp only [Act.put, lT, lZ, lS, i64_w, i32_w]
                 rfl
                refine pure_ (i := 9) (N := some 53) (v := ?_) (a' := ?_) #[true, true, true, true, true, true, true, true, true, true, true, false, false] rfl rfl (any_of HT_.out (by kernel_rfl)) (fun _ _ _ h => h) (Or.inl ⟨by rfl, ?_⟩) ?_ ?_
                rotate_left
                ·intro w'
                 go_simp
                 with_reducible rfl
                rotate_left
                ·simp only [Act.put, lT, lZ, lS, i64_w, i32_w]
                 rfl
                exact norm_ (by simp only [putAll, Act.put, lT, lZ, lS]) (hCont (gb211) _ ⟨hHeld, (by exact hop BK205.out), (by exact hop BK211.out), GW211.out, GE211.out, NB205_211.out, NB211_205.out, (by repeat (first | (with_reducible first | exact HB.out | apply bA | apply bN | apply bD | refine bS ?_ GE205.out | refine bS ?_ GE211.out) | exact HB.out))⟩)
              rintro gb211 w28 ⟨hS_, h0_, h1_, h2_, h3_, h4_, h5_, h6_⟩
              have n0_ : Aside0 (w28.heap[gb205]? = some (.cells #[.string ((rd_T76 l0 x34_2).f0), .string ((rd_T76 l0 x34_2).f1)] 76 (0, 0))) := ⟨h0_⟩
              have n1_ : Aside0 (w28.heap[gb211]? = some (.cells #[.string (⟨#[]⟩ : ByteArray), .string (⟨#[]⟩ : ByteArray)] 76 (0, 0))) := ⟨h1_⟩
              have n2_ : Aside0 (w.heap.size ≤ gb211) := ⟨h2_⟩
              have n3_ : Aside0 (w.heap.size ≤ gb211) := ⟨h3_⟩
              have n4_ : Aside0 (gb205 ≠ gb211) := ⟨h4_⟩
              have n5_ : Aside0 (gb211 ≠ gb205) := ⟨h5_⟩
              have n6_ : Aside0 (Below w.heap.size w w28) := ⟨h6_⟩
              clear BK205
              clear HB
              clear h0_ h1_ h2_ h3_ h4_ h5_ h6_
              have BK205 := n0_
              have BK211 := n1_
              have GW211 := n2_
              have GE211 := n3_
              have NB205_211 := n4_
              have NB211_205 := n5_
              have HB := n6_
              clear n0_ n1_ n2_ n3_ n4_ n5_ n6_
              have hHeld : w28.cell? ⟨gb205, 0, none⟩ = some (.string ((rd_T76 l0 x34_2).f0)) ∧ w28.cell? ⟨gb205, 1, none⟩ = some (.string ((rd_T76 l0 x34_2).f1)) ∧ w28.cell? (ad204.add (((ji17)).toNat * 2)) = some (.string ((rd_T76 l0 (ji17)).f0)) ∧ w28.cell? ⟨(ad204.add (((ji17)).toNat * 2)).block, (ad204.add (((ji17)).toNat * 2)).off + 1, none⟩ = some (.string ((rd_T76 l0 (ji17)).f1)) := hS_
              refine norm_ (a' := ?_) ?_ ?_
              rotate_left
              ·simp only [putAll, Act.put, lT, lZ, lS]
               rfl
              refine one_ (i := 11) (N := none) #[true, true, true, true, true, true, true, true, true, true, true, true, false] rfl rfl (one_of HT_.out (by kernel_rfl)) (by decide) (fun K hK => ?_)
              have hs29 : w28.cell? ⟨gb211, 0, none⟩ = some (.string (⟨#[]⟩ : ByteArray)) := (blk_cell BK211.out 0).trans rfl
              have hfs29 := blk_frozen BK211.out 0
              have hns29_0 := NB205_211.out
              have hms29_0 := NB211_205.out
              have hs30 : w28.cell? ⟨gb211, 1, none⟩ = some (.string (⟨#[]⟩ : ByteArray)) := (blk_cell BK211.out 1).trans rfl
              have hfs30 := blk_frozen BK211.out 1
              have hns30_0 := NB205_211.out
              have hms30_0 := NB211_205.out
              refine skip_ (w1 := ?_) (by rfl) rfl ?_ ?_
              rotate_left
              ·go_simp
               rfl
              refine hK.out _ _ ⟨((cell_far (p := ⟨gb211, _, none⟩) NB205_211.out _).trans (((cell_far (p := ⟨gb211, _, none⟩) NB205_211.out _).trans (hHeld.1)))), ((cell_far (p := ⟨gb211, _, none⟩) NB205_211.out _).trans (((cell_far (p := ⟨gb211, _, none⟩) NB205_211.out _).trans (hHeld.2.1)))), ((cell_far (p := ⟨gb211, _, none⟩) (by first | exact Nat.ne_of_lt (Nat.lt_of_lt_of_le (by have := World.block_lt_of_cell? _ _ hw207_0; first | rwa [add_block] at this | exact this) GW211.out) | (rw [add_block]; exact Nat.ne_of_lt (Nat.lt_of_lt_of_le (by have := World.block_lt_of_cell? _ _ hw207_0; first | rwa [add_block] at this | exact this) GW211.out)) | (show (Addr.add _ _).block ≠ _; rw [add_block]; exact Nat.ne_of_lt (Nat.lt_of_lt_of_le (by have := World.block_lt_of_cell? _ _ hw207_0; first | rwa [add_block] at this | exact this) GW211.out)) | (dsimp only; exact Nat.ne_of_lt (Nat.lt_of_lt_of_le (by have := World.block_lt_of_cell? _ _ hw207_0; first | rwa [add_block] at this | exact this) GW211.out))) _).trans (((cell_far (p := ⟨gb211, _, none⟩) (by first | exact Nat.ne_of_lt (Nat.lt_of_lt_of_le (by have := World.block_lt_of_cell? _ _ hw207_0; first | rwa [add_block] at this | exact this) GW211.out) | (rw [add_block]; exact Nat.ne_of_lt (Nat.lt_of_lt_of_le (by have := World.block_lt_of_cell? _ _ hw207_0; first | rwa [add_block] at this | exact this) GW211.out)) | (show (Addr.add _ _).block ≠ _; rw [add_block]; exact Nat.ne_of_lt (Nat.lt_of_lt_of_le (by have := World.block_lt_of_cell? _ _ hw207_0; first | rwa [add_block] at this | exact this) GW211.out)) | (dsimp only; exact Nat.ne_of_lt (Nat.lt_of_lt_of_le (by have := World.block_lt_of_cell? _ _ hw207_0; first | rwa [add_block] at this | exact this) GW211.out))) _).trans (hHeld.2.2.1)))), ((cell_far (p := ⟨gb211, _, none⟩) (by first | exact Nat.ne_of_lt (Nat.lt_of_lt_of_le (by have := World.block_lt_of_cell? _ _ hw207_1; first | rwa [add_block] at this | exact this) GW211.out) | (rw [add_block]; exact Nat.ne_of_lt (Nat.lt_of_lt_of_le (by have := World.block_lt_of_cell? _ _ hw207_1; first | rwa [add_block] at this | exact this) GW211.out)) | (show (Addr.add _ _).block ≠ _; rw [add_block]; exact Nat.ne_of_lt (Nat.lt_of_lt_of_le (by have := World.block_lt_of_cell? _ _ hw207_1; first | rwa [add_block] at this | exact this) GW211.out)) | (dsimp only; exact Nat.ne_of_lt (Nat.lt_of_lt_of_le (by have := World.block_lt_of_cell? _ _ hw207_1; first | rwa [add_block] at this | exact this) GW211.out))) _).trans (((cell_far (p := ⟨gb211, _, none⟩) (by first | exact Nat.ne_of_lt (Nat.lt_of_lt_of_le (by have := World.block_lt_of_cell? _ _ hw207_1; first | rwa [add_block] at this | exact this) GW211.out) | (rw [add_block]; exact Nat.ne_of_lt (Nat.lt_of_lt_of_le (by have := World.block_lt_of_cell? _ _ hw207_1; first | rwa [add_block] at this | exact this) GW211.out)) | (show (Addr.add _ _).block ≠ _; rw [add_block]; exact Nat.ne_of_lt (Nat.lt_of_lt_of_le (by have := World.block_lt_of_cell? _ _ hw207_1; first | rwa [add_block] at this | exact this) GW211.out)) | (dsimp only; exact Nat.ne_of_lt (Nat.lt_of_lt_of_le (by have := World.block_lt_of_cell? _ _ hw207_1; first | rwa [add_block] at this | exact this) GW211.out))) _).trans (hHeld.2.2.2))))⟩ (fun hHeld => ?_)
              clear hK K
              refine pure_ (i := 12) (N := some 7) (v := ?_) (a' := ?_) #[true, true, true, true, true, true, true, true, true, true, true, true, true] rfl rfl (any_of HT_.out (by kernel_rfl)) (fun _ _ _ h => h) (Or.inl ⟨by rfl, ?_⟩) ?_ ?_
              rotate_left
              ·intro w'
               go_simp
               with_reducible rfl
              rotate_left
              ·simp only [Act.put, lT, lZ, lS, i64_w, i32_w]
               rfl
              refine done_ (done_of HT_.out (by kernel_rfl)) ?_
              try go_wp2
              go_roundg k2
              case measure => have := HJ1.out; have := HK2.out; omega
              case rel => exact ⟨(wrap64 (x34_2 + 1)), (by first | rfl | (simp; done) | (simp [bne]; done) | (simp [*]; done)), H', ⟨by have := HJ1.out; have := HK2.out; omega⟩, ⟨by repeat (first | (with_reducible first | exact HB.out | apply bA | apply bN | apply bD | refine bS ?_ GE205.out | refine bS ?_ GE211.out) | exact HB.out)⟩⟩
             ·replace c21 := Bool.eq_false_iff.mpr c21
              subst c21
              have H1 : (some false) = some r := by rw [if_neg (show ¬ (false = true) by decide)] at H; exact H
              clear H
              have H := H1
              clear H1
              obtain rfl := Option.some.inj H
              have p204 : 0 ≤ (x34_2 : Int) := of_decide_eq_true (by first | (with_reducible assumption) | assumption)
              have q204 : x34_2 < (l0.length : Int) := of_decide_eq_true (by first | (with_reducible assumption) | assumption)
              obtain ⟨ad204, e204, hx204_0, hx204_1⟩ := at_T76 HR0.out x34_2 p204 q204
              cases e204
              replace hx204_0 := (HB.out.cell (World.block_lt_of_cell? w _ hx204_0)).trans hx204_0
              replace hx204_1 := (HB.out.cell (World.block_lt_of_cell? w _ hx204_1)).trans hx204_1
              replace p204 := eq_true p204
              replace q204 := eq_true q204
              try go_wp2_with (first | ((with_reducible refine gate_dst (N := 5) rfl ?_); refine box_event ?hg (N := 5) ?hd (cs := #[.string (⟨#[]⟩ : ByteArray), .string (⟨#[]⟩ : ByteArray)]) (t := 76) ?hr ?_; (case hd => rfl); (case hg => rfl); (case hr => first | (go_simp; done) | (go_simp; rfl)); intro gb205 hg w31 hbox hb; have n0_ := Aside0.mk (below_step (by exact hopb HB.out) hb); have n1_ := Aside0.mk (hbox); have n2_ := Aside0.mk ((by rw [hg]; exact (below_size (by exact hopb HB.out)) : w.heap.size ≤ gb205)); have n3_ := n2_; clear HB; have HB := n0_; have BK205 := n1_; have GW205 := n2_; have GE205 := n3_; clear n0_ n1_ n2_ n3_; clear hb hbox hg; have hcz32_0 : w31.cell? ⟨gb205, 0, none⟩ = some (.string (⟨#[]⟩ : ByteArray)) := (blk_cell BK205.out 0).trans rfl; have hcz32_1 : w31.cell? ⟨gb205, 1, none⟩ = some (.string (⟨#[]⟩ : ByteArray)) := (blk_cell BK205.out 1).trans rfl; have hfz32_0 := blk_frozen BK205.out 0; have hfz32_1 := blk_frozen BK205.out 1) | ((with_reducible refine gate_callee (f := 101) rfl ?_); refine goesL_ (some 40) rfl rfl Try.func101 (by kernel_rfl) rfl #[.agg #[.string ((rd_T76 l0 x34_2).f0), .string ((rd_T76 l0 x34_2).f1)]] rfl (by (try simp only [List.map_toArray, List.map_cons, List.map_nil]); first | done | rfl | (simp only [List.length_drop, List.length_take]; rfl)) ?_; (with_reducible refine (impl_IntervalValid.calls k2 ((rd_T76 l0 x34_2).f0) ((rd_T76 l0 x34_2).f1) true _ A14.out).mono ?_); rintro e w33 ⟨rfl, hb⟩; refine ⟨_, rfl, ?_⟩; have n0_ := Aside0.mk (blk_below (g := gb205) (o := .cells #[.string ((rd_T76 l0 x34_2).f0), .string ((rd_T76 l0 x34_2).f1)] 76 (0, 0)) (by (with_reducible repeat (first | refine kN ?_ _ | refine kD ?_ | refine kA ?_ _)); refine blk_put (cs := #[.string ((rd_T76 l0 x34_2).f0), .string (⟨#[]⟩ : ByteArray)]) ?_ 1 _ rfl; (with_reducible repeat (first | refine kN ?_ _ | refine kD ?_ | refine kA ?_ _)); refine blk_put (cs := #[.string (⟨#[]⟩ : ByteArray), .string (⟨#[]⟩ : ByteArray)]) ?_ 0 _ rfl; exact hop BK205.out) hb); have n1_ := Aside0.mk (below_step (by repeat (first | (with_reducible first | exact HB.out | apply bA | apply bN | apply bD | refine bS ?_ GE205.out) | exact HB.out)) hb); clear BK205; clear HB; have BK205 := n0_; have HB := n1_; clear n0_ n1_; (try clear hb); (try clear hb2); (try clear hk); (try clear hi)))
              have n0_ := Aside0.mk (blk_drew BK205.out)
              have n1_ := Aside0.mk (below_drew1 HB.out)
              clear BK205
              clear HB
              have BK205 := n0_
              have HB := n1_
              clear n0_ n1_
              have p207 : 0 ≤ ((ji17) : Int) := of_decide_eq_true (by first | (with_reducible assumption) | assumption)
              have q207 : (ji17) < (l0.length : Int) := of_decide_eq_true (by first | (with_reducible assumption) | assumption)
              obtain ⟨ad207, e207, hx207_0, hx207_1⟩ := at_T76 HR0.out (ji17) p207 q207
              have hw207_1 := hx207_1
              have hw207_0 := hx207_0
              obtain rfl : ad204 = ad207 := (by injection e207)
              replace hx207_0 := (HB.out.cell (World.block_lt_of_cell? w _ hx207_0)).trans hx207_0
              replace hx207_1 := (HB.out.cell (World.block_lt_of_cell? w _ hx207_1)).trans hx207_1
              replace p207 := eq_true p207
              replace q207 := eq_true q207
              refine start_ (n := 13) (S := fun w' => w'.cell? ⟨gb205, 0, none⟩ = some (.string ((rd_T76 l0 x34_2).f0)) ∧ w'.cell? ⟨gb205, 1, none⟩ = some (.string ((rd_T76 l0 x34_2).f1)) ∧ w'.cell? (ad204.add (((ji17)).toNat * 2)) = some (.string ((rd_T76 l0 (ji17)).f0)) ∧ w'.cell? ⟨(ad204.add (((ji17)).toNat * 2)).block, (ad204.add (((ji17)).toNat * 2)).off + 1, none⟩ = some (.string ((rd_T76 l0 (ji17)).f1))) (ds := []) #[false, false, false, false, false, false, false, false, false, false, false, false, false] (by kernel_rfl) rfl rfl ⟨(blk_cell BK205.out 0).trans rfl, (blk_cell BK205.out 1).trans rfl, ((HB.out.cell (World.block_lt_of_cell? w _ hw207_0)).trans hw207_0), ((HB.out.cell (World.block_lt_of_cell? w _ hw207_1)).trans hw207_1)⟩ (fun hHeld => ?_); refine with_tabW impl_PartitionValid.tab10 impl_PartitionValid.bits10 (fun HT_ HW_ => ?_)
              generalize w33.drew = w34 at BK205 HB hx207_0 hx207_1 hHeld ⊢
              refine pure_ (i := 0) (N := some 45) (v := ?_) (a' := ?_) #[true, false, false, false, false, false, false, false, false, false, false, false, false] rfl rfl (any_of HT_.out (by kernel_rfl)) (fun _ _ _ h => h) (Or.inl ⟨by rfl, ?_⟩) ?_ ?_
              rotate_left
              ·intro w'
               go_simp
               with_reducible rfl
              rotate_left
              ·simp only [Act.put, lT, lZ, lS, i64_w, i32_w]
               rfl
              refine pure_ (i := 1) (N := some 46) (v := ?_) (a' := ?_) #[true, true, false, false, false, false, false, false, false, false, false, false, false] rfl rfl (any_of HT_.out (by kernel_rfl)) (fun _ _ _ h => h) (Or.inl ⟨by rfl, ?_⟩) ?_ ?_
              rotate_left
              ·intro w'
               go_simp
               with_reducible rfl
              rotate_left
              ·simp only [Act.put, lT, lZ, lS, i64_w, i32_w]
               rfl
              refine pure_ (i := 2) (N := some 47) (v := ?_) (a' := ?_) #[true, true, true, false, false, false, false, false, false, false, false, false, false] rfl rfl (any_of HT_.out (by kernel_rfl)) (fun _ _ _ h => h) (Or.inl ⟨by rfl, ?_⟩) ?_ ?_
              rotate_left
              ·intro w'
               go_simp
               with_reducible rfl
              rotate_left
              ·simp only [Act.put, lT, lZ, lS, i64_w, i32_w]
               rfl
              refine pure_ (i := 3) (N := some 48) (v := ?_) (a' := ?_) #[true, true, true, true, false, false, false, false, false, false, false, false, false] rfl rfl (any_of HT_.out (by kernel_rfl)) (fun _ _ _ h => h) (Or.inl ⟨by rfl, ?_⟩) ?_ ?_
              rotate_left
              ·intro w'
               go_simp
               with_reducible rfl
              rotate_left
              ·simp only [Act.put, lT, lZ, lS, i64_w, i32_w]
               rfl
              refine take_ (i := 4) (N := some 49) (v := ?_) (a' := ?_) #[true, true, true, true, true, false, false, false, false, false, false, false, false] rfl rfl (take_ofW HT_.out HW_.out (by kernel_rfl)) (fun _ _ _ h => h) (Or.inl ⟨by rfl, ?_⟩) hHeld ?_ ?_
              rotate_left
              ·rintro w' ⟨s0, s1, s2, s3⟩
               go_simp
               with_reducible rfl
              rotate_left
              ·simp only [Act.put, lT, lZ, lS, i64_w, i32_w]
               rfl
              refine take_ (i := 5) (N := some 50) (v := ?_) (a' := ?_) #[true, true, true, true, true, true, false, false, false, false, false, false, false] rfl rfl (take_ofW HT_.out HW_.out (by kernel_rfl)) (fun _ _ _ h => h) (Or.inl ⟨by rfl, ?_⟩) hHeld ?_ ?_
              rotate_left
              ·rintro w' ⟨s0, s1, s2, s3⟩
               go_simp
               with_reducible rfl
              rotate_left
              ·simp only [Act.put, lT, lZ, lS, i64_w, i32_w]
               rfl
              refine join_ (σ := Nat) 2 #[true, true, true, true, true, true, true, true, true, true, true, false, false] (fun s_ => [(51, .tuple #[.agg #[.string t208, .string t209], .bool false]), (6, .pointer (some ⟨s_, 0, none⟩)), (44, .tuple #[.agg #[.string t208, .string t209], .bool false]), (52, .agg #[.string t208, .string t209]), (53, .bool false)]) (fun s_ w' => (w'.cell? ⟨gb205, 0, none⟩ = some (.string ((rd_T76 l0 x34_2).f0)) ∧ w'.cell? ⟨gb205, 1, none⟩ = some (.string ((rd_T76 l0 x34_2).f1)) ∧ w'.cell? (ad204.add (((ji17)).toNat * 2)) = some (.string ((rd_T76 l0 (ji17)).f0)) ∧ w'.cell? ⟨(ad204.add (((ji17)).toNat * 2)).block, (ad204.add (((ji17)).toNat * 2)).off + 1, none⟩ = some (.string ((rd_T76 l0 (ji17)).f1))) ∧ (w'.heap[gb205]? = some (.cells #[.string ((rd_T76 l0 x34_2).f0), .string ((rd_T76 l0 x34_2).f1)] 76 (0, 0))) ∧ (w'.heap[s_]? = some (.cells #[.string (⟨#[]⟩ : ByteArray), .string (⟨#[]⟩ : ByteArray)] 76 (0, 0))) ∧ (w.heap.size ≤ s_) ∧ (w.heap.size ≤ s_) ∧ (gb205 ≠ s_) ∧ (s_ ≠ gb205) ∧ (Below w.heap.size w w')) ?_ ?_
              rotate_left
              ·intro hCont
               refine two_ (i := 6) (j := 10) (Ni := some 51) (Nj := some 6) #[true, true, true, true, true, true, true, false, false, false, false, false, false] #[true, true, true, true, true, true, false, false, false, false, true, false, false] rfl rfl rfl rfl (two_of HT_.out (by kernel_rfl)) (by decide) (by decide) (fun K hK => ?_) (fun K hK => ?_)
               ·skip
                refine goes_ Try.func112 (by kernel_rfl) rfl #[.agg #[.string ((rd_T76 l0 (ji17)).f0), .string ((rd_T76 l0 (ji17)).f1)], .agg #[.string ((rd_T76 l0 x34_2).f0), .string ((rd_T76 l0 x34_2).f1)]] (by rfl) rfl rfl (by (try simp only [List.map_toArray, List.map_cons, List.map_nil]); first | done | (simp only [hji17]; rfl) | rfl | (simp only [List.length_drop, List.length_take]; rfl)) ?_
                with_reducible refine (impl_IntervalJoin.calls k2 ((rd_T76 l0 (ji17)).f0) ((rd_T76 l0 (ji17)).f1) ((rd_T76 l0 x34_2).f0) ((rd_T76 l0 x34_2).f1) t208 t209 false _ A20.out).mono ?_
                rintro e w35 ⟨rfl, hb⟩
                refine ⟨_, rfl, ?_⟩
                have n0_ := Aside0.mk (blk_below (hop BK205.out) hb)
                have n1_ := Aside0.mk (below_step (by repeat (first | (with_reducible first | exact HB.out | apply bA | apply bN | apply bD | refine bS ?_ GE205.out) | exact HB.out)) hb)
                clear BK205
                clear HB
                have BK205 := n0_
                have HB := n1_
                clear n0_ n1_
                (try clear hb)
                (try clear hb2)
                (try clear hk)
                (try clear hi)
                refine hK.out _ _ ⟨(blk_cell BK205.out 0).trans rfl, (blk_cell BK205.out 1).trans rfl, ((HB.out.cell (World.block_lt_of_cell? w _ hw207_0)).trans hw207_0), ((HB.out.cell (World.block_lt_of_cell? w _ hw207_1)).trans hw207_1)⟩ (fun hHeld => ?_)
                clear hK K
                refine norm_ (a' := ?_) ?_ ?_
                rotate_left
                ·show Act.put _ (some 51) _ = _
                 simp only [Act.put, lT, lZ, lS, i64_w, i32_w]
                 rfl
                refine pure_ (i := 7) (N := some 44) (v := ?_) (a' := ?_) #[true, true, true, true, true, true, true, true, false, false, false, false, false] rfl rfl (any_of HT_.out (by kernel_rfl)) (fun _ _ _ h => h) (Or.inl ⟨by rfl, ?_⟩) ?_ ?_
                rotate_left
                ·intro w'
                 go_simp
                 with_reducible rfl
                rotate_left
                ·simp only [Act.put, lT, lZ, lS, i64_w, i32_w]
                 rfl
                refine pure_ (i := 8) (N := some 52) (v := ?_) (a' := ?_) #[true, true, true, true, true, true, true, true, true, false, false, false, false] rfl rfl (any_of HT_.out (by kernel_rfl)) (fun _ _ _ h => h) (Or.inl ⟨by rfl, ?_⟩) ?_ ?_
                rotate_left
                ·intro w'
                 go_simp
                 with_reducible rfl
                rotate_left
                ·simp only [Act.put, lT, lZ, lS, i64_w, i32_w]
                 rfl
                refine pure_ (i := 9) (N := some 53) (v := ?_) (a' := ?_) #[true, true, true, true, true, true, true, true, true, true, false, false, false] rfl rfl (any_of HT_.out (by kernel_rfl)) (fun _ _ _ h => h) (Or.inl ⟨by rfl, ?_⟩) ?_ ?_
                rotate_left
                ·intro w'
                 go_simp
                 with_reducible rfl
                rotate_left
                ·simp only [Act.put, lT, lZ, lS, i64_w, i32_w]
                 rfl
                refine one_ (i := 10) (N := some 6) #[true, true, true, true, true, true, true, true, true, true, true, false, false] rfl rfl (one_of HT_.out (by kernel_rfl)) (by decide) (fun K hK => ?_)
                refine box_step ?hg (N := 6) ?hd (cs := #[.string (⟨#[]⟩ : ByteArray), .string (⟨#[]⟩ : ByteArray)]) (t := 76) ?hr ?_; (case hd => rfl); (case hg => rfl); (case hr => first | (go_simp; done) | (go_simp; rfl))
                intro gb211 hg w36 hbox hb
                have n0_ := Aside0.mk (blk_below (hop BK205.out) hb)
                have n1_ := Aside0.mk (below_step (by repeat (first | (with_reducible first | exact HB.out | apply bA | apply bN | apply bD | refine bS ?_ GE205.out) | exact HB.out)) hb)
                have n2_ := Aside0.mk (hbox)
                have n3_ := Aside0.mk ((by rw [hg]; exact (below_size (by repeat (first | (with_reducible first | exact HB.out | apply bA | apply bN | apply bD | refine bS ?_ GE205.out) | exact HB.out))) : w.heap.size ≤ gb211))
                have n4_ := n3_
                have n5_ := Aside0.mk ((by rw [hg]; exact Nat.ne_of_lt (blk_lt (hop BK205.out)) : gb205 ≠ gb211))
                have n6_ := Aside0.mk ((by rw [hg]; exact Nat.ne_of_gt (blk_lt (hop BK205.out)) : gb211 ≠ gb205))
                clear BK205
                clear HB
                have BK205 := n0_
                have HB := n1_
                have BK211 := n2_
                have GW211 := n3_
                have GE211 := n4_
                have NB205_211 := n5_
                have NB211_205 := n6_
                clear n0_ n1_ n2_ n3_ n4_ n5_ n6_
                clear hb hbox hg
                refine hK.out _ _ ⟨(blk_cell BK205.out 0).trans rfl, (blk_cell BK205.out 1).trans rfl, ((HB.out.cell (World.block_lt_of_cell? w _ hw207_0)).trans hw207_0), ((HB.out.cell (World.block_lt_of_cell? w _ hw207_1)).trans hw207_1)⟩ (fun hHeld => ?_)
                clear hK K
                refine norm_ (a' := ?_) ?_ ?_
                rotate_left
                ·show Act.put _ (some 6) _ = _
                 simp only [Act.put, lT, lZ, lS, i64_w, i32_w]
                 rfl
                exact norm_ (by simp only [putAll, Act.put, lT, lZ, lS]) (hCont (gb211) _ ⟨hHeld, (by exact hop BK205.out), (by exact hop BK211.out), GW211.out, GE211.out, NB205_211.out, NB211_205.out, (by repeat (first | (with_reducible first | exact HB.out | apply bA | apply bN | apply bD | refine bS ?_ GE205.out | refine bS ?_ GE211.out) | exact HB.out))⟩)
               ·skip
                refine box_step ?hg (N := 6) ?hd (cs := #[.string (⟨#[]⟩ : ByteArray), .string (⟨#[]⟩ : ByteArray)]) (t := 76) ?hr ?_; (case hd => rfl); (case hg => rfl); (case hr => first | (go_simp; done) | (go_simp; rfl))
                intro gb211 hg w35 hbox hb
                have n0_ := Aside0.mk (blk_below (hop BK205.out) hb)
                have n1_ := Aside0.mk (below_step (by repeat (first | (with_reducible first | exact HB.out | apply bA | apply bN | apply bD | refine bS ?_ GE205.out) | exact HB.out)) hb)
                have n2_ := Aside0.mk (hbox)
                have n3_ := Aside0.mk ((by rw [hg]; exact (below_size (by repeat (first | (with_reducible first | exact HB.out | apply bA | apply bN | apply bD | refine bS ?_ GE205.out) | exact HB.out))) : w.heap.size ≤ gb211))
                have n4_ := n3_
                have n5_ := Aside0.mk ((by rw [hg]; exact Nat.ne_of_lt (blk_lt (hop BK205.out)) : gb205 ≠ gb211))
                have n6_ := Aside0.mk ((by rw [hg]; exact Nat.ne_of_gt (blk_lt (hop BK205.out)) : gb211 ≠ gb205))
                clear BK205
                clear HB
                have BK205 := n0_
                have HB := n1_
                have BK211 := n2_
                have GW211 := n3_
                have GE211 := n4_
                have NB205_211 := n5_
                have NB211_205 := n6_
                clear n0_ n1_ n2_ n3_ n4_ n5_ n6_
                clear hb hbox hg
                refine hK.out _ _ ⟨(blk_cell BK205.out 0).trans rfl, (blk_cell BK205.out 1).trans rfl, ((HB.out.cell (World.block_lt_of_cell? w _ hw207_0)).trans hw207_0), ((HB.out.cell (World.block_lt_of_cell? w _ hw207_1)).trans hw207_1)⟩ (fun hHeld => ?_)
                clear hK K
                refine norm_ (a' := ?_) ?_ ?_
                rotate_left
                ·show Act.put _ (some 6) _ = _
                 simp only [Act.put, lT, lZ, lS, i64_w, i32_w]
                 rfl
                refine one_ (i := 6) (N := some 51) #[true, true, true, true, true, true, true, false, false, false, true, false, false] rfl rfl (one_of HT_.out (by kernel_rfl)) (by decide) (fun K hK => ?_)
                refine goes_ Try.func112 (by kernel_rfl) rfl #[.agg #[.string ((rd_T76 l0 (ji17)).f0), .string ((rd_T76 l0 (ji17)).f1)], .agg #[.string ((rd_T76 l0 x34_2).f0), .string ((rd_T76 l0 x34_2).f1)]] (by rfl) rfl rfl (by (try simp only [List.map_toArray, List.map_cons, List.map_nil]); first | done | (simp only [hji17]; rfl) | rfl | (simp only [List.length_drop, List.length_take]; rfl)) ?_
                with_reducible refine (impl_IntervalJoin.calls k2 ((rd_T76 l0 (ji17)).f0) ((rd_T76 l0 (ji17)).f1) ((rd_T76 l0 x34_2).f0) ((rd_T76 l0 x34_2).f1) t208 t209 false _ A20.out).mono ?_
                rintro e w36 ⟨rfl, hb⟩
                refine ⟨_, rfl, ?_⟩
                have n0_ := Aside0.mk (blk_below (hop BK205.out) hb)
                have n1_ := Aside0.mk (blk_below (hop BK211.out) hb)
                have n2_ := Aside0.mk (below_step (by repeat (first | (with_reducible first | exact HB.out | apply bA | apply bN | apply bD | refine bS ?_ GE205.out | refine bS ?_ GE211.out) | exact HB.out)) hb)
                clear BK205
                clear BK211
                clear HB
                have BK205 := n0_
                have BK211 := n1_
                have HB := n2_
                clear n0_ n1_ n2_
                (try clear hb)
                (try clear hb2)
                (try clear hk)
                (try clear hi)
                refine hK.out _ _ ⟨(blk_cell BK205.out 0).trans rfl, (blk_cell BK205.out 1).trans rfl, ((HB.out.cell (World.block_lt_of_cell? w _ hw207_0)).trans hw207_0), ((HB.out.cell (World.block_lt_of_cell? w _ hw207_1)).trans hw207_1)⟩ (fun hHeld => ?_)
                clear hK K
                refine norm_ (a' := ?_) ?_ ?_
                rotate_left
                ·show Act.put _ (some 51) _ = _
                 simp only [Act.put, lT, lZ, lS, i64_w, i32_w]
                 rfl
                refine pure_ (i := 7) (N := some 44) (v := ?_) (a' := ?_) #[true, true, true, true, true, true, true, true, false, false, true, false, false] rfl rfl (any_of HT_.out (by kernel_rfl)) (fun _ _ _ h => h) (Or.inl ⟨by rfl, ?_⟩) ?_ ?_
                rotate_left
                ·intro w'
                 go_simp
                 with_reducible rfl
                rotate_left
                ·simp only [Act.put, lT, lZ, lS, i64_w, i32_w]
                 rfl
                refine pure_ (i := 8) (N := some 52) (v := ?_) (a' := ?_) #[true, true, true, true, true, true, true, true, true, false, true, false, false] rfl rfl (any_of HT_.out (by kernel_rfl)) (fun _ _ _ h => h) (Or.inl ⟨by rfl, ?_⟩) ?_ ?_
                rotate_left
                ·intro w'
                 go_simp
                 with_reducible rfl
                rotate_left
                ·simp only [Act.put, lT, lZ, lS, i64_w, i32_w]
                 rfl
                refine pure_ (i := 9) (N := some 53) (v := ?_) (a' := ?_) #[true, true, true, true, true, true, true, true, true, true, true, false, false] rfl rfl (any_of HT_.out (by kernel_rfl)) (fun _ _ _ h => h) (Or.inl ⟨by rfl, ?_⟩) ?_ ?_
                rotate_left
                ·intro w'
                 go_simp
                 with_reducible rfl
                rotate_left
                ·simp only [Act.put, lT, lZ, lS, i64_w, i32_w]
                 rfl
                exact norm_ (by simp only [putAll, Act.put, lT, lZ, lS]) (hCont (gb211) _ ⟨hHeld, (by exact hop BK205.out), (by exact hop BK211.out), GW211.out, GE211.out, NB205_211.out, NB211_205.out, (by repeat (first | (with_reducible first | exact HB.out | apply bA | apply bN | apply bD | refine bS ?_ GE205.out | refine bS ?_ GE211.out) | exact HB.out))⟩)
              rintro gb211 w37 ⟨hS_, h0_, h1_, h2_, h3_, h4_, h5_, h6_⟩
              have n0_ : Aside0 (w37.heap[gb205]? = some (.cells #[.string ((rd_T76 l0 x34_2).f0), .string ((rd_T76 l0 x34_2).f1)] 76 (0, 0))) := ⟨h0_⟩
              have n1_ : Aside0 (w37.heap[gb211]? = some (.cells #[.string (⟨#[]⟩ : ByteArray), .string (⟨#[]⟩ : ByteArray)] 76 (0, 0))) := ⟨h1_⟩
              have n2_ : Aside0 (w.heap.size ≤ gb211) := ⟨h2_⟩
              have n3_ : Aside0 (w.heap.size ≤ gb211) := ⟨h3_⟩
              have n4_ : Aside0 (gb205 ≠ gb211) := ⟨h4_⟩
              have n5_ : Aside0 (gb211 ≠ gb205) := ⟨h5_⟩
              have n6_ : Aside0 (Below w.heap.size w w37) := ⟨h6_⟩
              clear BK205
              clear HB
              clear h0_ h1_ h2_ h3_ h4_ h5_ h6_
              have BK205 := n0_
              have BK211 := n1_
              have GW211 := n2_
              have GE211 := n3_
              have NB205_211 := n4_
              have NB211_205 := n5_
              have HB := n6_
              clear n0_ n1_ n2_ n3_ n4_ n5_ n6_
              have hHeld : w37.cell? ⟨gb205, 0, none⟩ = some (.string ((rd_T76 l0 x34_2).f0)) ∧ w37.cell? ⟨gb205, 1, none⟩ = some (.string ((rd_T76 l0 x34_2).f1)) ∧ w37.cell? (ad204.add (((ji17)).toNat * 2)) = some (.string ((rd_T76 l0 (ji17)).f0)) ∧ w37.cell? ⟨(ad204.add (((ji17)).toNat * 2)).block, (ad204.add (((ji17)).toNat * 2)).off + 1, none⟩ = some (.string ((rd_T76 l0 (ji17)).f1)) := hS_
              refine norm_ (a' := ?_) ?_ ?_
              rotate_left
              ·simp only [putAll, Act.put, lT, lZ, lS]
               rfl
              refine one_ (i := 11) (N := none) #[true, true, true, true, true, true, true, true, true, true, true, true, false] rfl rfl (one_of HT_.out (by kernel_rfl)) (by decide) (fun K hK => ?_)
              have hs38 : w37.cell? ⟨gb211, 0, none⟩ = some (.string (⟨#[]⟩ : ByteArray)) := (blk_cell BK211.out 0).trans rfl
              have hfs38 := blk_frozen BK211.out 0
              have hns38_0 := NB205_211.out
              have hms38_0 := NB211_205.out
              have hs39 : w37.cell? ⟨gb211, 1, none⟩ = some (.string (⟨#[]⟩ : ByteArray)) := (blk_cell BK211.out 1).trans rfl
              have hfs39 := blk_frozen BK211.out 1
              have hns39_0 := NB205_211.out
              have hms39_0 := NB211_205.out
              refine skip_ (w1 := ?_) (by rfl) rfl ?_ ?_
              rotate_left
              ·go_simp
               rfl
              refine hK.out _ _ ⟨((cell_far (p := ⟨gb211, _, none⟩) NB205_211.out _).trans (((cell_far (p := ⟨gb211, _, none⟩) NB205_211.out _).trans (hHeld.1)))), ((cell_far (p := ⟨gb211, _, none⟩) NB205_211.out _).trans (((cell_far (p := ⟨gb211, _, none⟩) NB205_211.out _).trans (hHeld.2.1)))), ((cell_far (p := ⟨gb211, _, none⟩) (by first | exact Nat.ne_of_lt (Nat.lt_of_lt_of_le (by have := World.block_lt_of_cell? _ _ hw207_0; first | rwa [add_block] at this | exact this) GW211.out) | (rw [add_block]; exact Nat.ne_of_lt (Nat.lt_of_lt_of_le (by have := World.block_lt_of_cell? _ _ hw207_0; first | rwa [add_block] at this | exact this) GW211.out)) | (show (Addr.add _ _).block ≠ _; rw [add_block]; exact Nat.ne_of_lt (Nat.lt_of_lt_of_le (by have := World.block_lt_of_cell? _ _ hw207_0; first | rwa [add_block] at this | exact this) GW211.out)) | (dsimp only; exact Nat.ne_of_lt (Nat.lt_of_lt_of_le (by have := World.block_lt_of_cell? _ _ hw207_0; first | rwa [add_block] at this | exact this) GW211.out))) _).trans (((cell_far (p := ⟨gb211, _, none⟩) (by first | exact Nat.ne_of_lt (Nat.lt_of_lt_of_le (by have := World.block_lt_of_cell? _ _ hw207_0; first | rwa [add_block] at this | exact this) GW211.out) | (rw [add_block]; exact Nat.ne_of_lt (Nat.lt_of_lt_of_le (by have := World.block_lt_of_cell? _ _ hw207_0; first | rwa [add_block] at this | exact this) GW211.out)) | (show (Addr.add _ _).block ≠ _; rw [add_block]; exact Nat.ne_of_lt (Nat.lt_of_lt_of_le (by have := World.block_lt_of_cell? _ _ hw207_0; first | rwa [add_block] at this | exact this) GW211.out)) | (dsimp only; exact Nat.ne_of_lt (Nat.lt_of_lt_of_le (by have := World.block_lt_of_cell? _ _ hw207_0; first | rwa [add_block] at this | exact this) GW211.out))) _).trans (hHeld.2.2.1)))), ((cell_far (p := ⟨gb211, _, none⟩) (by first | exact Nat.ne_of_lt (Nat.lt_of_lt_of_le (by have := World.block_lt_of_cell? _ _ hw207_1; first | rwa [add_block] at this | exact this) GW211.out) | (rw [add_block]; exact Nat.ne_of_lt (Nat.lt_of_lt_of_le (by have := World.block_lt_of_cell? _ _ hw207_1; first | rwa [add_block] at this | exact this) GW211.out)) | (show (Addr.add _ _).block ≠ _; rw [add_block]; exact Nat.ne_of_lt (Nat.lt_of_lt_of_le (by have := World.block_lt_of_cell? _ _ hw207_1; first | rwa [add_block] at this | exact this) GW211.out)) | (dsimp only; exact Nat.ne_of_lt (Nat.lt_of_lt_of_le (by have := World.block_lt_of_cell? _ _ hw207_1; first | rwa [add_block] at this | exact this) GW211.out))) _).trans (((cell_far (p := ⟨gb211, _, none⟩) (by first | exact Nat.ne_of_lt (Nat.lt_of_lt_of_le (by have := World.block_lt_of_cell? _ _ hw207_1; first | rwa [add_block] at this | exact this) GW211.out) | (rw [add_block]; exact Nat.ne_of_lt (Nat.lt_of_lt_of_le (by have := World.block_lt_of_cell? _ _ hw207_1; first | rwa [add_block] at this | exact this) GW211.out)) | (show (Addr.add _ _).block ≠ _; rw [add_block]; exact Nat.ne_of_lt (Nat.lt_of_lt_of_le (by have := World.block_lt_of_cell? _ _ hw207_1; first | rwa [add_block] at this | exact this) GW211.out)) | (dsimp only; exact Nat.ne_of_lt (Nat.lt_of_lt_of_le (by have := World.block_lt_of_cell? _ _ hw207_1; first | rwa [add_block] at this | exact this) GW211.out))) _).trans (hHeld.2.2.2))))⟩ (fun hHeld => ?_)
              clear hK K
              refine pure_ (i := 12) (N := some 7) (v := ?_) (a' := ?_) #[true, true, true, true, true, true, true, true, true, true, true, true, true] rfl rfl (any_of HT_.out (by kernel_rfl)) (fun _ _ _ h => h) (Or.inl ⟨by rfl, ?_⟩) ?_ ?_
              rotate_left
              ·intro w'
               go_simp
               with_reducible rfl
              rotate_left
              ·simp only [Act.put, lT, lZ, lS, i64_w, i32_w]
               rfl
              refine done_ (done_of HT_.out (by kernel_rfl)) ?_
              try go_wp2
              go_ret
              exact ⟨by first | rfl | (simp only [u8_w_, w64_u8_] <;> rfl) | (simp [errW_none, errW_some] <;> rfl) | (simp only [← hji17]; first | rfl | (simp [errW_none, errW_some] <;> rfl)) | (simp [*, errW_none, errW_some] <;> rfl), by repeat (first | (with_reducible first | exact HB.out | apply bA | apply bN | apply bD | refine bS ?_ GE205.out | refine bS ?_ GE211.out) | exact HB.out)⟩
            ·rw [if_neg c19] at H
             exact absurd H (by simp)
           ·rw [if_neg c18] at H
            exact absurd H (by simp)
          ·rw [if_neg c16] at H
           have c16b0 : decide (0 < x34_2) = false := decide_eq_false c16
           clear c16
           have H' := Aside0.mk H
           clear H
           have p204 : 0 ≤ (x34_2 : Int) := of_decide_eq_true (by first | (with_reducible assumption) | assumption)
           have q204 : x34_2 < (l0.length : Int) := of_decide_eq_true (by first | (with_reducible assumption) | assumption)
           obtain ⟨ad204, e204, hx204_0, hx204_1⟩ := at_T76 HR0.out x34_2 p204 q204
           cases e204
           replace hx204_0 := (HB.out.cell (World.block_lt_of_cell? w _ hx204_0)).trans hx204_0
           replace hx204_1 := (HB.out.cell (World.block_lt_of_cell? w _ hx204_1)).trans hx204_1
           replace p204 := eq_true p204
           replace q204 := eq_true q204
           go_wp2_with (first | ((with_reducible refine gate_dst (N := 5) rfl ?_); refine box_event ?hg (N := 5) ?hd (cs := #[.string (⟨#[]⟩ : ByteArray), .string (⟨#[]⟩ : ByteArray)]) (t := 76) ?hr ?_; (case hd => rfl); (case hg => rfl); (case hr => first | (go_simp; done) | (go_simp; rfl)); intro gb205 hg w40 hbox hb; have n0_ := Aside0.mk (below_step (by exact hopb HB.out) hb); have n1_ := Aside0.mk (hbox); have n2_ := Aside0.mk ((by rw [hg]; exact (below_size (by exact hopb HB.out)) : w.heap.size ≤ gb205)); have n3_ := n2_; clear HB; have HB := n0_; have BK205 := n1_; have GW205 := n2_; have GE205 := n3_; clear n0_ n1_ n2_ n3_; clear hb hbox hg; have hcz41_0 : w40.cell? ⟨gb205, 0, none⟩ = some (.string (⟨#[]⟩ : ByteArray)) := (blk_cell BK205.out 0).trans rfl; have hcz41_1 : w40.cell? ⟨gb205, 1, none⟩ = some (.string (⟨#[]⟩ : ByteArray)) := (blk_cell BK205.out 1).trans rfl; have hfz41_0 := blk_frozen BK205.out 0; have hfz41_1 := blk_frozen BK205.out 1) | ((with_reducible refine gate_callee (f := 101) rfl ?_); refine goesL_ (some 40) rfl rfl Try.func101 (by kernel_rfl) rfl #[.agg #[.string ((rd_T76 l0 x34_2).f0), .string ((rd_T76 l0 x34_2).f1)]] rfl (by (try simp only [List.map_toArray, List.map_cons, List.map_nil]); first | done | rfl | (simp only [List.length_drop, List.length_take]; rfl)) ?_; (with_reducible refine (impl_IntervalValid.calls k2 ((rd_T76 l0 x34_2).f0) ((rd_T76 l0 x34_2).f1) true _ A14.out).mono ?_); rintro e w42 ⟨rfl, hb⟩; refine ⟨_, rfl, ?_⟩; have n0_ := Aside0.mk (blk_below (g := gb205) (o := .cells #[.string ((rd_T76 l0 x34_2).f0), .string ((rd_T76 l0 x34_2).f1)] 76 (0, 0)) (by (with_reducible repeat (first | refine kN ?_ _ | refine kD ?_ | refine kA ?_ _)); refine blk_put (cs := #[.string ((rd_T76 l0 x34_2).f0), .string (⟨#[]⟩ : ByteArray)]) ?_ 1 _ rfl; (with_reducible repeat (first | refine kN ?_ _ | refine kD ?_ | refine kA ?_ _)); refine blk_put (cs := #[.string (⟨#[]⟩ : ByteArray), .string (⟨#[]⟩ : ByteArray)]) ?_ 0 _ rfl; exact hop BK205.out) hb); have n1_ := Aside0.mk (below_step (by repeat (first | (with_reducible first | exact HB.out | apply bA | apply bN | apply bD | refine bS ?_ GE205.out) | exact HB.out)) hb); clear BK205; clear HB; have BK205 := n0_; have HB := n1_; clear n0_ n1_; (try clear hb); (try clear hb2); (try clear hk); (try clear hi)))
           go_roundg k2
           case measure => have := HJ1.out; have := HK2.out; omega
           case rel => exact ⟨(wrap64 (x34_2 + 1)), (by first | rfl | (simp; done) | (simp [bne]; done) | (simp [*]; done)), H', ⟨by have := HJ1.out; have := HK2.out; omega⟩, ⟨by repeat (first | (with_reducible first | exact HB.out | apply bA | apply bN | apply bD | refine bS ?_ GE205.out) | exact HB.out)⟩⟩
         ·replace c15 := Bool.eq_false_iff.mpr c15
          subst c15
          have H1 : (some false) = some r := by rw [if_neg (show ¬ (false = true) by decide)] at H; exact H
          clear H
          have H := H1
          clear H1
          obtain rfl := Option.some.inj H
          have p204 : 0 ≤ (x34_2 : Int) := of_decide_eq_true (by first | (with_reducible assumption) | assumption)
          have q204 : x34_2 < (l0.length : Int) := of_decide_eq_true (by first | (with_reducible assumption) | assumption)
          obtain ⟨ad204, e204, hx204_0, hx204_1⟩ := at_T76 HR0.out x34_2 p204 q204
          cases e204
          replace hx204_0 := (HB.out.cell (World.block_lt_of_cell? w _ hx204_0)).trans hx204_0
          replace hx204_1 := (HB.out.cell (World.block_lt_of_cell? w _ hx204_1)).trans hx204_1
          replace p204 := eq_true p204
          replace q204 := eq_true q204
          go_wp2_with (first | ((with_reducible refine gate_dst (N := 5) rfl ?_); refine box_event ?hg (N := 5) ?hd (cs := #[.string (⟨#[]⟩ : ByteArray), .string (⟨#[]⟩ : ByteArray)]) (t := 76) ?hr ?_; (case hd => rfl); (case hg => rfl); (case hr => first | (go_simp; done) | (go_simp; rfl)); intro gb205 hg w43 hbox hb; have n0_ := Aside0.mk (below_step (by exact hopb HB.out) hb); have n1_ := Aside0.mk (hbox); have n2_ := Aside0.mk ((by rw [hg]; exact (below_size (by exact hopb HB.out)) : w.heap.size ≤ gb205)); have n3_ := n2_; clear HB; have HB := n0_; have BK205 := n1_; have GW205 := n2_; have GE205 := n3_; clear n0_ n1_ n2_ n3_; clear hb hbox hg; have hcz44_0 : w43.cell? ⟨gb205, 0, none⟩ = some (.string (⟨#[]⟩ : ByteArray)) := (blk_cell BK205.out 0).trans rfl; have hcz44_1 : w43.cell? ⟨gb205, 1, none⟩ = some (.string (⟨#[]⟩ : ByteArray)) := (blk_cell BK205.out 1).trans rfl; have hfz44_0 := blk_frozen BK205.out 0; have hfz44_1 := blk_frozen BK205.out 1) | ((with_reducible refine gate_callee (f := 101) rfl ?_); refine goesL_ (some 40) rfl rfl Try.func101 (by kernel_rfl) rfl #[.agg #[.string ((rd_T76 l0 x34_2).f0), .string ((rd_T76 l0 x34_2).f1)]] rfl (by (try simp only [List.map_toArray, List.map_cons, List.map_nil]); first | done | rfl | (simp only [List.length_drop, List.length_take]; rfl)) ?_; (with_reducible refine (impl_IntervalValid.calls k2 ((rd_T76 l0 x34_2).f0) ((rd_T76 l0 x34_2).f1) false _ A14.out).mono ?_); rintro e w45 ⟨rfl, hb⟩; refine ⟨_, rfl, ?_⟩; have n0_ := Aside0.mk (blk_below (g := gb205) (o := .cells #[.string ((rd_T76 l0 x34_2).f0), .string ((rd_T76 l0 x34_2).f1)] 76 (0, 0)) (by (with_reducible repeat (first | refine kN ?_ _ | refine kD ?_ | refine kA ?_ _)); refine blk_put (cs := #[.string ((rd_T76 l0 x34_2).f0), .string (⟨#[]⟩ : ByteArray)]) ?_ 1 _ rfl; (with_reducible repeat (first | refine kN ?_ _ | refine kD ?_ | refine kA ?_ _)); refine blk_put (cs := #[.string (⟨#[]⟩ : ByteArray), .string (⟨#[]⟩ : ByteArray)]) ?_ 0 _ rfl; exact hop BK205.out) hb); have n1_ := Aside0.mk (below_step (by repeat (first | (with_reducible first | exact HB.out | apply bA | apply bN | apply bD | refine bS ?_ GE205.out) | exact HB.out)) hb); clear BK205; clear HB; have BK205 := n0_; have HB := n1_; clear n0_ n1_; (try clear hb); (try clear hb2); (try clear hk); (try clear hi)))
          go_ret
          exact ⟨by first | rfl | (simp only [u8_w_, w64_u8_] <;> rfl) | (simp [errW_none, errW_some] <;> rfl) | (simp [*, errW_none, errW_some] <;> rfl), by repeat (first | (with_reducible first | exact HB.out | apply bA | apply bN | apply bD | refine bS ?_ GE205.out) | exact HB.out)⟩
        ·rw [if_neg c13] at H
         exact absurd H (by simp)
       ·rw [if_neg c12] at H
        exact absurd H (by simp)
      ·rw [if_neg c11] at H
       have c11b0 : decide (x34_2 < (l0.length : Int)) = false := decide_eq_false c11
       clear c11
       obtain rfl := Option.some.inj H
       go_wp2
       go_ret
       exact ⟨by first | rfl | (simp only [u8_w_, w64_u8_] <;> rfl) | (simp [errW_none, errW_some] <;> rfl) | (simp [*, errW_none, errW_some] <;> rfl), by repeat (first | (with_reducible first | exact HB.out | apply bA | apply bN | apply bD) | exact HB.out)⟩

end Go.Proofs.Ytebgpbcbbjpbfaa.PFnExactPartitionSplit
