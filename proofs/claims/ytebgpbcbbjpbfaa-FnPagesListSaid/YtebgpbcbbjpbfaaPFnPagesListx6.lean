-- Written for this claim by a program of this session (wip/myprint in the proofs' repo)
import Derived.Test.YtebgpbcbbjpbfaaPFnPagesListx0
import Derived.Test.YtebgpbcbbjpbfaaPFnPagesListx3
import Derived.Test.YtebgpbcbbjpbfaaPFnPagesListx5
import Derived.Test.YtebgpbcbbjpbfaaWZip
-- slim2
namespace Go.Proofs.Ytebgpbcbbjpbfaa.PFnPagesList
open Go.RowKit Go.Proofs.YtebgpbcbbjpbfaaW.PrintWords Go.Proofs.YtebgpbcbbjpbfaaW.PrintLast Go.Proofs.YtebgpbcbbjpbfaaW.PrintMore
attribute [local go_sem] max2_int min2_int max_two min_two max_three min_three max_four min_four max2_strs min2_strs   -- for this text's walks alone
set_option linter.unusedVariables false
set_option linter.unusedSimpArgs false

/-! ### spec_PageFind: function 35 -/
mutual
def spec_PageFind.j0 : Nat → List (S64) → ByteArray → Bool → Option (Int)
 | 0, _, _, _ => none
 | k + 1, x0, x1, x19 => if x19 = true then (some (-1)) else (spec_PageFind.l0 k x0 x1 0 1)
def spec_PageFind.l0 : Nat → List (S64) → ByteArray → Int → Int → Option (Int)
 | 0, _, _, _, _ => none
 | k + 1, x0, x1, x5, x6 => if x6 < (x0.length : Int) then (if 0 ≤ x6 then (if 0 < (((rd_T64 x0 x6).f0).length : Int) then (if (Op.bytesLess (((rd_T71 ((rd_T64 x0 x6).f0) 0).f0).toList) x1.toList) = true then (spec_PageFind.l0 k x0 x1 x6 (wrap64 (x6 + 1))) else (if ((rd_T71 ((rd_T64 x0 x6).f0) 0).f0).toList = x1.toList then (spec_PageFind.l0 k x0 x1 x6 (wrap64 (x6 + 1))) else (spec_PageFind.l0 k x0 x1 x5 (wrap64 (x6 + 1))))) else (none)) else (none)) else (some x5)
end
def spec_PageFind.f (k : Nat) (l0 : List (S64)) (a1 : ByteArray) : Option (Int) := (spec_PagesValid.f k l0).bind fun t219 => (if t219 = true then ((spec_KeyValid.f k a1).bind fun t220 => (if t220 = true then (spec_PageFind.j0 k l0 a1 ((l0.length : Int) == 0)) else (spec_PageFind.j0 k l0 a1 true))) else (spec_PageFind.j0 k l0 a1 true))
theorem spec_PageFind.mono_l : ∀ k, (∀ y0 y1 y2, LeO (spec_PageFind.j0 k y0 y1 y2) (spec_PageFind.j0 (k + 1) y0 y1 y2)) ∧ (∀ y0 y1 y2 y3, LeO (spec_PageFind.l0 k y0 y1 y2 y3) (spec_PageFind.l0 (k + 1) y0 y1 y2 y3))
 | 0 => ⟨fun _ _ _ r h => by simp [spec_PageFind.j0] at h, fun _ _ _ _ r h => by simp [spec_PageFind.l0] at h⟩
 | k + 1 => by
  obtain ⟨ih0, ih1⟩ := spec_PageFind.mono_l k
  refine ⟨?_, ?_⟩
  ·intro y0 y1 y2
   unfold spec_PageFind.j0
   repeat' first
   | (with_reducible exact ih0 _ _ _)
   | (with_reducible exact ih1 _ _ _ _)
   | (with_reducible exact spec_KeyValid.mono _ _)
   | (with_reducible exact spec_PagesValid.mono _ _)
   | (with_reducible exact LeO.refl _)
   | (with_reducible exact LeO.none _)
   | (with_reducible refine LeO.ite ?_ ?_)
   | (with_reducible refine LeO.bind ?_ (fun _ => ?_))
   | exact ih0 _ _ _
   | exact ih1 _ _ _ _
   | exact spec_KeyValid.mono _ _
   | exact spec_PagesValid.mono _ _
   | exact LeO.none _
   | refine LeO.ite ?_ ?_
   | refine LeO.bind ?_ (fun _ => ?_)
  ·intro y0 y1 y2 y3
   unfold spec_PageFind.l0
   repeat' first
   | (with_reducible exact ih0 _ _ _)
   | (with_reducible exact ih1 _ _ _ _)
   | (with_reducible exact spec_KeyValid.mono _ _)
   | (with_reducible exact spec_PagesValid.mono _ _)
   | (with_reducible exact LeO.refl _)
   | (with_reducible exact LeO.none _)
   | (with_reducible refine LeO.ite ?_ ?_)
   | (with_reducible refine LeO.bind ?_ (fun _ => ?_))
   | exact ih0 _ _ _
   | exact ih1 _ _ _ _
   | exact spec_KeyValid.mono _ _
   | exact spec_PagesValid.mono _ _
   | exact LeO.none _
   | refine LeO.ite ?_ ?_
   | refine LeO.bind ?_ (fun _ => ?_)
theorem spec_PageFind.mono : ∀ a0 a1 k, LeO (spec_PageFind.f k a0 a1) (spec_PageFind.f (k + 1) a0 a1) := by
 intro a0 a1 k
 obtain ⟨ih0, ih1⟩ := spec_PageFind.mono_l k
 unfold spec_PageFind.f
 repeat' first
   | (with_reducible exact ih0 _ _ _)
   | (with_reducible exact ih1 _ _ _ _)
   | (with_reducible exact spec_KeyValid.mono _ _)
   | (with_reducible exact spec_PagesValid.mono _ _)
   | (with_reducible exact LeO.refl _)
   | (with_reducible exact LeO.none _)
   | (with_reducible refine LeO.ite ?_ ?_)
   | (with_reducible refine LeO.bind ?_ (fun _ => ?_))
   | exact ih0 _ _ _
   | exact ih1 _ _ _ _
   | exact spec_KeyValid.mono _ _
   | exact spec_PagesValid.mono _ _
   | exact LeO.none _
   | refine LeO.ite ?_ ?_
   | refine LeO.bind ?_ (fun _ => ?_)
set_option maxHeartbeats 8000000 in
set_option maxRecDepth 100000 in
theorem spec_PageFind.calls (k : Nat) (A0 : Option Addr) (c0 : Nat) (l0 : List (S64)) (a1 : ByteArray) (r : Int) (w : World) (hr0 : Kd.C k64 w A0 l0.length l0) (hc0 : l0.length ≤ c0) (h : spec_PageFind.f k l0 a1 = some r) :
  Calls Try.prog 35 #[.slice A0 l0.length c0, .string a1] w fun e w' => e = .returned (.int .i64 r) ∧ Below w.heap.size w w' := by
 have HR0 := ak hr0
 have HC0 := ak hc0
 clear hr0 hc0
 have HB := ak (Below.refl w.heap.size w)
 have H : ((spec_PagesValid.f k l0).bind fun t219 => (if t219 = true then ((spec_KeyValid.f k a1).bind fun t220 => (if t220 = true then (spec_PageFind.j0 k l0 a1 ((l0.length : Int) == 0)) else (spec_PageFind.j0 k l0 a1 true))) else (spec_PageFind.j0 k l0 a1 true))) = some r := h
 clear h
 have HC3 := ak H
 clear H
 go_enter Try.func35, Try.ntmps35
 go_upto_region 1 with (fail)
 go_cut [19] (fun v19 wc => ∃ (kq : Nat) (x19_2 : Bool), v19 = .bool x19_2 ∧ Aside0 (spec_PageFind.j0 kq l0 a1 x19_2 = some r) ∧ Aside0 (kq ≤ k) ∧ Aside0 (Below w.heap.size w wc))
 case first =>
  have H := HC3.out
  clear HC3
  replace H := Option.bind_eq_some_iff.mp H
  obtain ⟨t219, A40, H⟩ := H
  try dsimp only at H
  have A4 := ak A40
  clear A40
  by_cases c5 : t219 = true
  ·subst c5
   rw [if_pos rfl] at H
   replace H := Option.bind_eq_some_iff.mp H
   obtain ⟨t220, A60, H⟩ := H
   try dsimp only at H
   have A6 := ak A60
   clear A60
   by_cases c7 : t220 = true
   ·subst c7
    rw [if_pos rfl] at H
    have H' := ak H
    clear H
    go_wp2_with (first | ((with_reducible refine gate_callee (f := 32) rfl ?_); refine goesL_ (some 8) rfl rfl Try.func32 (by kernel_rfl) rfl #[.slice A0 l0.length c0] rfl (by (try simp only [List.map_toArray, List.map_cons, List.map_nil]); first | done | rfl | (simp only [List.length_drop, List.length_take]; rfl)) ?_; (with_reducible refine (spec_PagesValid.calls k _ _ l0 true _ ?side1 ?side2 A4.out).mono ?_); (case side1 => repeat (first | exact (Kd.C_below HR0.out HB.out) | (with_reducible refine Kd.C_alloc ?_ _) | (with_reducible refine Kd.C_drewN ?_ _) | (with_reducible refine Kd.C_drew ?_))); (case side2 => exact HC0.out); rintro e w8 ⟨rfl, hb⟩; refine ⟨_, rfl, ?_⟩; replace HB := ak (below_step (by exact hopb HB.out) hb); (try clear hb)) | (go_at_call 76; (with_reducible refine (spec_KeyValid.calls k a1 true _ A6.out).mono ?_); rintro e w' ⟨rfl, ⟨nd, rfl⟩⟩))
    go_meet
    case rel => exact ⟨_, (((l0.length : Int) == 0)), (by first | rfl | (simp; done) | (simp [bne]; done) | (simp [*]; done)), H', ⟨by first | omega | exact Nat.le_refl _⟩, ⟨by repeat (first | (with_reducible first | exact HB.out | apply bA | apply bN | apply bD) | exact HB.out)⟩⟩
   ·replace c7 := Bool.eq_false_iff.mpr c7
    subst c7
    rw [if_neg (show ¬ (false = true) by decide)] at H
    have H' := ak H
    clear H
    go_wp2_with (first | ((with_reducible refine gate_callee (f := 32) rfl ?_); refine goesL_ (some 8) rfl rfl Try.func32 (by kernel_rfl) rfl #[.slice A0 l0.length c0] rfl (by (try simp only [List.map_toArray, List.map_cons, List.map_nil]); first | done | rfl | (simp only [List.length_drop, List.length_take]; rfl)) ?_; (with_reducible refine (spec_PagesValid.calls k _ _ l0 true _ ?side1 ?side2 A4.out).mono ?_); (case side1 => repeat (first | exact (Kd.C_below HR0.out HB.out) | (with_reducible refine Kd.C_alloc ?_ _) | (with_reducible refine Kd.C_drewN ?_ _) | (with_reducible refine Kd.C_drew ?_))); (case side2 => exact HC0.out); rintro e w9 ⟨rfl, hb⟩; refine ⟨_, rfl, ?_⟩; replace HB := ak (below_step (by exact hopb HB.out) hb); (try clear hb)) | (go_at_call 76; (with_reducible refine (spec_KeyValid.calls k a1 false _ A6.out).mono ?_); rintro e w' ⟨rfl, ⟨nd, rfl⟩⟩))
    go_meet
    case rel => exact ⟨_, (true), (by first | rfl | (simp; done) | (simp [bne]; done) | (simp [*]; done)), H', ⟨by first | omega | exact Nat.le_refl _⟩, ⟨by repeat (first | (with_reducible first | exact HB.out | apply bA | apply bN | apply bD) | exact HB.out)⟩⟩
  ·replace c5 := Bool.eq_false_iff.mpr c5
   subst c5
   rw [if_neg (show ¬ (false = true) by decide)] at H
   have H' := ak H
   clear H
   go_wp2_with (first | ((with_reducible refine gate_callee (f := 32) rfl ?_); refine goesL_ (some 8) rfl rfl Try.func32 (by kernel_rfl) rfl #[.slice A0 l0.length c0] rfl (by (try simp only [List.map_toArray, List.map_cons, List.map_nil]); first | done | rfl | (simp only [List.length_drop, List.length_take]; rfl)) ?_; (with_reducible refine (spec_PagesValid.calls k _ _ l0 false _ ?side1 ?side2 A4.out).mono ?_); (case side1 => repeat (first | exact (Kd.C_below HR0.out HB.out) | (with_reducible refine Kd.C_alloc ?_ _) | (with_reducible refine Kd.C_drewN ?_ _) | (with_reducible refine Kd.C_drew ?_))); (case side2 => exact HC0.out); rintro e w10 ⟨rfl, hb⟩; refine ⟨_, rfl, ?_⟩; replace HB := ak (below_step (by exact hopb HB.out) hb); (try clear hb)))
   go_meet
   case rel => exact ⟨_, (true), (by first | rfl | (simp; done) | (simp [bne]; done) | (simp [*]; done)), H', ⟨by first | omega | exact Nat.le_refl _⟩, ⟨by repeat (first | (with_reducible first | exact HB.out | apply bA | apply bN | apply bD) | exact HB.out)⟩⟩
 case rest =>
  clear HC3
  try clear p2
  try clear c3
  try clear c5
  try clear c7
  obtain ⟨kq, x19_2, rfl, HA, HJ2, HB⟩ := hcut
  cases kq with
  | zero => exact absurd HA.out (by simp [spec_PageFind.j0])
  | succ kj2 =>
   have H := HA.out
   clear HA
   simp only [spec_PageFind.j0] at H
   by_cases c11 : x19_2 = true
   ·subst c11
    rw [if_pos rfl] at H
    obtain rfl := Option.some.inj H
    go_wp2
    go_ret
    exact ⟨by first | rfl | (simp only [u8_w_, w64_u8_] <;> rfl) | (simp [errW_none, errW_some] <;> rfl) | (simp [*, errW_none, errW_some] <;> rfl), by repeat (first | (with_reducible first | exact HB.out | apply bA | apply bN | apply bD) | exact HB.out)⟩
   ·replace c11 := Bool.eq_false_iff.mpr c11
    subst c11
    rw [if_neg (show ¬ (false = true) by decide)] at H
    have H' := ak H
    clear H
    go_wp2
    go_loopg [5, 6] kj2 (fun kq v5 v6 w' => ∃ (x5_2 : Int) (x6_2 : Int), v5 = .int .i64 x5_2 ∧ v6 = .int .i64 x6_2 ∧ Aside0 (spec_PageFind.l0 kq l0 a1 x5_2 x6_2 = some r) ∧ Aside0 (kq ≤ kj2) ∧ Aside0 (Below w.heap.size w w'))
    case atStart => exact ⟨(0), (1), (by first | rfl | (simp; done) | (simp [bne]; done) | (simp [*]; done)), (by first | rfl | (simp; done) | (simp [bne]; done) | (simp [*]; done)), H', ⟨Nat.le_refl _⟩, ⟨by repeat (first | (with_reducible first | exact HB.out | apply bA | apply bN | apply bD) | exact HB.out)⟩⟩
    case round =>
     clear H'
     try clear c1
     try clear p2
     try clear c3
     try clear c5
     try clear c7
     try clear c11
     try clear p2
     obtain ⟨x5_2, x6_2, rfl, rfl, HA, HK2, HB⟩ := hrel
     cases gk with
     | zero => exact absurd HA.out (by simp [spec_PageFind.l0])
     | succ k2 =>
      have H := HA.out
      clear HA
      simp only [spec_PageFind.l0] at H
      by_cases c12 : x6_2 < (l0.length : Int)
      ·rw [if_pos c12] at H
       have c12b0 : decide (x6_2 < (l0.length : Int)) = true := decide_eq_true c12
       clear c12
       by_cases c13 : 0 ≤ x6_2
       ·rw [if_pos c13] at H
        have c13b0 : decide (0 ≤ x6_2) = true := decide_eq_true c13
        clear c13
        by_cases c14 : 0 < (((rd_T64 l0 x6_2).f0).length : Int)
        ·rw [if_pos c14] at H
         have c14b0 : decide (0 < (((rd_T64 l0 x6_2).f0).length : Int)) = true := decide_eq_true c14
         have c14b1 : decide (0 < ((rd_T64 l0 x6_2).f0).length) = true := decide_eq_true (by omega)
         clear c14
         by_cases c15 : (Op.bytesLess (((rd_T71 ((rd_T64 l0 x6_2).f0) 0).f0).toList) a1.toList) = true
         ·rw [if_pos c15] at H
          have c15b0 : (Op.bytesLess (((rd_T71 ((rd_T64 l0 x6_2).f0) 0).f0).toList) a1.toList) = true := c15
          clear c15
          have H' := ak H
          clear H
          have p221 : 0 ≤ (x6_2 : Int) := of_decide_eq_true (by assumption)
          have q221 : x6_2 < (l0.length : Int) := of_decide_eq_true (by assumption)
          obtain ⟨ad221, A221_0, c221_0, e221, hx221_0, hl221_0, hi221_0⟩ := at_T64 HR0.out x6_2 p221 q221
          cases e221
          replace hx221_0 := (HB.out.cell (World.block_lt_of_cell? w _ hx221_0)).trans hx221_0
          have HR221_0 := ak hi221_0
          have HC221_0 := ak hl221_0
          clear hi221_0 hl221_0
          replace p221 := eq_true p221
          replace q221 := eq_true q221
          have p222 : 0 ≤ (0 : Int) := (by omega)
          have q222 : 0 < (((rd_T64 l0 x6_2).f0).length : Int) := of_decide_eq_true (by assumption)
          obtain ⟨ad222, e222, hx222_0, hx222_1⟩ := at_T71 HR221_0.out 0 p222 q222
          cases e222
          have qi222 : (0 < ((rd_T64 l0 x6_2).f0).length) = True := eq_true (by omega)
          (try rw [show ((0 : Int)).toNat = 0 from rfl] at hx222_0)
          (try rw [show 0 * 2 = 0 from rfl] at hx222_0)
          (try rw [Addr.add_zero'] at hx222_0)
          (try rw [show ((0 : Int)).toNat = 0 from rfl] at hx222_1)
          (try rw [show 0 * 2 = 0 from rfl] at hx222_1)
          (try rw [Addr.add_zero'] at hx222_1)
          replace hx222_0 := (HB.out.cell (World.block_lt_of_cell? w _ hx222_0)).trans hx222_0
          replace hx222_1 := (HB.out.cell (World.block_lt_of_cell? w _ hx222_1)).trans hx222_1
          replace p222 := eq_true p222
          replace q222 := eq_true q222
          go_wp2
          go_roundg k2
          case measure => have := HJ2.out; have := HK2.out; omega
          case rel => exact ⟨(x6_2), (wrap64 (x6_2 + 1)), (by first | rfl | (simp; done) | (simp [bne]; done) | (simp [*]; done)), (by first | rfl | (simp; done) | (simp [bne]; done) | (simp [*]; done)), H', ⟨by have := HJ2.out; have := HK2.out; omega⟩, ⟨by repeat (first | (with_reducible first | exact HB.out | apply bA | apply bN | apply bD) | exact HB.out)⟩⟩
         ·rw [if_neg c15] at H
          have c15b0 : (Op.bytesLess (((rd_T71 ((rd_T64 l0 x6_2).f0) 0).f0).toList) a1.toList) = false := by simpa using c15
          clear c15
          by_cases c16 : ((rd_T71 ((rd_T64 l0 x6_2).f0) 0).f0).toList = a1.toList
          ·rw [if_pos c16] at H
           have c16b0 : (((rd_T71 ((rd_T64 l0 x6_2).f0) 0).f0).toList == a1.toList) = true := beq_iff_eq.mpr c16
           have c16b1 : (((rd_T71 ((rd_T64 l0 x6_2).f0) 0).f0).toList != a1.toList) = false := bne_eq_false_iff_eq.mpr c16
           clear c16
           have H' := ak H
           clear H
           have p221 : 0 ≤ (x6_2 : Int) := of_decide_eq_true (by assumption)
           have q221 : x6_2 < (l0.length : Int) := of_decide_eq_true (by assumption)
           obtain ⟨ad221, A221_0, c221_0, e221, hx221_0, hl221_0, hi221_0⟩ := at_T64 HR0.out x6_2 p221 q221
           cases e221
           replace hx221_0 := (HB.out.cell (World.block_lt_of_cell? w _ hx221_0)).trans hx221_0
           have HR221_0 := ak hi221_0
           have HC221_0 := ak hl221_0
           clear hi221_0 hl221_0
           replace p221 := eq_true p221
           replace q221 := eq_true q221
           have p222 : 0 ≤ (0 : Int) := (by omega)
           have q222 : 0 < (((rd_T64 l0 x6_2).f0).length : Int) := of_decide_eq_true (by assumption)
           obtain ⟨ad222, e222, hx222_0, hx222_1⟩ := at_T71 HR221_0.out 0 p222 q222
           cases e222
           have qi222 : (0 < ((rd_T64 l0 x6_2).f0).length) = True := eq_true (by omega)
           (try rw [show ((0 : Int)).toNat = 0 from rfl] at hx222_0)
           (try rw [show 0 * 2 = 0 from rfl] at hx222_0)
           (try rw [Addr.add_zero'] at hx222_0)
           (try rw [show ((0 : Int)).toNat = 0 from rfl] at hx222_1)
           (try rw [show 0 * 2 = 0 from rfl] at hx222_1)
           (try rw [Addr.add_zero'] at hx222_1)
           replace hx222_0 := (HB.out.cell (World.block_lt_of_cell? w _ hx222_0)).trans hx222_0
           replace hx222_1 := (HB.out.cell (World.block_lt_of_cell? w _ hx222_1)).trans hx222_1
           replace p222 := eq_true p222
           replace q222 := eq_true q222
           go_wp2
           go_roundg k2
           case measure => have := HJ2.out; have := HK2.out; omega
           case rel => exact ⟨(x6_2), (wrap64 (x6_2 + 1)), (by first | rfl | (simp; done) | (simp [bne]; done) | (simp [*]; done)), (by first | rfl | (simp; done) | (simp [bne]; done) | (simp [*]; done)), H', ⟨by have := HJ2.out; have := HK2.out; omega⟩, ⟨by repeat (first | (with_reducible first | exact HB.out | apply bA | apply bN | apply bD) | exact HB.out)⟩⟩
          ·rw [if_neg c16] at H
           have c16b0 : (((rd_T71 ((rd_T64 l0 x6_2).f0) 0).f0).toList == a1.toList) = false := beq_eq_false_iff_ne.mpr c16
           have c16b1 : (((rd_T71 ((rd_T64 l0 x6_2).f0) 0).f0).toList != a1.toList) = true := bne_iff_ne.mpr c16
           have H' := ak H
           clear H
           have p221 : 0 ≤ (x6_2 : Int) := of_decide_eq_true (by assumption)
           have q221 : x6_2 < (l0.length : Int) := of_decide_eq_true (by assumption)
           obtain ⟨ad221, A221_0, c221_0, e221, hx221_0, hl221_0, hi221_0⟩ := at_T64 HR0.out x6_2 p221 q221
           cases e221
           replace hx221_0 := (HB.out.cell (World.block_lt_of_cell? w _ hx221_0)).trans hx221_0
           have HR221_0 := ak hi221_0
           have HC221_0 := ak hl221_0
           clear hi221_0 hl221_0
           replace p221 := eq_true p221
           replace q221 := eq_true q221
           have p222 : 0 ≤ (0 : Int) := (by omega)
           have q222 : 0 < (((rd_T64 l0 x6_2).f0).length : Int) := of_decide_eq_true (by assumption)
           obtain ⟨ad222, e222, hx222_0, hx222_1⟩ := at_T71 HR221_0.out 0 p222 q222
           cases e222
           have qi222 : (0 < ((rd_T64 l0 x6_2).f0).length) = True := eq_true (by omega)
           (try rw [show ((0 : Int)).toNat = 0 from rfl] at hx222_0)
           (try rw [show 0 * 2 = 0 from rfl] at hx222_0)
           (try rw [Addr.add_zero'] at hx222_0)
           (try rw [show ((0 : Int)).toNat = 0 from rfl] at hx222_1)
           (try rw [show 0 * 2 = 0 from rfl] at hx222_1)
           (try rw [Addr.add_zero'] at hx222_1)
           replace hx222_0 := (HB.out.cell (World.block_lt_of_cell? w _ hx222_0)).trans hx222_0
           replace hx222_1 := (HB.out.cell (World.block_lt_of_cell? w _ hx222_1)).trans hx222_1
           replace p222 := eq_true p222
           replace q222 := eq_true q222
           go_wp2
           go_roundg k2
           case measure => have := HJ2.out; have := HK2.out; omega
           case rel => exact ⟨(x5_2), (wrap64 (x6_2 + 1)), (by first | rfl | (simp; done) | (simp [bne]; done) | (simp [*]; done)), (by first | rfl | (simp; done) | (simp [bne]; done) | (simp [*]; done)), H', ⟨by have := HJ2.out; have := HK2.out; omega⟩, ⟨by repeat (first | (with_reducible first | exact HB.out | apply bA | apply bN | apply bD) | exact HB.out)⟩⟩
        ·rw [if_neg c14] at H
         exact absurd H (by simp)
       ·rw [if_neg c13] at H
        exact absurd H (by simp)
      ·rw [if_neg c12] at H
       have c12b0 : decide (x6_2 < (l0.length : Int)) = false := decide_eq_false c12
       clear c12
       obtain rfl := Option.some.inj H
       go_wp2
       go_ret
       exact ⟨by first | rfl | (simp only [u8_w_, w64_u8_] <;> rfl) | (simp [errW_none, errW_some] <;> rfl) | (simp [*, errW_none, errW_some] <;> rfl), by repeat (first | (with_reducible first | exact HB.out | apply bA | apply bN | apply bD) | exact HB.out)⟩

/-! ### spec_l6Copy: function 82 -/
def spec_l6Copy.l0 : Nat → List (S64) → List (S64) → Int → Option ((List (S64)))
 | 0, _, _, _ => none
 | k + 1, x0, x3, x4 => if x4 < (x0.length : Int) then ((some (([] : List (S71)) : List (S71))).bind fun y226 => (if 0 ≤ x4 then (if y226.length + ((rd_T64 x0 x4).f0).length < 5864062014805 then (if x3.length < 5864062014805 then (spec_l6Copy.l0 k x0 (x3 ++ [(⟨(y226 ++ ((rd_T64 x0 x4).f0))⟩ : S64)]) (wrap64 (x4 + 1))) else (none)) else (none)) else (none))) else (some x3)
def spec_l6Copy.f (k : Nat) (l0 : List (S64)) : Option ((List (S64))) := spec_l6Copy.l0 k l0 (([] : List (S64))) 0
theorem spec_l6Copy.mono_l : ∀ k, (∀ y0 y1 y2, LeO (spec_l6Copy.l0 k y0 y1 y2) (spec_l6Copy.l0 (k + 1) y0 y1 y2))
 | 0 => fun _ _ _ r h => by simp [spec_l6Copy.l0] at h
 | k + 1 => by
  have ih0 := spec_l6Copy.mono_l k
  ·intro y0 y1 y2
   unfold spec_l6Copy.l0
   repeat' first
   | (with_reducible exact ih0 _ _ _)
   | (with_reducible exact LeO.refl _)
   | (with_reducible exact LeO.none _)
   | (with_reducible refine LeO.ite ?_ ?_)
   | (with_reducible refine LeO.bind ?_ (fun _ => ?_))
   | exact ih0 _ _ _
   | exact LeO.none _
   | refine LeO.ite ?_ ?_
   | refine LeO.bind ?_ (fun _ => ?_)
theorem spec_l6Copy.mono : ∀ a0 k, LeO (spec_l6Copy.f k a0) (spec_l6Copy.f (k + 1) a0) := by
 intro a0 k
 have ih0 := spec_l6Copy.mono_l k
 unfold spec_l6Copy.f
 repeat' first
   | (with_reducible exact ih0 _ _ _)
   | (with_reducible exact LeO.refl _)
   | (with_reducible exact LeO.none _)
   | (with_reducible refine LeO.ite ?_ ?_)
   | (with_reducible refine LeO.bind ?_ (fun _ => ?_))
   | exact ih0 _ _ _
   | exact LeO.none _
   | refine LeO.ite ?_ ?_
   | refine LeO.bind ?_ (fun _ => ?_)
set_option maxHeartbeats 8000000 in
set_option maxRecDepth 100000 in
theorem spec_l6Copy.calls (k : Nat) (A0 : Option Addr) (c0 : Nat) (l0 : List (S64)) (r : List (S64)) (w : World) (hr0 : Kd.C k64 w A0 l0.length l0) (hc0 : l0.length ≤ c0) (h : spec_l6Copy.f k l0 = some r) :
  Calls Try.prog 82 #[.slice A0 l0.length c0] w fun e w' => ∃ v0_ : Value, e = .returned (v0_) ∧ Kd.S k64 64 w' w.heap.size (fun _ => True) v0_ r ∧ Below w.heap.size w w' := by
 have hu64 := Try.underlying64
 have HR0 := ak hr0
 have HC0 := ak hc0
 clear hr0 hc0
 have HB := ak (Below.refl w.heap.size w)
 have H : (spec_l6Copy.l0 k l0 (([] : List (S64))) 0) = some r := h
 clear h
 obtain ⟨y223, hy223⟩ : ∃ y_ : List (S64), y_ = (([] : List (S64))) := ⟨_, rfl⟩
 replace H : (spec_l6Copy.l0 k l0 y223 0) = some r := by first | (rw [hy223]; exact H) | exact H
 have Ny223 := ak hy223
 clear hy223
 have H' := ak H
 clear H
 go_enter Try.func82, Try.ntmps82
 go_wp2_with (first | ((with_reducible refine gate_dst (N := 5) rfl ?_); refine Kd.S_lit k64 _ 64 ?hg (N := 5) ?hd (xs := ([] : List (S64))) (inner := []) (ok := fun _ => True) (okp := fun _ => True) ?hr ?hp (fun _ hk => hk) trivial (Below.refl _ _) (Nat.le_refl _) (by simp) ?_; (case hd => rfl); (case hg => rfl); (case hr => first | (go_simp; done) | (go_simp; rfl)); (case hp => exact (Reps.none _ _)); intro v224 w2 ho3 hb hg_ hnew_; clear hg_ hnew_; (first | rw [← Ny223.out] at ho3 | (simp only [Int.reduceToNat] at ho3; rw [← Ny223.out] at ho3)); have HO225 := ak (Kd.S_lower ho3 (below_size (by exact hopb HB.out))); replace HB := ak (below_step (by exact hopb HB.out) hb); clear hb ho3))
 go_loopg [3, 4] k (fun kq v3 v4 w' => ∃ (x3_1 : List (S64)) (x4_1 : Int), v4 = .int .i64 x4_1 ∧ Aside0 (spec_l6Copy.l0 kq l0 x3_1 x4_1 = some r) ∧ Aside0 (kq ≤ k) ∧ Aside0 (Kd.S k64 64 w' w.heap.size (fun _ => True) v3 x3_1) ∧ Aside0 (Below w.heap.size w w'))
 case atStart => exact ⟨(y223), (0), (by first | rfl | (simp; done) | (simp [bne]; done) | (simp [*]; done)), H', ⟨Nat.le_refl _⟩, ⟨by (with_reducible repeat (first | apply Kd.S_alloc | apply Kd.S_drewN | apply Kd.S_drew)); exact HO225.out⟩, ⟨by repeat (first | (with_reducible first | exact HB.out | apply bA | apply bN | apply bD) | exact HB.out)⟩⟩
 case round =>
  clear H'
  try clear p2
  obtain ⟨x3_1, x4_1, rfl, HA, HK1, HO_3, HB⟩ := hrel
  cases gk with
  | zero => exact absurd HA.out (by simp [spec_l6Copy.l0])
  | succ k1 =>
   have H := HA.out
   clear HA
   simp only [spec_l6Copy.l0] at H
   by_cases c4 : x4_1 < (l0.length : Int)
   ·rw [if_pos c4] at H
    have c4b0 : decide (x4_1 < (l0.length : Int)) = true := decide_eq_true c4
    clear c4
    obtain ⟨y226, hy226⟩ : ∃ y_ : List (S71), y_ = (([] : List (S71))) := ⟨_, rfl⟩
    replace H : (if 0 ≤ x4_1 then (if y226.length + ((rd_T64 l0 x4_1).f0).length < 5864062014805 then (if x3_1.length < 5864062014805 then (spec_l6Copy.l0 k1 l0 (x3_1 ++ [(⟨(y226 ++ ((rd_T64 l0 x4_1).f0))⟩ : S64)]) (wrap64 (x4_1 + 1))) else (none)) else (none)) else (none)) = some r := by first | (rw [hy226]; exact H) | exact H
    have Ny226 := ak hy226
    clear hy226
    by_cases c5 : 0 ≤ x4_1
    ·rw [if_pos c5] at H
     have c5b0 : decide (0 ≤ x4_1) = true := decide_eq_true c5
     clear c5
     by_cases c6 : y226.length + ((rd_T64 l0 x4_1).f0).length < 5864062014805
     ·rw [if_pos c6] at H
      have LMc6 := ak c6
      clear c6
      obtain ⟨y230, hy230⟩ : ∃ y_ : List (S71), y_ = (y226 ++ ((rd_T64 l0 x4_1).f0)) := ⟨_, rfl⟩
      replace H : (if x3_1.length < 5864062014805 then (spec_l6Copy.l0 k1 l0 (x3_1 ++ [(⟨y230⟩ : S64)]) (wrap64 (x4_1 + 1))) else (none)) = some r := by first | (rw [hy230]; exact H) | exact H
      have Ny230 := ak hy230
      clear hy230
      by_cases c7 : x3_1.length < 5864062014805
      ·rw [if_pos c7] at H
       have LMc7 := ak c7
       clear c7
       obtain ⟨y233, hy233⟩ : ∃ y_ : List (S64), y_ = (x3_1 ++ [(⟨y230⟩ : S64)]) := ⟨_, rfl⟩
       replace H : (spec_l6Copy.l0 k1 l0 y233 (wrap64 (x4_1 + 1))) = some r := by first | (rw [hy233]; exact H) | exact H
       have Ny233 := ak hy233
       clear hy233
       have H' := ak H
       clear H
       go_wp2_with (first | ((with_reducible refine gate_dst (N := 13) rfl ?_); refine Kd.R_lit k71 _ 71 ?hg (N := 13) ?hd (xs := ([] : List (S71))) (inner := []) (ok := fun _ => True) (okp := fun _ => True) ?hr ?hp (fun _ hk => hk) trivial (Below.refl _ _) (Nat.le_refl _) (by simp) ?_; (case hd => rfl); (case hg => rfl); (case hr => first | (go_simp; done) | (go_simp; rfl)); (case hp => exact (Reps.none _ _)); intro v227 w8 ho9 hb hg_ hnew_; clear hg_ hnew_; (first | rw [← Ny226.out] at ho9 | (simp only [Int.reduceToNat] at ho9; rw [← Ny226.out] at ho9)); replace HO_3 := ak (Kd.S_elder' (by (with_reducible repeat (first | apply Kd.S_alloc | apply Kd.S_drewN | apply Kd.S_drew)); exact HO_3.out) (Kd.R_base ho9) hb); have HO228 := ak (Kd.R_lower ho9 (below_size (by exact hopb HB.out))); replace HB := ak (below_step (by exact hopb HB.out) hb); clear hb ho9; have p229 : 0 ≤ (x4_1 : Int) := of_decide_eq_true (by assumption); have q229 : x4_1 < (l0.length : Int) := of_decide_eq_true (by assumption); obtain ⟨ad229, A229_0, c229_0, e229, hx229_0, hl229_0, hi229_0⟩ := at_T64 HR0.out x4_1 p229 q229; cases e229; replace hx229_0 := (HB.out.cell (World.block_lt_of_cell? w _ hx229_0)).trans hx229_0; have HR229_0 := ak hi229_0; have HC229_0 := ak hl229_0; clear hi229_0 hl229_0; replace p229 := eq_true p229; replace q229 := eq_true q229) | ((with_reducible refine gate_builtin (b := .append) (xs := #[.tmp 13, .tmp 18]) rfl ?_); at_builtin; refine Kd.R_append_rows k71 (w0 := w) w.heap.size rfl (.tmp 13) (.tmp 18) 32 71 (.agg #[(.string ⟨#[]⟩), (.int .i64 0)]) 24 rfl Try.underlying32 info71 rfl (by decide) (by omega) v227 y226 ((rd_T64 l0 x4_1).f0) _ _ _ (fun _ => True) (fun _ => False) rfl rfl ?aO ?aR (fun _ _ h => h) (fun _ h => h.elim) ?aF ?aB ?aS ?aL ?_; (case aR => repeat (first | exact (Kd.C_below HR229_0.out HB.out) | (with_reducible refine Kd.C_alloc ?_ _) | (with_reducible refine Kd.C_drewN ?_ _) | (with_reducible refine Kd.C_drew ?_))); (case aB => exact (by exact hopb HB.out)); (case aF => exact (fun _ _ => trivial)); (case aO => exact (by (with_reducible repeat (first | apply Kd.R_alloc | apply Kd.R_drewN | apply Kd.R_drew)); exact HO228.out)); (case aS => exact (below_size (by exact hopb HB.out))); (case aL => have := LMc6.out; omega); intro v231 w10 ho hb hg hat; rw [← Ny230.out] at ho; replace HO_3 := ak (Kd.S_after (ok := (fun _ => True)) (by (with_reducible repeat (first | apply Kd.S_alloc | apply Kd.S_drewN | apply Kd.S_drew)); exact HO_3.out) hg hat); replace HB := ak (hb); have HO232 := ak (ho); clear HO228; clear ho hb hg hat; obtain ⟨Ao11, co11, eo11⟩ := Kd.R_slice HO232.out; subst eo11) | ((with_reducible refine gate_builtin (b := .append) (xs := #[.tmp 12, .tmp 21]) rfl ?_); at_builtin; refine Kd.S_append k64 (w0 := w) w.heap.size rfl (.tmp 12) (.tmp 21) 34 64 (.agg #[(.slice none 0 0)]) 24 rfl Try.underlying34 info64 rfl (by decide) (by omega) u3 x3_1 (⟨y230⟩ : S64) [.slice Ao11 y230.length co11] (fun _ => True) (fun k_ => some k_ = (.slice Ao11 y230.length co11 : Value).ownBlock) rfl rfl ?aP (fun k_ hk_ => ((Kd.R_mono (ok' := fun k_ => ((fun _ => True)) k_ ∧ some k_ ≠ (u3 : Value).ownBlock) (Kd.R_apart' (HO232.out) (Kd.S_typed HO_3.out) (by decide)) (fun k_ hk => ⟨trivial, hk.2⟩))).1 k_ hk_.symm) ?aF ?aO ?aB ?aS ?aL ?_; (case aP => exact k64_mkM _ _ _ (⟨y230⟩ : S64) (Kd.R_mono (Kd.R_tight rfl (Kd.R_mono (ok' := fun k_ => ((fun _ => True)) k_ ∧ some k_ ≠ (u3 : Value).ownBlock) (Kd.R_apart' (HO232.out) (Kd.S_typed HO_3.out) (by decide)) (fun k_ hk => ⟨trivial, hk.2⟩))) (fun _ h_ => h_))); (case aB => exact (by exact hopb HB.out)); (case aF => exact (fun _ _ => trivial)); (case aO => exact (by (with_reducible repeat (first | apply Kd.S_alloc | apply Kd.S_drewN | apply Kd.S_drew)); exact Kd.S_mono HO_3.out (fun k_ hk => ⟨trivial, fun e_ => hk.2 e_⟩))); (case aS => exact (below_size (by exact hopb HB.out))); (case aL => have := LMc7.out; omega); intro v234 w12 ho hb hg hat; rw [← Ny233.out] at ho; replace HB := ak (hb); have HO235 := ak (ho); clear HO_3 HO232; clear ho hb hg hat))
       go_roundg k1
       case measure => have := HK1.out; omega
       case rel => exact ⟨(y233), (wrap64 (x4_1 + 1)), (by first | rfl | (simp; done) | (simp [bne]; done) | (simp [*]; done)), H', ⟨by have := HK1.out; omega⟩, ⟨by (with_reducible repeat (first | apply Kd.S_alloc | apply Kd.S_drewN | apply Kd.S_drew)); exact HO235.out⟩, ⟨by repeat (first | (with_reducible first | exact HB.out | apply bA | apply bN | apply bD) | exact HB.out)⟩⟩
      ·rw [if_neg c7] at H
       exact absurd H (by simp)
     ·rw [if_neg c6] at H
      exact absurd H (by simp)
    ·rw [if_neg c5] at H
     exact absurd H (by simp)
   ·rw [if_neg c4] at H
    have c4b0 : decide (x4_1 < (l0.length : Int)) = false := decide_eq_false c4
    clear c4
    obtain rfl := Option.some.inj H
    go_wp2
    go_ret
    exact ⟨_, by first | rfl | (simp only [u8_w_, w64_u8_] <;> rfl) | (simp [errW_none, errW_some] <;> rfl) | (simp [*, errW_none, errW_some] <;> rfl), by (with_reducible repeat (first | apply Kd.S_alloc | apply Kd.S_drewN | apply Kd.S_drew)); exact HO_3.out, by repeat (first | (with_reducible first | exact HB.out | apply bA | apply bN | apply bD) | exact HB.out)⟩

/-! ### spec_l4Place: function 107 -/
def spec_l4Place.l0 : Nat → List (S71) → ByteArray → Int → Option (Int)
 | 0, _, _, _ => none
 | k + 1, x0, x1, x5 => if x5 < (x0.length : Int) then (if 0 ≤ x5 then (if (Op.bytesLess (((rd_T71 x0 x5).f0).toList) x1.toList) = true then (spec_l4Place.l0 k x0 x1 (wrap64 (x5 + 1))) else (some x5)) else (none)) else (some x5)
def spec_l4Place.f (k : Nat) (l0 : List (S71)) (a1 : ByteArray) : Option (Int) := spec_l4Place.l0 k l0 a1 0
theorem spec_l4Place.mono_l : ∀ k, (∀ y0 y1 y2, LeO (spec_l4Place.l0 k y0 y1 y2) (spec_l4Place.l0 (k + 1) y0 y1 y2))
 | 0 => fun _ _ _ r h => by simp [spec_l4Place.l0] at h
 | k + 1 => by
  have ih0 := spec_l4Place.mono_l k
  ·intro y0 y1 y2
   unfold spec_l4Place.l0
   repeat' first
   | (with_reducible exact ih0 _ _ _)
   | (with_reducible exact LeO.refl _)
   | (with_reducible exact LeO.none _)
   | (with_reducible refine LeO.ite ?_ ?_)
   | (with_reducible refine LeO.bind ?_ (fun _ => ?_))
   | exact ih0 _ _ _
   | exact LeO.none _
   | refine LeO.ite ?_ ?_
   | refine LeO.bind ?_ (fun _ => ?_)
theorem spec_l4Place.mono : ∀ a0 a1 k, LeO (spec_l4Place.f k a0 a1) (spec_l4Place.f (k + 1) a0 a1) := by
 intro a0 a1 k
 have ih0 := spec_l4Place.mono_l k
 unfold spec_l4Place.f
 repeat' first
   | (with_reducible exact ih0 _ _ _)
   | (with_reducible exact LeO.refl _)
   | (with_reducible exact LeO.none _)
   | (with_reducible refine LeO.ite ?_ ?_)
   | (with_reducible refine LeO.bind ?_ (fun _ => ?_))
   | exact ih0 _ _ _
   | exact LeO.none _
   | refine LeO.ite ?_ ?_
   | refine LeO.bind ?_ (fun _ => ?_)
set_option maxHeartbeats 8000000 in
set_option maxRecDepth 100000 in
theorem spec_l4Place.calls (k : Nat) (A0 : Option Addr) (c0 : Nat) (l0 : List (S71)) (a1 : ByteArray) (r : Int) (w : World) (hr0 : Kd.C k71 w A0 l0.length l0) (hc0 : l0.length ≤ c0) (h : spec_l4Place.f k l0 a1 = some r) :
  Calls Try.prog 107 #[.slice A0 l0.length c0, .string a1] w fun e w' => e = .returned (.int .i64 r) ∧ Drawn0 w w' := by
 have HR0 := ak hr0
 have HC0 := ak hc0
 clear hr0 hc0
 have H : (spec_l4Place.l0 k l0 a1 0) = some r := h
 clear h
 have H' := ak H
 clear H
 go_enter Try.func107, Try.ntmps107
 go_wp2
 go_loopg [5] k (fun kq v5 w' => ∃ (x5_1 : Int), v5 = .int .i64 x5_1 ∧ Aside0 (spec_l4Place.l0 kq l0 a1 x5_1 = some r) ∧ Aside0 (kq ≤ k) ∧ Drawn0 w w')
 case atStart => exact ⟨(0), (by first | rfl | (simp; done) | (simp [bne]; done) | (simp [*]; done)), H', ⟨Nat.le_refl _⟩, by repeat (first | exact Drawn0.refl _ | apply Drawn0.step)⟩
 case round =>
  clear H'
  try clear c1
  try clear p2
  obtain ⟨x5_1, rfl, HA, HK1, ⟨m1, rfl⟩⟩ := hrel
  cases gk with
  | zero => exact absurd HA.out (by simp [spec_l4Place.l0])
  | succ k1 =>
   have H := HA.out
   clear HA
   simp only [spec_l4Place.l0] at H
   by_cases c3 : x5_1 < (l0.length : Int)
   ·rw [if_pos c3] at H
    have c3b0 : decide (x5_1 < (l0.length : Int)) = true := decide_eq_true c3
    clear c3
    by_cases c4 : 0 ≤ x5_1
    ·rw [if_pos c4] at H
     have c4b0 : decide (0 ≤ x5_1) = true := decide_eq_true c4
     clear c4
     by_cases c5 : (Op.bytesLess (((rd_T71 l0 x5_1).f0).toList) a1.toList) = true
     ·rw [if_pos c5] at H
      have c5b0 : (Op.bytesLess (((rd_T71 l0 x5_1).f0).toList) a1.toList) = true := c5
      clear c5
      have H' := ak H
      clear H
      have p236 : 0 ≤ (x5_1 : Int) := of_decide_eq_true (by assumption)
      have q236 : x5_1 < (l0.length : Int) := of_decide_eq_true (by assumption)
      obtain ⟨ad236, e236, hx236_0, hx236_1⟩ := at_T71 HR0.out x5_1 p236 q236
      cases e236
      replace p236 := eq_true p236
      replace q236 := eq_true q236
      go_wp2
      go_roundg k1
      case measure => have := HK1.out; omega
      case rel => exact ⟨(wrap64 (x5_1 + 1)), (by first | rfl | (simp; done) | (simp [bne]; done) | (simp [*]; done)), H', ⟨by have := HK1.out; omega⟩, by repeat (first | exact Drawn0.refl _ | apply Drawn0.step)⟩
     ·rw [if_neg c5] at H
      have c5b0 : (Op.bytesLess (((rd_T71 l0 x5_1).f0).toList) a1.toList) = false := by simpa using c5
      clear c5
      obtain rfl := Option.some.inj H
      have p236 : 0 ≤ (x5_1 : Int) := of_decide_eq_true (by assumption)
      have q236 : x5_1 < (l0.length : Int) := of_decide_eq_true (by assumption)
      obtain ⟨ad236, e236, hx236_0, hx236_1⟩ := at_T71 HR0.out x5_1 p236 q236
      cases e236
      replace p236 := eq_true p236
      replace q236 := eq_true q236
      go_wp2
      go_ret
      exact ⟨by first | rfl | (simp; done) | (simp [*]; done), by repeat (first | exact Drawn0.refl _ | apply Drawn0.step)⟩
    ·rw [if_neg c4] at H
     exact absurd H (by simp)
   ·rw [if_neg c3] at H
    have c3b0 : decide (x5_1 < (l0.length : Int)) = false := decide_eq_false c3
    clear c3
    obtain rfl := Option.some.inj H
    go_wp2
    go_ret
    exact ⟨by first | rfl | (simp; done) | (simp [*]; done), by repeat (first | exact Drawn0.refl _ | apply Drawn0.step)⟩

end Go.Proofs.Ytebgpbcbbjpbfaa.PFnPagesList
