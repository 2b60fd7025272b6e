-- Written for this claim by a program of this session (wip/myprint in the proofs' repo)
import Derived.Test.YtebgpbcbbjpbfaaPFnPageFindx0
import Derived.Test.YtebgpbcbbjpbfaaWZip
-- slim3
namespace Go.Proofs.Ytebgpbcbbjpbfaa.PFnPageFind
open Go.RowKit Go.Proofs.YtebgpbcbbjpbfaaW.PrintWords Go.Proofs.YtebgpbcbbjpbfaaW.PrintLast Go.Proofs.YtebgpbcbbjpbfaaW.PrintMore
attribute [local go_sem] max2_int min2_int max_two min_two max_three min_three max_four min_four max2_strs min2_strs   -- for this text's walks alone
set_option linter.unusedVariables false
set_option linter.unusedSimpArgs false

/-! ### spec_l6Mend: function 88 -/
mutual
def spec_l6Mend.j0 : Nat → List (S64) → Int → Bool → Option ((List (S64)))
 | 0, _, _, _ => none
 | k + 1, x0, x1, x19 => if x19 = true then (some (([] : List (S64)))) else (if (x0.length : Int) = 1 then (spec_l6Mend.j1 k x0 x1 true) else (if 0 ≤ x1 then (if x1 < (x0.length : Int) then (spec_l6Mend.j1 k x0 x1 (decide ((((rd_T64 x0 x1).f0).length : Int) ≥ 2))) else (none)) else (none)))
def spec_l6Mend.j1 : Nat → List (S64) → Int → Bool → Option ((List (S64)))
 | 0, _, _, _ => none
 | k + 1, x0, x1, x32 => if x32 = true then (some x0) else (if x1 = (wrap64 ((x0.length : Int) - 1)) then (spec_l6Mend.j2 k x0 x1 (wrap64 (x1 - 1))) else (spec_l6Mend.j2 k x0 x1 x1))
def spec_l6Mend.j2 : Nat → List (S64) → Int → Int → Option ((List (S64)))
 | 0, _, _, _ => none
 | k + 1, x0, x1, x5 => (some (([] : List (S71)) : List (S71))).bind fun y380 => (if 0 ≤ x5 then (if x5 < (x0.length : Int) then (if y380.length + ((rd_T64 x0 x5).f0).length < 5864062014805 then ((some (y380 ++ ((rd_T64 x0 x5).f0) : List (S71))).bind fun y384 => (if 0 ≤ (wrap64 (x5 + 1)) then (if (wrap64 (x5 + 1)) < (x0.length : Int) then (if y384.length + ((rd_T64 x0 (wrap64 (x5 + 1))).f0).length < 5864062014805 then ((some (y384 ++ ((rd_T64 x0 (wrap64 (x5 + 1))).f0) : List (S71))).bind fun y388 => (if (y388.length : Int) ≤ 4 then ((some (([] : List (S64)) : List (S64))).bind fun y391 => (if x5 ≤ (x0.length : Int) then ((some (x0.take (x5 : Int).toNat : List (S64))).bind fun y394 => (if y391.length + y394.length < 5864062014805 then ((some (y391 ++ y394 : List (S64))).bind fun y399 => (if y399.length < 5864062014805 then ((some (y399 ++ [(⟨y388⟩ : S64)] : List (S64))).bind fun y402 => (if 0 ≤ (wrap64 (x5 + 2)) then (if (wrap64 (x5 + 2)) ≤ (x0.length : Int) then ((some (x0.drop ((wrap64 (x5 + 2)) : Int).toNat : List (S64))).bind fun y405 => (if y402.length + y405.length < 5864062014805 then (some (y402 ++ y405)) else (none))) else (none)) else (none))) else (none))) else (none))) else (none))) else (if x5 = x1 then ((some (([] : List (S71)) : List (S71))).bind fun y413 => (if 2 ≤ (y388.length : Int) then ((some (y388.take 2 : List (S71))).bind fun y416 => (if y413.length + y416.length < 5864062014805 then ((some (([] : List (S71)) : List (S71))).bind fun y425 => ((some (y388.drop 2 : List (S71))).bind fun y428 => (if y425.length + y428.length < 5864062014805 then (some ((x0.set (x5 : Int).toNat (⟨(y413 ++ y416)⟩ : S64)).set ((wrap64 (x5 + 1)) : Int).toNat (⟨(y425 ++ y428)⟩ : S64))) else (none)))) else (none))) else (none))) else ((some (([] : List (S71)) : List (S71))).bind fun y437 => (if 0 ≤ (wrap64 ((y388.length : Int) - 2)) then (if (wrap64 ((y388.length : Int) - 2)) ≤ (y388.length : Int) then ((some (y388.take ((wrap64 ((y388.length : Int) - 2)) : Int).toNat : List (S71))).bind fun y440 => (if y437.length + y440.length < 5864062014805 then ((some (([] : List (S71)) : List (S71))).bind fun y449 => ((some (y388.drop ((wrap64 ((y388.length : Int) - 2)) : Int).toNat : List (S71))).bind fun y452 => (if y449.length + y452.length < 5864062014805 then (some ((x0.set (x5 : Int).toNat (⟨(y437 ++ y440)⟩ : S64)).set ((wrap64 (x5 + 1)) : Int).toNat (⟨(y449 ++ y452)⟩ : S64))) else (none)))) else (none))) else (none)) else (none)))))) else (none)) else (none)) else (none))) else (none)) else (none)) else (none))
end
def spec_l6Mend.f (k : Nat) (l0 : List (S64)) (a1 : Int) : Option ((List (S64))) := if (l0.length : Int) = 1 then (if 0 < (l0.length : Int) then (spec_l6Mend.j0 k l0 a1 ((((rd_T64 l0 0).f0).length : Int) == 0)) else (none)) else (spec_l6Mend.j0 k l0 a1 false)
theorem spec_l6Mend.mono_l : ∀ k, (∀ y0 y1 y2, LeO (spec_l6Mend.j0 k y0 y1 y2) (spec_l6Mend.j0 (k + 1) y0 y1 y2)) ∧ (∀ y0 y1 y2, LeO (spec_l6Mend.j1 k y0 y1 y2) (spec_l6Mend.j1 (k + 1) y0 y1 y2)) ∧ (∀ y0 y1 y2, LeO (spec_l6Mend.j2 k y0 y1 y2) (spec_l6Mend.j2 (k + 1) y0 y1 y2))
 | 0 => ⟨fun _ _ _ r h => by simp [spec_l6Mend.j0] at h, fun _ _ _ r h => by simp [spec_l6Mend.j1] at h, fun _ _ _ r h => by simp [spec_l6Mend.j2] at h⟩
 | k + 1 => by
  obtain ⟨ih0, ih1, ih2⟩ := spec_l6Mend.mono_l k
  refine ⟨?_, ?_, ?_⟩
  ·intro y0 y1 y2
   unfold spec_l6Mend.j0
   repeat' first
   | (with_reducible exact ih0 _ _ _)
   | (with_reducible exact ih1 _ _ _)
   | (with_reducible exact ih2 _ _ _)
   | (with_reducible exact LeO.refl _)
   | (with_reducible exact LeO.none _)
   | (with_reducible refine LeO.ite ?_ ?_)
   | (with_reducible refine LeO.bind ?_ (fun _ => ?_))
   | exact ih0 _ _ _
   | exact ih1 _ _ _
   | exact ih2 _ _ _
   | exact LeO.none _
   | refine LeO.ite ?_ ?_
   | refine LeO.bind ?_ (fun _ => ?_)
  ·intro y0 y1 y2
   unfold spec_l6Mend.j1
   repeat' first
   | (with_reducible exact ih0 _ _ _)
   | (with_reducible exact ih1 _ _ _)
   | (with_reducible exact ih2 _ _ _)
   | (with_reducible exact LeO.refl _)
   | (with_reducible exact LeO.none _)
   | (with_reducible refine LeO.ite ?_ ?_)
   | (with_reducible refine LeO.bind ?_ (fun _ => ?_))
   | exact ih0 _ _ _
   | exact ih1 _ _ _
   | exact ih2 _ _ _
   | exact LeO.none _
   | refine LeO.ite ?_ ?_
   | refine LeO.bind ?_ (fun _ => ?_)
  ·intro y0 y1 y2
   unfold spec_l6Mend.j2
   repeat' first
   | (with_reducible exact ih0 _ _ _)
   | (with_reducible exact ih1 _ _ _)
   | (with_reducible exact ih2 _ _ _)
   | (with_reducible exact LeO.refl _)
   | (with_reducible exact LeO.none _)
   | (with_reducible refine LeO.ite ?_ ?_)
   | (with_reducible refine LeO.bind ?_ (fun _ => ?_))
   | exact ih0 _ _ _
   | exact ih1 _ _ _
   | exact ih2 _ _ _
   | exact LeO.none _
   | refine LeO.ite ?_ ?_
   | refine LeO.bind ?_ (fun _ => ?_)
theorem spec_l6Mend.mono : ∀ a0 a1 k, LeO (spec_l6Mend.f k a0 a1) (spec_l6Mend.f (k + 1) a0 a1) := by
 intro a0 a1 k
 obtain ⟨ih0, ih1, ih2⟩ := spec_l6Mend.mono_l k
 unfold spec_l6Mend.f
 repeat' first
   | (with_reducible exact ih0 _ _ _)
   | (with_reducible exact ih1 _ _ _)
   | (with_reducible exact ih2 _ _ _)
   | (with_reducible exact LeO.refl _)
   | (with_reducible exact LeO.none _)
   | (with_reducible refine LeO.ite ?_ ?_)
   | (with_reducible refine LeO.bind ?_ (fun _ => ?_))
   | exact ih0 _ _ _
   | exact ih1 _ _ _
   | exact ih2 _ _ _
   | exact LeO.none _
   | refine LeO.ite ?_ ?_
   | refine LeO.bind ?_ (fun _ => ?_)
def spec_l6Mend.T8 : Bool × List (List Nat × List Nat) := (true, [([], []), ([], []), ([], []), ([1, 2], [1, 2]), ([3], [3]), ([4], [4]), ([0, 5], [0, 5]), ([], []), ([], []), ([8], [8]), ([7, 9], [7, 9]), ([10], [10]), ([11], [11]), ([6, 12, 6], [6, 12]), ([13, 13, 0, 1, 2, 3, 4, 5, 6, 7, 8, 9, 10, 11, 12, 13], [13])])
def spec_l6Mend.B8 : List Nat := [0, 0, 0, 6, 14, 30, 63, 0, 0, 256, 896, 1920, 3968, 8191, 16383]
theorem spec_l6Mend.tab8 : rtab .any (opsOf Try.f88 8) = spec_l6Mend.T8 := by kernel_rfl
theorem spec_l6Mend.bits8 : waitsOk spec_l6Mend.T8.2 spec_l6Mend.B8 = true := by kernel_rfl
set_option maxHeartbeats 8000000 in
set_option maxRecDepth 100000 in
theorem spec_l6Mend.calls (k : Nat) (P0_ : Nat → Prop) (u9000_ : Value) (l0 : List (S64)) (a1 : Int) (r : List (S64)) (w0 w : World) (hB : Below w0.heap.size w0 w) (ho0 : Kd.N k64 64 w w0.heap.size P0_ u9000_ l0) (h : spec_l6Mend.f k l0 a1 = some r) :
  Calls Try.prog 88 #[u9000_, .int .i64 a1] w fun e w' => ∃ v0_ : Value, e = .returned (v0_) ∧ Kd.N k64 64 w' w0.heap.size (fun k_ => (P0_ k_ ∨ w.heap.size ≤ k_)) v0_ r ∧ Below w0.heap.size w0 w' ∧ Kept w w' (fun k_ => P0_ k_) := by
 have hu64 := Try.underlying64
 have HO0 := ak (show Kd.N k64 64 w w0.heap.size (fun k_ => (P0_ k_ ∨ w.heap.size ≤ k_)) u9000_ l0 from Kd.N_mono ho0 (fun k_ hk => (.inl hk)))
 have HK := ak (Kept.refl w (fun k_ => P0_ k_))
 have HW0 := ak hB.size
 have HB := ak hB
 clear hB
 have H : (if (l0.length : Int) = 1 then (if 0 < (l0.length : Int) then (spec_l6Mend.j0 k l0 a1 ((((rd_T64 l0 0).f0).length : Int) == 0)) else (none)) else (spec_l6Mend.j0 k l0 a1 false)) = some r := h
 clear h
 have HC3 := ak H
 clear H
 go_enter Try.func88, Try.ntmps88
 go_upto_region 1 with (fail)
 go_cut [19] (fun v19 wc => ∃ (kq : Nat) (x19_2 : Bool), v19 = .bool x19_2 ∧ Aside0 (spec_l6Mend.j0 kq l0 a1 x19_2 = some r) ∧ Aside0 (kq ≤ k) ∧ Aside0 (Kd.N k64 64 wc w0.heap.size (fun k_ => (P0_ k_ ∨ w.heap.size ≤ k_)) u9000_ l0) ∧ Aside0 (Kept w wc (fun k_ => P0_ k_)) ∧ Aside0 (Below w0.heap.size w0 wc))
 case first =>
  have H := HC3.out
  clear HC3
  by_cases c4 : (l0.length : Int) = 1
  ·rw [if_pos c4] at H
   have c4b0 : ((l0.length : Int) == 1) = true := beq_iff_eq.mpr c4
   have c4b1 : ((l0.length : Int) != 1) = false := bne_eq_false_iff_eq.mpr c4
   clear c4
   (first | rw [c4b0] | (simp only [i64_w, i32_w]; rw [c4b0]) | skip)
   by_cases c5 : 0 < (l0.length : Int)
   ·rw [if_pos c5] at H
    have c5b0 : decide (0 < (l0.length : Int)) = true := decide_eq_true c5
    have c5b1 : decide (0 < l0.length) = true := decide_eq_true (by omega)
    clear c5
    have H' := ak H
    clear H
    obtain ⟨Ao6, co6, eo6⟩ := Kd.N_slice HO0.out
    subst eo6
    have p375 : 0 ≤ (0 : Int) := (by omega)
    have q375 : 0 < (l0.length : Int) := of_decide_eq_true (by assumption)
    obtain ⟨ad375, A375_0, c375_0, e375, hx375_0, hl375_0, hi375_0⟩ := at_T64 (Kd.N_reads' HO0.out).2.2 0 p375 q375
    cases e375
    obtain ⟨ce375, hce375, hMe375, hcc375⟩ := Kd.N_get HO0.out z64 0 p375 (by first | exact q375 | exact of_decide_eq_true (by assumption) | (have e_ := (Kd.N_reads' HO0.out).1; omega))
    obtain ⟨ua375_0, uc375_0, rfl, ul375_0, ge375_0⟩ := k64_openF hMe375
    have hv375_0 := hcc375 0 _ rfl
    rw [Nat.add_zero, show (k64).sz = 1 from rfl, Nat.mul_one] at hv375_0
    replace hv375_0 := Option.some.inj (hv375_0.symm.trans hx375_0)
    injection hv375_0 with hva_ hvn_ hvc_
    rw [hva_] at ge375_0
    rw [hvc_] at ul375_0
    have HL375_0 := ak (show Kd.V k71 71 _ w0.heap.size _ _ ((rd_T64 l0 0).f0) from Kd.V_mk ul375_0 ge375_0)
    clear hva_ hvn_ hvc_ ge375_0 ul375_0
    clear hcc375 hce375
    have qi375 : (0 < l0.length) = True := eq_true (by omega)
    (try rw [show ((0 : Int)).toNat = 0 from rfl] at hx375_0)
    (try rw [Addr.add_zero'] at hx375_0)
    have HR375_0 := ak hi375_0
    have HC375_0 := ak hl375_0
    clear hi375_0 hl375_0
    replace p375 := eq_true p375
    replace q375 := eq_true q375
    go_wp2
    go_meet
    case rel => exact ⟨_, (((((rd_T64 l0 0).f0).length : Int) == 0)), (by first | rfl | (simp; done) | (simp [bne]; done) | (simp [*]; done)), H', ⟨by first | omega | exact Nat.le_refl _⟩, ⟨by (with_reducible repeat (first | apply Kd.N_alloc | apply Kd.N_drewN | apply Kd.N_drew)); exact HO0.out⟩, ⟨by repeat (first | exact HK.out | apply Kept.alloc | apply Kept.drewN | apply Kept.drew)⟩, ⟨by exact hopb HB.out⟩⟩
   ·rw [if_neg c5] at H
    exact absurd H (by simp)
  ·rw [if_neg c4] at H
   have c4b0 : ((l0.length : Int) == 1) = false := beq_eq_false_iff_ne.mpr c4
   have c4b1 : ((l0.length : Int) != 1) = true := bne_iff_ne.mpr c4
   (first | rw [c4b0] | (simp only [i64_w, i32_w]; rw [c4b0]) | skip)
   have H' := ak H
   clear H
   obtain ⟨Ao7, co7, eo7⟩ := Kd.N_slice HO0.out
   subst eo7
   go_wp2
   go_meet
   case rel => exact ⟨_, (false), (by first | rfl | (simp; done) | (simp [bne]; done) | (simp [*]; done)), H', ⟨by first | omega | exact Nat.le_refl _⟩, ⟨by (with_reducible repeat (first | apply Kd.N_alloc | apply Kd.N_drewN | apply Kd.N_drew)); exact HO0.out⟩, ⟨by repeat (first | exact HK.out | apply Kept.alloc | apply Kept.drewN | apply Kept.drew)⟩, ⟨by exact hopb HB.out⟩⟩
 case rest =>
  clear HC3
  try clear p2
  try clear c3
  try clear p3
  try clear q3
  try clear hx3
  try clear qi3
  try clear c4
  try clear c4b0
  try clear c4b1
  try clear c5
  try clear c5b0
  try clear c5b1
  try clear hx375_0
  try clear p375
  try clear q375
  obtain ⟨kq, x19_2, rfl, HA, HJ2, HO_0, HK, HB⟩ := hcut
  cases kq with
  | zero => exact absurd HA.out (by simp [spec_l6Mend.j0])
  | succ kj2 =>
   have H := HA.out
   clear HA
   simp only [spec_l6Mend.j0] at H
   by_cases c8 : x19_2 = true
   ·subst c8
    rw [if_pos rfl] at H
    obtain ⟨y376, hy376⟩ : ∃ y_ : List (S64), y_ = (([] : List (S64))) := ⟨_, rfl⟩
    replace H : (some y376) = some r := by first | (rw [hy376]; exact H) | exact H
    have Ny376 := ak hy376
    clear hy376
    obtain rfl := Option.some.inj H
    go_wp2_with (first | ((with_reducible refine gate_dst (N := 20) rfl ?_); (try (refine gate_guard (by rfl) ?_; dsimp only)); refine Kd.N_lit k64 _ 64 ?hg (N' := 20) ?hd (xs := ([] : List (S64))) (inner := []) (ok := (fun k_ => (P0_ k_ ∨ w.heap.size ≤ k_) ∧ some k_ ≠ (u9000_ : Value).ownBlock)) (okp := (fun k_ => (P0_ k_ ∨ w.heap.size ≤ k_) ∧ some k_ ≠ (u9000_ : Value).ownBlock)) ?hr ?hp (fun _ hk => hk) ((show ∀ k_, wc.heap.size ≤ k_ → (fun k_ => (P0_ k_ ∨ w.heap.size ≤ k_) ∧ some k_ ≠ (u9000_ : Value).ownBlock) k_ from fun k_ hk => ⟨(.inr (Nat.le_trans (by first | exact HK.out.1 | exact (show Kept w _ (fun k_ => P0_ k_) from by repeat (first | exact HK.out | apply Kept.alloc | apply Kept.drewN | apply Kept.drew)).1) hk)), Kd.fresh' (Kd.N_lt (by (with_reducible repeat (first | apply Kd.N_alloc | apply Kd.N_drewN | apply Kd.N_drew)); exact HO_0.out)) k_ hk⟩) _ (Nat.le_refl _)) (Below.refl _ _) (Nat.le_refl _) (by simp) ?_; (case hd => rfl); (case hg => rfl); (case hr => first | (go_simp; done) | (go_simp; rfl)); (case hp => exact (Reps.none _ _)); intro v377 w9 ho10 hb hg_ hnew_; clear hg_ hnew_; (first | rw [← Ny376.out] at ho10 | (simp only [Int.reduceToNat] at ho10; rw [← Ny376.out] at ho10)); replace HO_0 := ak (Kd.N_elder' (by (with_reducible repeat (first | apply Kd.N_alloc | apply Kd.N_drewN | apply Kd.N_drew)); exact HO_0.out) (Kd.N_base ho10) hb); have HO378 := ak (Kd.N_lower ho10 (below_size (by exact hopb HB.out))); replace HK := ak (Kept.below (S := (fun k_ => P0_ k_)) (by repeat (first | exact HK.out | apply Kept.alloc | apply Kept.drewN | apply Kept.drew)) hb); replace HB := ak (below_step (by exact hopb HB.out) hb); clear hb ho10))
    go_ret
    exact ⟨_, by first | rfl | (simp only [u8_w_, w64_u8_] <;> rfl) | (simp [errW_none, errW_some] <;> rfl) | (simp [*, errW_none, errW_some] <;> rfl), by (with_reducible repeat (first | apply Kd.N_alloc | apply Kd.N_drewN | apply Kd.N_drew)); exact Kd.N_mono HO378.out (fun _ hk => hk.1), by exact hopb HB.out, by repeat (first | exact HK.out | apply Kept.alloc | apply Kept.drewN | apply Kept.drew)⟩
   ·replace c8 := Bool.eq_false_iff.mpr c8
    subst c8
    rw [if_neg (show ¬ (false = true) by decide)] at H
    have HC11 := ak H
    clear H
    go_upto_region 3 with (fail)
    go_cut [32] (fun v32 wc => ∃ (kq : Nat) (x32_10 : Bool), v32 = .bool x32_10 ∧ Aside0 (spec_l6Mend.j1 kq l0 a1 x32_10 = some r) ∧ Aside0 (kq ≤ kj2) ∧ Aside0 (Kd.N k64 64 wc w0.heap.size (fun k_ => (P0_ k_ ∨ w.heap.size ≤ k_)) u9000_ l0) ∧ Aside0 (Kept w wc (fun k_ => P0_ k_)) ∧ Aside0 (Below w0.heap.size w0 wc))
    case first =>
     have H := HC11.out
     clear HC11
     by_cases c12 : (l0.length : Int) = 1
     ·rw [if_pos c12] at H
      have c12b0 : ((l0.length : Int) == 1) = true := beq_iff_eq.mpr c12
      have c12b1 : ((l0.length : Int) != 1) = false := bne_eq_false_iff_eq.mpr c12
      clear c12
      (first | rw [c12b0] | (simp only [i64_w, i32_w]; rw [c12b0]) | skip)
      have H' := ak H
      clear H
      obtain ⟨Ao13, co13, eo13⟩ := Kd.N_slice HO_0.out
      subst eo13
      go_wp2
      go_meet
      case rel => exact ⟨_, (true), (by first | rfl | (simp; done) | (simp [bne]; done) | (simp [*]; done)), H', ⟨by have := HJ2.out; first | omega | exact Nat.le_refl _⟩, ⟨by (with_reducible repeat (first | apply Kd.N_alloc | apply Kd.N_drewN | apply Kd.N_drew)); exact HO_0.out⟩, ⟨by repeat (first | exact HK.out | apply Kept.alloc | apply Kept.drewN | apply Kept.drew)⟩, ⟨by exact hopb HB.out⟩⟩
     ·rw [if_neg c12] at H
      have c12b0 : ((l0.length : Int) == 1) = false := beq_eq_false_iff_ne.mpr c12
      have c12b1 : ((l0.length : Int) != 1) = true := bne_iff_ne.mpr c12
      (first | rw [c12b0] | (simp only [i64_w, i32_w]; rw [c12b0]) | skip)
      by_cases c14 : 0 ≤ a1
      ·rw [if_pos c14] at H
       have c14b0 : decide (0 ≤ a1) = true := decide_eq_true c14
       clear c14
       by_cases c15 : a1 < (l0.length : Int)
       ·rw [if_pos c15] at H
        have c15b0 : decide (a1 < (l0.length : Int)) = true := decide_eq_true c15
        clear c15
        have H' := ak H
        clear H
        obtain ⟨Ao16, co16, eo16⟩ := Kd.N_slice HO_0.out
        subst eo16
        have p379 : 0 ≤ (a1 : Int) := of_decide_eq_true (by assumption)
        have q379 : a1 < (l0.length : Int) := of_decide_eq_true (by assumption)
        obtain ⟨ad379, A379_0, c379_0, e379, hx379_0, hl379_0, hi379_0⟩ := at_T64 (Kd.N_reads' HO_0.out).2.2 a1 p379 q379
        cases e379
        obtain ⟨ce379, hce379, hMe379, hcc379⟩ := Kd.N_get HO_0.out z64 a1 p379 (by first | exact q379 | exact of_decide_eq_true (by assumption) | (have e_ := (Kd.N_reads' HO_0.out).1; omega))
        obtain ⟨ua379_0, uc379_0, rfl, ul379_0, ge379_0⟩ := k64_openF hMe379
        have hv379_0 := hcc379 0 _ rfl
        rw [Nat.add_zero, show (k64).sz = 1 from rfl, Nat.mul_one] at hv379_0
        replace hv379_0 := Option.some.inj (hv379_0.symm.trans hx379_0)
        injection hv379_0 with hva_ hvn_ hvc_
        rw [hva_] at ge379_0
        rw [hvc_] at ul379_0
        have HL379_0 := ak (show Kd.V k71 71 _ w0.heap.size _ _ ((rd_T64 l0 a1).f0) from Kd.V_mk ul379_0 ge379_0)
        clear hva_ hvn_ hvc_ ge379_0 ul379_0
        clear hcc379 hce379
        have HR379_0 := ak hi379_0
        have HC379_0 := ak hl379_0
        clear hi379_0 hl379_0
        replace p379 := eq_true p379
        replace q379 := eq_true q379
        go_wp2
        go_meet
        case rel => exact ⟨_, (decide ((((rd_T64 l0 a1).f0).length : Int) ≥ 2)), (by first | rfl | (simp; done) | (simp [bne]; done) | (simp [*]; done)), H', ⟨by have := HJ2.out; first | omega | exact Nat.le_refl _⟩, ⟨by (with_reducible repeat (first | apply Kd.N_alloc | apply Kd.N_drewN | apply Kd.N_drew)); exact HO_0.out⟩, ⟨by repeat (first | exact HK.out | apply Kept.alloc | apply Kept.drewN | apply Kept.drew)⟩, ⟨by exact hopb HB.out⟩⟩
       ·rw [if_neg c15] at H
        exact absurd H (by simp)
      ·rw [if_neg c14] at H
       exact absurd H (by simp)
    case rest =>
     clear HC11
     try clear c1
     try clear p2
     try clear c3
     try clear p3
     try clear q3
     try clear hx3
     try clear qi3
     try clear c4
     try clear c4b0
     try clear c4b1
     try clear c5
     try clear c5b0
     try clear c5b1
     try clear c8
     try clear c12
     try clear c12b0
     try clear c12b1
     try clear c14
     try clear c14b0
     try clear c15
     try clear c15b0
     try clear hx375_0
     try clear hx379_0
     try clear p2
     try clear p3
     try clear p375
     try clear p379
     try clear q3
     try clear q375
     try clear q379
     obtain ⟨kq, x32_10, rfl, HA, HJ10, HO_0, HK, HB⟩ := hcut
     cases kq with
     | zero => exact absurd HA.out (by simp [spec_l6Mend.j1])
     | succ kj10 =>
      have H := HA.out
      clear HA
      simp only [spec_l6Mend.j1] at H
      by_cases c17 : x32_10 = true
      ·subst c17
       rw [if_pos rfl] at H
       obtain rfl := Option.some.inj H
       go_wp2
       go_ret
       exact ⟨_, by first | rfl | (simp only [u8_w_, w64_u8_] <;> rfl) | (simp [errW_none, errW_some] <;> rfl) | (simp [*, errW_none, errW_some] <;> rfl), by (with_reducible repeat (first | apply Kd.N_alloc | apply Kd.N_drewN | apply Kd.N_drew)); exact HO_0.out, by exact hopb HB.out, by repeat (first | exact HK.out | apply Kept.alloc | apply Kept.drewN | apply Kept.drew)⟩
      ·replace c17 := Bool.eq_false_iff.mpr c17
       subst c17
       rw [if_neg (show ¬ (false = true) by decide)] at H
       have HC18 := ak H
       clear H
       obtain ⟨Ao19, co19, eo19⟩ := Kd.N_slice HO_0.out
       subst eo19
       go_upto_if 39 with (fail)
       go_cut [5] (fun v5 wc => ∃ (kq : Nat) (x5_17 : Int), v5 = .int .i64 x5_17 ∧ Aside0 (spec_l6Mend.j2 kq l0 a1 x5_17 = some r) ∧ Aside0 (kq ≤ kj10) ∧ Aside0 (Kd.N k64 64 wc w0.heap.size (fun k_ => (P0_ k_ ∨ w.heap.size ≤ k_)) (.slice Ao19 l0.length co19) l0) ∧ Aside0 (Kept w wc (fun k_ => P0_ k_)) ∧ Aside0 (Below w0.heap.size w0 wc))
       case first =>
        have H := HC18.out
        clear HC18
        by_cases c20 : a1 = (wrap64 ((l0.length : Int) - 1))
        ·rw [if_pos c20] at H
         have c20b0 : (a1 == (wrap64 ((l0.length : Int) - 1))) = true := beq_iff_eq.mpr c20
         have c20b1 : (a1 != (wrap64 ((l0.length : Int) - 1))) = false := bne_eq_false_iff_eq.mpr c20
         clear c20
         (first | rw [c20b0] | (simp only [i64_w, i32_w]; rw [c20b0]) | skip)
         have H' := ak H
         clear H
         go_wp2
         go_meet
         case rel => exact ⟨_, (wrap64 (a1 - 1)), (by first | rfl | (simp; done) | (simp [bne]; done) | (simp [*]; done)), H', ⟨by have := HJ2.out; have := HJ10.out; first | omega | exact Nat.le_refl _⟩, ⟨by (with_reducible repeat (first | apply Kd.N_alloc | apply Kd.N_drewN | apply Kd.N_drew)); exact HO_0.out⟩, ⟨by repeat (first | exact HK.out | apply Kept.alloc | apply Kept.drewN | apply Kept.drew)⟩, ⟨by exact hopb HB.out⟩⟩
        ·rw [if_neg c20] at H
         have c20b0 : (a1 == (wrap64 ((l0.length : Int) - 1))) = false := beq_eq_false_iff_ne.mpr c20
         have c20b1 : (a1 != (wrap64 ((l0.length : Int) - 1))) = true := bne_iff_ne.mpr c20
         (first | rw [c20b0] | (simp only [i64_w, i32_w]; rw [c20b0]) | skip)
         have H' := ak H
         clear H
         go_wp2
         go_meet
         case rel => exact ⟨_, (a1), (by first | rfl | (simp; done) | (simp [bne]; done) | (simp [*]; done)), H', ⟨by have := HJ2.out; have := HJ10.out; first | omega | exact Nat.le_refl _⟩, ⟨by (with_reducible repeat (first | apply Kd.N_alloc | apply Kd.N_drewN | apply Kd.N_drew)); exact HO_0.out⟩, ⟨by repeat (first | exact HK.out | apply Kept.alloc | apply Kept.drewN | apply Kept.drew)⟩, ⟨by exact hopb HB.out⟩⟩
       case rest =>
        clear HC18
        try clear c1
        try clear c2
        try clear p2
        try clear c3
        try clear p3
        try clear q3
        try clear hx3
        try clear qi3
        try clear c4
        try clear c4b0
        try clear c4b1
        try clear c5
        try clear c5b0
        try clear c5b1
        try clear p6
        try clear c8
        try clear c12
        try clear c12b0
        try clear c12b1
        try clear c14
        try clear c14b0
        try clear c15
        try clear c15b0
        try clear c17
        try clear c20
        try clear c20b0
        try clear c20b1
        try clear hx375_0
        try clear hx379_0
        try clear p2
        try clear p3
        try clear p375
        try clear p379
        try clear q3
        try clear q375
        try clear q379
        obtain ⟨kq, x5_17, rfl, HA, HJ17, HO_0, HK, HB⟩ := hcut
        cases kq with
        | zero => exact absurd HA.out (by simp [spec_l6Mend.j2])
        | succ kj17 =>
         have H := HA.out
         clear HA
         simp only [spec_l6Mend.j2] at H
         obtain ⟨y380, hy380⟩ : ∃ y_ : List (S71), y_ = (([] : List (S71))) := ⟨_, rfl⟩
         replace H : (if 0 ≤ x5_17 then (if x5_17 < (l0.length : Int) then (if y380.length + ((rd_T64 l0 x5_17).f0).length < 5864062014805 then ((some (y380 ++ ((rd_T64 l0 x5_17).f0) : List (S71))).bind fun y384 => (if 0 ≤ (wrap64 (x5_17 + 1)) then (if (wrap64 (x5_17 + 1)) < (l0.length : Int) then (if y384.length + ((rd_T64 l0 (wrap64 (x5_17 + 1))).f0).length < 5864062014805 then ((some (y384 ++ ((rd_T64 l0 (wrap64 (x5_17 + 1))).f0) : List (S71))).bind fun y388 => (if (y388.length : Int) ≤ 4 then ((some (([] : List (S64)) : List (S64))).bind fun y391 => (if x5_17 ≤ (l0.length : Int) then ((some (l0.take (x5_17 : Int).toNat : List (S64))).bind fun y394 => (if y391.length + y394.length < 5864062014805 then ((some (y391 ++ y394 : List (S64))).bind fun y399 => (if y399.length < 5864062014805 then ((some (y399 ++ [(⟨y388⟩ : S64)] : List (S64))).bind fun y402 => (if 0 ≤ (wrap64 (x5_17 + 2)) then (if (wrap64 (x5_17 + 2)) ≤ (l0.length : Int) then ((some (l0.drop ((wrap64 (x5_17 + 2)) : Int).toNat : List (S64))).bind fun y405 => (if y402.length + y405.length < 5864062014805 then (some (y402 ++ y405)) else (none))) else (none)) else (none))) else (none))) else (none))) else (none))) else (if x5_17 = a1 then ((some (([] : List (S71)) : List (S71))).bind fun y413 => (if 2 ≤ (y388.length : Int) then ((some (y388.take 2 : List (S71))).bind fun y416 => (if y413.length + y416.length < 5864062014805 then ((some (([] : List (S71)) : List (S71))).bind fun y425 => ((some (y388.drop 2 : List (S71))).bind fun y428 => (if y425.length + y428.length < 5864062014805 then (some ((l0.set (x5_17 : Int).toNat (⟨(y413 ++ y416)⟩ : S64)).set ((wrap64 (x5_17 + 1)) : Int).toNat (⟨(y425 ++ y428)⟩ : S64))) else (none)))) else (none))) else (none))) else ((some (([] : List (S71)) : List (S71))).bind fun y437 => (if 0 ≤ (wrap64 ((y388.length : Int) - 2)) then (if (wrap64 ((y388.length : Int) - 2)) ≤ (y388.length : Int) then ((some (y388.take ((wrap64 ((y388.length : Int) - 2)) : Int).toNat : List (S71))).bind fun y440 => (if y437.length + y440.length < 5864062014805 then ((some (([] : List (S71)) : List (S71))).bind fun y449 => ((some (y388.drop ((wrap64 ((y388.length : Int) - 2)) : Int).toNat : List (S71))).bind fun y452 => (if y449.length + y452.length < 5864062014805 then (some ((l0.set (x5_17 : Int).toNat (⟨(y437 ++ y440)⟩ : S64)).set ((wrap64 (x5_17 + 1)) : Int).toNat (⟨(y449 ++ y452)⟩ : S64))) else (none)))) else (none))) else (none)) else (none)))))) else (none)) else (none)) else (none))) else (none)) else (none)) else (none)) = some r := by first | (rw [hy380]; exact H) | exact H
         have Ny380 := ak hy380
         clear hy380
         by_cases c21 : 0 ≤ x5_17
         ·rw [if_pos c21] at H
          have c21b0 : decide (0 ≤ x5_17) = true := decide_eq_true c21
          clear c21
          by_cases c22 : x5_17 < (l0.length : Int)
          ·rw [if_pos c22] at H
           have c22b0 : decide (x5_17 < (l0.length : Int)) = true := decide_eq_true c22
           clear c22
           by_cases c23 : y380.length + ((rd_T64 l0 x5_17).f0).length < 5864062014805
           ·rw [if_pos c23] at H
            have LMc23 := ak c23
            clear c23
            obtain ⟨y384, hy384⟩ : ∃ y_ : List (S71), y_ = (y380 ++ ((rd_T64 l0 x5_17).f0)) := ⟨_, rfl⟩
            replace H : (if 0 ≤ (wrap64 (x5_17 + 1)) then (if (wrap64 (x5_17 + 1)) < (l0.length : Int) then (if y384.length + ((rd_T64 l0 (wrap64 (x5_17 + 1))).f0).length < 5864062014805 then ((some (y384 ++ ((rd_T64 l0 (wrap64 (x5_17 + 1))).f0) : List (S71))).bind fun y388 => (if (y388.length : Int) ≤ 4 then ((some (([] : List (S64)) : List (S64))).bind fun y391 => (if x5_17 ≤ (l0.length : Int) then ((some (l0.take (x5_17 : Int).toNat : List (S64))).bind fun y394 => (if y391.length + y394.length < 5864062014805 then ((some (y391 ++ y394 : List (S64))).bind fun y399 => (if y399.length < 5864062014805 then ((some (y399 ++ [(⟨y388⟩ : S64)] : List (S64))).bind fun y402 => (if 0 ≤ (wrap64 (x5_17 + 2)) then (if (wrap64 (x5_17 + 2)) ≤ (l0.length : Int) then ((some (l0.drop ((wrap64 (x5_17 + 2)) : Int).toNat : List (S64))).bind fun y405 => (if y402.length + y405.length < 5864062014805 then (some (y402 ++ y405)) else (none))) else (none)) else (none))) else (none))) else (none))) else (none))) else (if x5_17 = a1 then ((some (([] : List (S71)) : List (S71))).bind fun y413 => (if 2 ≤ (y388.length : Int) then ((some (y388.take 2 : List (S71))).bind fun y416 => (if y413.length + y416.length < 5864062014805 then ((some (([] : List (S71)) : List (S71))).bind fun y425 => ((some (y388.drop 2 : List (S71))).bind fun y428 => (if y425.length + y428.length < 5864062014805 then (some ((l0.set (x5_17 : Int).toNat (⟨(y413 ++ y416)⟩ : S64)).set ((wrap64 (x5_17 + 1)) : Int).toNat (⟨(y425 ++ y428)⟩ : S64))) else (none)))) else (none))) else (none))) else ((some (([] : List (S71)) : List (S71))).bind fun y437 => (if 0 ≤ (wrap64 ((y388.length : Int) - 2)) then (if (wrap64 ((y388.length : Int) - 2)) ≤ (y388.length : Int) then ((some (y388.take ((wrap64 ((y388.length : Int) - 2)) : Int).toNat : List (S71))).bind fun y440 => (if y437.length + y440.length < 5864062014805 then ((some (([] : List (S71)) : List (S71))).bind fun y449 => ((some (y388.drop ((wrap64 ((y388.length : Int) - 2)) : Int).toNat : List (S71))).bind fun y452 => (if y449.length + y452.length < 5864062014805 then (some ((l0.set (x5_17 : Int).toNat (⟨(y437 ++ y440)⟩ : S64)).set ((wrap64 (x5_17 + 1)) : Int).toNat (⟨(y449 ++ y452)⟩ : S64))) else (none)))) else (none))) else (none)) else (none)))))) else (none)) else (none)) else (none)) = some r := by first | (rw [hy384]; exact H) | exact H
            have Ny384 := ak hy384
            clear hy384
            obtain ⟨ji24, hji24⟩ : ∃ j_ : Int, (wrap64 (x5_17 + 1)) = j_ := ⟨_, rfl⟩
            replace H : (if 0 ≤ (ji24) then (if (ji24) < (l0.length : Int) then (if y384.length + ((rd_T64 l0 (ji24)).f0).length < 5864062014805 then ((some (y384 ++ ((rd_T64 l0 (ji24)).f0) : List (S71))).bind fun y388 => (if (y388.length : Int) ≤ 4 then ((some (([] : List (S64)) : List (S64))).bind fun y391 => (if x5_17 ≤ (l0.length : Int) then ((some (l0.take (x5_17 : Int).toNat : List (S64))).bind fun y394 => (if y391.length + y394.length < 5864062014805 then ((some (y391 ++ y394 : List (S64))).bind fun y399 => (if y399.length < 5864062014805 then ((some (y399 ++ [(⟨y388⟩ : S64)] : List (S64))).bind fun y402 => (if 0 ≤ (wrap64 (x5_17 + 2)) then (if (wrap64 (x5_17 + 2)) ≤ (l0.length : Int) then ((some (l0.drop ((wrap64 (x5_17 + 2)) : Int).toNat : List (S64))).bind fun y405 => (if y402.length + y405.length < 5864062014805 then (some (y402 ++ y405)) else (none))) else (none)) else (none))) else (none))) else (none))) else (none))) else (if x5_17 = a1 then ((some (([] : List (S71)) : List (S71))).bind fun y413 => (if 2 ≤ (y388.length : Int) then ((some (y388.take 2 : List (S71))).bind fun y416 => (if y413.length + y416.length < 5864062014805 then ((some (([] : List (S71)) : List (S71))).bind fun y425 => ((some (y388.drop 2 : List (S71))).bind fun y428 => (if y425.length + y428.length < 5864062014805 then (some ((l0.set (x5_17 : Int).toNat (⟨(y413 ++ y416)⟩ : S64)).set ((ji24) : Int).toNat (⟨(y425 ++ y428)⟩ : S64))) else (none)))) else (none))) else (none))) else ((some (([] : List (S71)) : List (S71))).bind fun y437 => (if 0 ≤ (wrap64 ((y388.length : Int) - 2)) then (if (wrap64 ((y388.length : Int) - 2)) ≤ (y388.length : Int) then ((some (y388.take ((wrap64 ((y388.length : Int) - 2)) : Int).toNat : List (S71))).bind fun y440 => (if y437.length + y440.length < 5864062014805 then ((some (([] : List (S71)) : List (S71))).bind fun y449 => ((some (y388.drop ((wrap64 ((y388.length : Int) - 2)) : Int).toNat : List (S71))).bind fun y452 => (if y449.length + y452.length < 5864062014805 then (some ((l0.set (x5_17 : Int).toNat (⟨(y437 ++ y440)⟩ : S64)).set ((ji24) : Int).toNat (⟨(y449 ++ y452)⟩ : S64))) else (none)))) else (none))) else (none)) else (none)))))) else (none)) else (none)) else (none)) = some r := by first | (rw [hji24] at H; exact H) | (simp only [hji24] at H ⊢; exact H)
            have hji24w : (IntKind.i64.wrap (x5_17 + 1)) = ji24 := (i64_w _).trans hji24
            by_cases c25 : 0 ≤ (ji24)
            ·rw [if_pos c25] at H
             have c25b0 : decide (0 ≤ (ji24)) = true := decide_eq_true c25
             clear c25
             by_cases c26 : (ji24) < (l0.length : Int)
             ·rw [if_pos c26] at H
              have c26b0 : decide ((ji24) < (l0.length : Int)) = true := decide_eq_true c26
              clear c26
              by_cases c27 : y384.length + ((rd_T64 l0 (ji24)).f0).length < 5864062014805
              ·rw [if_pos c27] at H
               have LMc27 := ak c27
               clear c27
               obtain ⟨y388, hy388⟩ : ∃ y_ : List (S71), y_ = (y384 ++ ((rd_T64 l0 (ji24)).f0)) := ⟨_, rfl⟩
               replace H : (if (y388.length : Int) ≤ 4 then ((some (([] : List (S64)) : List (S64))).bind fun y391 => (if x5_17 ≤ (l0.length : Int) then ((some (l0.take (x5_17 : Int).toNat : List (S64))).bind fun y394 => (if y391.length + y394.length < 5864062014805 then ((some (y391 ++ y394 : List (S64))).bind fun y399 => (if y399.length < 5864062014805 then ((some (y399 ++ [(⟨y388⟩ : S64)] : List (S64))).bind fun y402 => (if 0 ≤ (wrap64 (x5_17 + 2)) then (if (wrap64 (x5_17 + 2)) ≤ (l0.length : Int) then ((some (l0.drop ((wrap64 (x5_17 + 2)) : Int).toNat : List (S64))).bind fun y405 => (if y402.length + y405.length < 5864062014805 then (some (y402 ++ y405)) else (none))) else (none)) else (none))) else (none))) else (none))) else (none))) else (if x5_17 = a1 then ((some (([] : List (S71)) : List (S71))).bind fun y413 => (if 2 ≤ (y388.length : Int) then ((some (y388.take 2 : List (S71))).bind fun y416 => (if y413.length + y416.length < 5864062014805 then ((some (([] : List (S71)) : List (S71))).bind fun y425 => ((some (y388.drop 2 : List (S71))).bind fun y428 => (if y425.length + y428.length < 5864062014805 then (some ((l0.set (x5_17 : Int).toNat (⟨(y413 ++ y416)⟩ : S64)).set ((ji24) : Int).toNat (⟨(y425 ++ y428)⟩ : S64))) else (none)))) else (none))) else (none))) else ((some (([] : List (S71)) : List (S71))).bind fun y437 => (if 0 ≤ (wrap64 ((y388.length : Int) - 2)) then (if (wrap64 ((y388.length : Int) - 2)) ≤ (y388.length : Int) then ((some (y388.take ((wrap64 ((y388.length : Int) - 2)) : Int).toNat : List (S71))).bind fun y440 => (if y437.length + y440.length < 5864062014805 then ((some (([] : List (S71)) : List (S71))).bind fun y449 => ((some (y388.drop ((wrap64 ((y388.length : Int) - 2)) : Int).toNat : List (S71))).bind fun y452 => (if y449.length + y452.length < 5864062014805 then (some ((l0.set (x5_17 : Int).toNat (⟨(y437 ++ y440)⟩ : S64)).set ((ji24) : Int).toNat (⟨(y449 ++ y452)⟩ : S64))) else (none)))) else (none))) else (none)) else (none))))) = some r := by first | (rw [hy388]; exact H) | exact H
               have Ny388 := ak hy388
               clear hy388
               by_cases c28 : (y388.length : Int) ≤ 4
               ·rw [if_pos c28] at H
                have c28b0 : decide ((y388.length : Int) ≤ 4) = true := decide_eq_true c28
                have c28b1 : decide (y388.length ≤ 4) = true := decide_eq_true (by omega)
                clear c28
                obtain ⟨y391, hy391⟩ : ∃ y_ : List (S64), y_ = (([] : List (S64))) := ⟨_, rfl⟩
                replace H : (if x5_17 ≤ (l0.length : Int) then ((some (l0.take (x5_17 : Int).toNat : List (S64))).bind fun y394 => (if y391.length + y394.length < 5864062014805 then ((some (y391 ++ y394 : List (S64))).bind fun y399 => (if y399.length < 5864062014805 then ((some (y399 ++ [(⟨y388⟩ : S64)] : List (S64))).bind fun y402 => (if 0 ≤ (wrap64 (x5_17 + 2)) then (if (wrap64 (x5_17 + 2)) ≤ (l0.length : Int) then ((some (l0.drop ((wrap64 (x5_17 + 2)) : Int).toNat : List (S64))).bind fun y405 => (if y402.length + y405.length < 5864062014805 then (some (y402 ++ y405)) else (none))) else (none)) else (none))) else (none))) else (none))) else (none)) = some r := by first | (rw [hy391]; exact H) | exact H
                have Ny391 := ak hy391
                clear hy391
                have c29b0 := eq_true (of_decide_eq_true (by assumption) : 0 ≤ x5_17)
                by_cases c30 : x5_17 ≤ (l0.length : Int)
                ·rw [if_pos c30] at H
                 have c30b0 := eq_true c30
                 have c30b1 : decide (x5_17 ≤ (l0.length : Int)) = true := decide_eq_true c30
                 clear c30
                 obtain ⟨y394, hy394⟩ : ∃ y_ : List (S64), y_ = (l0.take (x5_17 : Int).toNat) := ⟨_, rfl⟩
                 replace H : (if y391.length + y394.length < 5864062014805 then ((some (y391 ++ y394 : List (S64))).bind fun y399 => (if y399.length < 5864062014805 then ((some (y399 ++ [(⟨y388⟩ : S64)] : List (S64))).bind fun y402 => (if 0 ≤ (wrap64 (x5_17 + 2)) then (if (wrap64 (x5_17 + 2)) ≤ (l0.length : Int) then ((some (l0.drop ((wrap64 (x5_17 + 2)) : Int).toNat : List (S64))).bind fun y405 => (if y402.length + y405.length < 5864062014805 then (some (y402 ++ y405)) else (none))) else (none)) else (none))) else (none))) else (none)) = some r := by first | (rw [hy394]; exact H) | exact H
                 have Ny394 := ak hy394
                 clear hy394
                 by_cases c31 : y391.length + y394.length < 5864062014805
                 ·rw [if_pos c31] at H
                  have LMc31 := ak c31
                  clear c31
                  obtain ⟨y399, hy399⟩ : ∃ y_ : List (S64), y_ = (y391 ++ y394) := ⟨_, rfl⟩
                  replace H : (if y399.length < 5864062014805 then ((some (y399 ++ [(⟨y388⟩ : S64)] : List (S64))).bind fun y402 => (if 0 ≤ (wrap64 (x5_17 + 2)) then (if (wrap64 (x5_17 + 2)) ≤ (l0.length : Int) then ((some (l0.drop ((wrap64 (x5_17 + 2)) : Int).toNat : List (S64))).bind fun y405 => (if y402.length + y405.length < 5864062014805 then (some (y402 ++ y405)) else (none))) else (none)) else (none))) else (none)) = some r := by first | (rw [hy399]; exact H) | exact H
                  have Ny399 := ak hy399
                  clear hy399
                  by_cases c32 : y399.length < 5864062014805
                  ·rw [if_pos c32] at H
                   have LMc32 := ak c32
                   clear c32
                   obtain ⟨y402, hy402⟩ : ∃ y_ : List (S64), y_ = (y399 ++ [(⟨y388⟩ : S64)]) := ⟨_, rfl⟩
                   replace H : (if 0 ≤ (wrap64 (x5_17 + 2)) then (if (wrap64 (x5_17 + 2)) ≤ (l0.length : Int) then ((some (l0.drop ((wrap64 (x5_17 + 2)) : Int).toNat : List (S64))).bind fun y405 => (if y402.length + y405.length < 5864062014805 then (some (y402 ++ y405)) else (none))) else (none)) else (none)) = some r := by first | (rw [hy402]; exact H) | exact H
                   have Ny402 := ak hy402
                   clear hy402
                   obtain ⟨ji33, hji33⟩ : ∃ j_ : Int, (wrap64 (x5_17 + 2)) = j_ := ⟨_, rfl⟩
                   replace H : (if 0 ≤ (ji33) then (if (ji33) ≤ (l0.length : Int) then ((some (l0.drop ((ji33) : Int).toNat : List (S64))).bind fun y405 => (if y402.length + y405.length < 5864062014805 then (some (y402 ++ y405)) else (none))) else (none)) else (none)) = some r := by first | (rw [hji33] at H; exact H) | (simp only [hji33] at H ⊢; exact H)
                   have hji33w : (IntKind.i64.wrap (x5_17 + 2)) = ji33 := (i64_w _).trans hji33
                   by_cases c34 : 0 ≤ (ji33)
                   ·rw [if_pos c34] at H
                    have c34b0 := eq_true c34
                    have c34b1 : decide (0 ≤ (ji33)) = true := decide_eq_true c34
                    clear c34
                    by_cases c35 : (ji33) ≤ (l0.length : Int)
                    ·rw [if_pos c35] at H
                     have c35b0 := eq_true c35
                     have c35b1 : decide ((ji33) ≤ (l0.length : Int)) = true := decide_eq_true c35
                     clear c35
                     obtain ⟨y405, hy405⟩ : ∃ y_ : List (S64), y_ = (l0.drop ((ji33) : Int).toNat) := ⟨_, rfl⟩
                     replace H : (if y402.length + y405.length < 5864062014805 then (some (y402 ++ y405)) else (none)) = some r := by first | (rw [hy405]; exact H) | exact H
                     have Ny405 := ak hy405
                     clear hy405
                     by_cases c36 : y402.length + y405.length < 5864062014805
                     ·rw [if_pos c36] at H
                      have LMc36 := ak c36
                      clear c36
                      obtain ⟨y410, hy410⟩ : ∃ y_ : List (S64), y_ = (y402 ++ y405) := ⟨_, rfl⟩
                      replace H : (some y410) = some r := by first | (rw [hy410]; exact H) | exact H
                      have Ny410 := ak hy410
                      clear hy410
                      obtain rfl := Option.some.inj H
                      try go_wp2
                      replace HO_0 := ak (Kd.N_drew HO_0.out)
                      replace HK := ak (Kept.drew HK.out)
                      replace HB := ak (below_drew1 HB.out)
                      have p383 : 0 ≤ (x5_17 : Int) := of_decide_eq_true (by assumption)
                      have q383 : x5_17 < (l0.length : Int) := of_decide_eq_true (by assumption)
                      obtain ⟨ad383, A383_0, c383_0, e383, hx383_0, hl383_0, hi383_0⟩ := at_T64 (Kd.N_reads' HO_0.out).2.2 x5_17 p383 q383
                      cases e383
                      obtain ⟨ce383, hce383, hMe383, hcc383⟩ := Kd.N_get HO_0.out z64 x5_17 p383 (by first | exact q383 | exact of_decide_eq_true (by assumption) | (have e_ := (Kd.N_reads' HO_0.out).1; omega))
                      obtain ⟨ua383_0, uc383_0, rfl, ul383_0, ge383_0⟩ := k64_openF hMe383
                      have hv383_0 := hcc383 0 _ rfl
                      rw [Nat.add_zero, show (k64).sz = 1 from rfl, Nat.mul_one] at hv383_0
                      replace hv383_0 := Option.some.inj (hv383_0.symm.trans hx383_0)
                      injection hv383_0 with hva_ hvn_ hvc_
                      rw [hva_] at ge383_0
                      rw [hvc_] at ul383_0
                      have HL383_0 := ak (show Kd.V k71 71 _ w0.heap.size _ _ ((rd_T64 l0 x5_17).f0) from Kd.V_mk ul383_0 ge383_0)
                      clear hva_ hvn_ hvc_ ge383_0 ul383_0
                      clear hcc383 hce383
                      have HR383_0 := ak hi383_0
                      have HC383_0 := ak hl383_0
                      clear hi383_0 hl383_0
                      replace p383 := eq_true p383
                      replace q383 := eq_true q383
                      have p387 : 0 ≤ ((ji24) : Int) := of_decide_eq_true (by assumption)
                      have q387 : (ji24) < (l0.length : Int) := of_decide_eq_true (by assumption)
                      obtain ⟨ad387, A387_0, c387_0, e387, hx387_0, hl387_0, hi387_0⟩ := at_T64 (Kd.N_reads' HO_0.out).2.2 (ji24) p387 q387
                      obtain rfl : ad383 = ad387 := (by injection e387)
                      obtain ⟨ce387, hce387, hMe387, hcc387⟩ := Kd.N_get HO_0.out z64 (ji24) p387 (by first | exact q387 | exact of_decide_eq_true (by assumption) | (have e_ := (Kd.N_reads' HO_0.out).1; omega))
                      obtain ⟨ua387_0, uc387_0, rfl, ul387_0, ge387_0⟩ := k64_openF hMe387
                      have hv387_0 := hcc387 0 _ rfl
                      rw [Nat.add_zero, show (k64).sz = 1 from rfl, Nat.mul_one] at hv387_0
                      replace hv387_0 := Option.some.inj (hv387_0.symm.trans hx387_0)
                      injection hv387_0 with hva_ hvn_ hvc_
                      rw [hva_] at ge387_0
                      rw [hvc_] at ul387_0
                      have HL387_0 := ak (show Kd.V k71 71 _ w0.heap.size _ _ ((rd_T64 l0 (ji24)).f0) from Kd.V_mk ul387_0 ge387_0)
                      clear hva_ hvn_ hvc_ ge387_0 ul387_0
                      clear hcc387 hce387
                      have HR387_0 := ak hi387_0
                      have HC387_0 := ak hl387_0
                      clear hi387_0 hl387_0
                      replace p387 := eq_true p387
                      replace q387 := eq_true q387
                      refine start_ (n := 15) (S := fun w' => w'.cell? (ad383.add (x5_17).toNat) = some (.slice A383_0 ((rd_T64 l0 x5_17).f0).length c383_0) ∧ w'.cell? (ad383.add ((ji24)).toNat) = some (.slice A387_0 ((rd_T64 l0 (ji24)).f0).length c387_0)) (ds := []) #[U,U,U,U,U,U,U,U,U,U,U,U,U,U,U] (by kernel_rfl) rfl rfl ⟨hx383_0, hx387_0⟩ (fun hHeld => ?_); refine with_tabW spec_l6Mend.tab8 spec_l6Mend.bits8 (fun HT_ HW_ => ?_)
                      generalize wc.drew = w37 at HO_0 HK HB HL383_0 HL387_0 HR383_0 HR387_0 hx383_0 hx387_0 hHeld ⊢
                      refine pure_ (i := 1) (N := some 43) (v := ?_) (a' := ?_) #[U,T,U,U,U,U,U,U,U,U,U,U,U,U,U] rfl rfl (any_of HT_.out (by kernel_rfl)) (fun _ _ _ h => h) (Or.inl ⟨by rfl, ?_⟩) ?_ ?_
                      rotate_left
                      ·intro w'
                       go_simp
                       with_reducible rfl
                      rotate_left
                      ·simp only [Act.put, lT, lZ, lS, i64_w, i32_w]
                       rfl
                      refine pure_ (i := 2) (N := some 44) (v := ?_) (a' := ?_) #[U,T,T,U,U,U,U,U,U,U,U,U,U,U,U] rfl rfl (any_of HT_.out (by kernel_rfl)) (fun _ _ _ h => h) (Or.inl ⟨by rfl, ?_⟩) ?_ ?_
                      rotate_left
                      ·intro w'
                       go_simp
                       with_reducible rfl
                      rotate_left
                      ·simp only [Act.put, lT, lZ, lS, i64_w, i32_w]
                       rfl
                      refine pure_ (i := 3) (N := some 45) (v := ?_) (a' := ?_) #[U,T,T,T,U,U,U,U,U,U,U,U,U,U,U] rfl rfl (any_of HT_.out (by kernel_rfl)) (fun _ _ _ h => h) (Or.inl ⟨by rfl, ?_⟩) ?_ ?_
                      rotate_left
                      ·intro w'
                       go_simp
                       with_reducible rfl
                      rotate_left
                      ·simp only [Act.put, lT, lZ, lS, i64_w, i32_w]
                       rfl
                      refine pure_ (i := 4) (N := some 46) (v := ?_) (a' := ?_) #[U,T,T,T,T,U,U,U,U,U,U,U,U,U,U] rfl rfl (any_of HT_.out (by kernel_rfl)) (fun _ _ _ h => h) (Or.inl ⟨by rfl, ?_⟩) ?_ ?_
                      rotate_left
                      ·intro w'
                       go_simp
                       with_reducible rfl
                      rotate_left
                      ·simp only [Act.put, lT, lZ, lS, i64_w, i32_w]
                       rfl
                      refine pure_ (i := 7) (N := some 49) (v := ?_) (a' := ?_) #[U,T,T,T,T,U,U,T,U,U,U,U,U,U,U] rfl rfl (any_of HT_.out (by kernel_rfl)) (fun _ _ _ h => h) (Or.inl ⟨by rfl, ?_⟩) ?_ ?_
                      rotate_left
                      ·intro w'
                       go_simp
                       with_reducible rfl
                      rotate_left
                      ·simp only [Act.put, lT, lZ, lS, i64_w, i32_w]
                       rfl
                      refine pure_ (i := 8) (N := some 50) (v := ?_) (a' := ?_) #[U,T,T,T,T,U,U,T,T,U,U,U,U,U,U] rfl rfl (any_of HT_.out (by kernel_rfl)) (fun _ _ _ h => h) (Or.inl ⟨by rfl, ?_⟩) ?_ ?_
                      rotate_left
                      ·intro w'
                       go_simp
                       with_reducible rfl
                      rotate_left
                      ·simp only [Act.put, lT, lZ, lS, i64_w, i32_w]
                       rfl
                      refine pure_ (i := 9) (N := some 51) (v := ?_) (a' := ?_) #[U,T,T,T,T,U,U,T,T,T,U,U,U,U,U] rfl rfl (any_of HT_.out (by kernel_rfl)) (fun _ _ _ h => h) (Or.inl ⟨by rfl, ?_⟩) ?_ ?_
                      rotate_left
                      ·intro w'
                       go_simp
                       with_reducible rfl
                      rotate_left
                      ·simp only [Act.put, lT, lZ, lS, i64_w, i32_w]
                       rfl
                      refine pure_ (i := 10) (N := some 52) (v := ?_) (a' := ?_) #[U,T,T,T,T,U,U,T,T,T,T,U,U,U,U] rfl rfl (any_of HT_.out (by kernel_rfl)) (fun _ _ _ h => h) (Or.inl ⟨by rfl, ?_⟩) ?_ ?_
                      rotate_left
                      ·intro w'
                       go_simp
                       with_reducible rfl
                      rotate_left
                      ·simp only [Act.put, lT, lZ, lS, i64_w, i32_w]
                       rfl
                      refine pure_ (i := 11) (N := some 53) (v := ?_) (a' := ?_) #[U,T,T,T,T,U,U,T,T,T,T,T,U,U,U] rfl rfl (any_of HT_.out (by kernel_rfl)) (fun _ _ _ h => h) (Or.inl ⟨by rfl, ?_⟩) ?_ ?_
                      rotate_left
                      ·intro w'
                       go_simp
                       with_reducible rfl
                      rotate_left
                      ·simp only [Act.put, lT, lZ, lS, i64_w, i32_w]
                       rfl
                      refine take_ (i := 5) (N := some 47) (v := ?_) (a' := ?_) #[U,T,T,T,T,T,U,T,T,T,T,T,U,U,U] rfl rfl (take_ofW HT_.out HW_.out (by kernel_rfl)) (fun _ _ _ h => h) (Or.inl ⟨by rfl, ?_⟩) hHeld ?_ ?_
                      rotate_left
                      ·rintro w' ⟨s0, s1⟩
                       go_simp
                       with_reducible rfl
                      rotate_left
                      ·simp only [Act.put, lT, lZ, lS, i64_w, i32_w]
                       rfl
                      refine take_ (i := 12) (N := some 54) (v := ?_) (a' := ?_) #[U,T,T,T,T,T,U,T,T,T,T,T,T,U,U] rfl rfl (take_ofW HT_.out HW_.out (by kernel_rfl)) (fun _ _ _ h => h) (Or.inl ⟨by rfl, ?_⟩) hHeld ?_ ?_
                      rotate_left
                      ·rintro w' ⟨s0, s1⟩
                       go_simp
                       with_reducible rfl
                      rotate_left
                      ·simp only [Act.put, lT, lZ, lS, i64_w, i32_w]
                       rfl
                      refine one_ (i := 0) (N := some 42) #[T,T,T,T,T,T,U,T,T,T,T,T,T,U,U] rfl rfl (one_of HT_.out (by kernel_rfl)) (by decide) (fun K hK => ?_)
                      refine Kd.R_lit_step k71 _ 71 ?hg (N := 42) ?hd (xs := ([] : List (S71))) (inner := []) (ok := fun _ => True) (okp := fun _ => True) ?hr ?hp (fun _ hk => hk) trivial (Below.refl _ _) (Nat.le_refl _) (by simp) ?_; (case hd => rfl); (case hg => rfl); (case hr => first | (go_simp; done) | (go_simp; rfl)); (case hp => exact (Reps.none _ _))
                      intro v381 w38 ho39 hb hg_ hnew_
                      have HS0_ := (hb.cell (World.block_lt_of_cell? _ _ (hHeld.1))).trans (hHeld.1)
                      have HS1_ := (hb.cell (World.block_lt_of_cell? _ _ (hHeld.2))).trans (hHeld.2)
                      clear hg_ hnew_
                      (first | rw [← Ny380.out] at ho39 | (simp only [Int.reduceToNat] at ho39; rw [← Ny380.out] at ho39))
                      replace HO_0 := ak (Kd.N_elder' (by (with_reducible repeat (first | apply Kd.N_alloc | apply Kd.N_drewN | apply Kd.N_drew)); exact HO_0.out) (Kd.R_base ho39) hb)
                      replace HL383_0 := ak (Kd.V_elder' (by (with_reducible repeat (first | apply Kd.V_alloc | apply Kd.V_drewN | apply Kd.V_drew)); exact HL383_0.out) (Kd.R_base ho39) hb)
                      replace HL387_0 := ak (Kd.V_elder' (by (with_reducible repeat (first | apply Kd.V_alloc | apply Kd.V_drewN | apply Kd.V_drew)); exact HL387_0.out) (Kd.R_base ho39) hb)
                      have HO382 := ak (Kd.R_lower (Kd.R_newM (M := fun k_ => (P0_ k_ ∨ w.heap.size ≤ k_)) ho39 (by first | exact HK.out.1 | exact (show Kept w _ (fun k_ => P0_ k_) from by repeat (first | exact HK.out | apply Kept.alloc | apply Kept.drewN | apply Kept.drew)).1) (fun k_ h_ => .inr h_)) (below_size (by exact hopb HB.out)))
                      replace HR383_0 := ak (Kd.C_below (by repeat (first | (with_reducible exact HR383_0.out) | (with_reducible refine Kd.C_alloc ?_ _) | (with_reducible refine Kd.C_drewN ?_ _) | (with_reducible refine Kd.C_drew ?_) | exact HR383_0.out)) hb)
                      replace HR387_0 := ak (Kd.C_below (by repeat (first | (with_reducible exact HR387_0.out) | (with_reducible refine Kd.C_alloc ?_ _) | (with_reducible refine Kd.C_drewN ?_ _) | (with_reducible refine Kd.C_drew ?_) | exact HR387_0.out)) hb)
                      replace HK := ak (Kept.below (S := (fun k_ => P0_ k_)) (by repeat (first | exact HK.out | apply Kept.alloc | apply Kept.drewN | apply Kept.drew)) hb)
                      replace HB := ak (below_step (by exact hopb HB.out) hb)
                      clear hb ho39
                      refine hK.out _ _ ⟨HS0_, HS1_⟩ (fun hHeld => ?_)
                      clear hK K
                      refine norm_ (a' := ?_) ?_ ?_
                      rotate_left
                      ·show Act.put _ (some 42) _ = _
                       simp only [Act.put, lT, lZ, lS, i64_w, i32_w]
                       rfl
                      refine one_ (i := 6) (N := some 48) #[T,T,T,T,T,T,T,T,T,T,T,T,T,U,U] rfl rfl (one_of HT_.out (by kernel_rfl)) (by decide) (fun K hK => ?_)
                      refine Kd.R_append_rows_step k71 (w0 := w0) w0.heap.size (by rfl) (.tmp 42) (.tmp 47) 32 71 (.agg #[(.string ⟨#[]⟩), (.int .i64 0)]) 24 rfl Try.underlying32 info71 rfl (by decide) (by omega) v381 y380 ((rd_T64 l0 x5_17).f0) _ _ _ (fun k_ => (P0_ k_ ∨ w.heap.size ≤ k_)) (fun _ => False) rfl rfl ?aO ?aR (fun _ _ h => h) (fun _ h => h.elim) ?aF ?aB ?aS ?aL ?_
                      (case aR => repeat (first | exact (by repeat (first | (with_reducible exact HR383_0.out) | (with_reducible refine Kd.C_alloc ?_ _) | (with_reducible refine Kd.C_drewN ?_ _) | (with_reducible refine Kd.C_drew ?_) | exact HR383_0.out)) | (with_reducible refine Kd.C_alloc ?_ _) | (with_reducible refine Kd.C_drewN ?_ _) | (with_reducible refine Kd.C_drew ?_)))
                      (case aB => exact (by exact hopb HB.out))
                      (case aF => exact (fun k_ hk => (.inr (Nat.le_trans (by first | exact HK.out.1 | exact (show Kept w _ (fun k_ => P0_ k_) from by repeat (first | exact HK.out | apply Kept.alloc | apply Kept.drewN | apply Kept.drew)).1) hk))))
                      (case aO => exact (by (with_reducible repeat (first | apply Kd.R_alloc | apply Kd.R_drewN | apply Kd.R_drew)); exact Kd.R_mono HO382.out (fun _ hk => hk.1)))
                      (case aS => exact (below_size (by exact hopb HB.out)))
                      (case aL => have := LMc23.out; omega)
                      intro v385 w40 ho hb hg hat
                      have HS0_ := cell_grown hg (hHeld.1) (by first | (rw [add_block]; exact (HO_0.out.1 _ rfl).2) | (show some (Addr.add _ _).block ≠ _; rw [add_block]; exact (HO_0.out.1 _ rfl).2) | exact (HO_0.out.1 _ rfl).2)
                      have HS1_ := cell_grown hg (hHeld.2) (by first | (rw [add_block]; exact (HO_0.out.1 _ rfl).2) | (show some (Addr.add _ _).block ≠ _; rw [add_block]; exact (HO_0.out.1 _ rfl).2) | exact (HO_0.out.1 _ rfl).2)
                      rw [← Ny384.out] at ho
                      replace HO_0 := ak (Kd.N_afterv (ok := (fun k_ => (P0_ k_ ∨ w.heap.size ≤ k_))) (by (with_reducible repeat (first | apply Kd.N_alloc | apply Kd.N_drewN | apply Kd.N_drew)); exact HO_0.out) hg hat)
                      replace HL383_0 := ak (Kd.V_afterv (ok := (fun k_ => (P0_ k_ ∨ w.heap.size ≤ k_) ∧ some k_ ≠ (.slice (some ad383) l0.length co19 : Value).ownBlock)) (by (with_reducible repeat (first | apply Kd.V_alloc | apply Kd.V_drewN | apply Kd.V_drew)); exact HL383_0.out) hg hat)
                      replace HL387_0 := ak (Kd.V_afterv (ok := (fun k_ => (P0_ k_ ∨ w.heap.size ≤ k_) ∧ some k_ ≠ (.slice (some ad383) l0.length co19 : Value).ownBlock)) (by (with_reducible repeat (first | apply Kd.V_alloc | apply Kd.V_drewN | apply Kd.V_drew)); exact HL387_0.out) hg hat)
                      replace HB := ak (hb)
                      replace HK := ak (Kept.of_grown (S := (fun k_ => P0_ k_)) hg (by repeat (first | exact HK.out | apply Kept.alloc | apply Kept.drewN | apply Kept.drew)) (fun k_ e_ => (HO382.out.1 k_ e_).1))
                      have HO386 := ak (ho)
                      clear HO382
                      clear ho hb hg hat
                      refine hK.out _ _ ⟨HS0_, HS1_⟩ (fun hHeld => ?_)
                      clear hK K
                      refine norm_ (a' := ?_) ?_ ?_
                      rotate_left
                      ·show Act.put _ (some 48) _ = _
                       simp only [Act.put, lT, lZ, lS, i64_w, i32_w]
                       rfl
                      refine one_ (i := 13) (N := some 55) #[T,T,T,T,T,T,T,T,T,T,T,T,T,T,U] rfl rfl (one_of HT_.out (by kernel_rfl)) (by decide) (fun K hK => ?_)
                      refine Kd.R_append_rows_step k71 (w0 := w0) w0.heap.size (by rfl) (.tmp 48) (.tmp 54) 32 71 (.agg #[(.string ⟨#[]⟩), (.int .i64 0)]) 24 rfl Try.underlying32 info71 rfl (by decide) (by omega) v385 y384 ((rd_T64 l0 (ji24)).f0) _ _ _ (fun k_ => (P0_ k_ ∨ w.heap.size ≤ k_)) (fun _ => False) rfl rfl ?aO ?aR (fun _ _ h => h) (fun _ h => h.elim) ?aF ?aB ?aS ?aL ?_
                      (case aR => repeat (first | exact ((Kd.V_reads' (by (with_reducible repeat (first | apply Kd.V_alloc | apply Kd.V_drewN | apply Kd.V_drew)); exact HL387_0.out)).2.2) | (with_reducible refine Kd.C_alloc ?_ _) | (with_reducible refine Kd.C_drewN ?_ _) | (with_reducible refine Kd.C_drew ?_)))
                      (case aB => exact (by exact hopb HB.out))
                      (case aF => exact (fun k_ hk => (.inr (Nat.le_trans (by first | exact HK.out.1 | exact (show Kept w _ (fun k_ => P0_ k_) from by repeat (first | exact HK.out | apply Kept.alloc | apply Kept.drewN | apply Kept.drew)).1) hk))))
                      (case aO => exact (by (with_reducible repeat (first | apply Kd.R_alloc | apply Kd.R_drewN | apply Kd.R_drew)); exact HO386.out))
                      (case aS => exact (below_size (by exact hopb HB.out)))
                      (case aL => have := LMc27.out; omega)
                      intro v389 w41 ho hb hg hat
                      have HS0_ := cell_grown hg (hHeld.1) (by first | (rw [add_block]; exact (HO_0.out.1 _ rfl).2) | (show some (Addr.add _ _).block ≠ _; rw [add_block]; exact (HO_0.out.1 _ rfl).2) | exact (HO_0.out.1 _ rfl).2)
                      have HS1_ := cell_grown hg (hHeld.2) (by first | (rw [add_block]; exact (HO_0.out.1 _ rfl).2) | (show some (Addr.add _ _).block ≠ _; rw [add_block]; exact (HO_0.out.1 _ rfl).2) | exact (HO_0.out.1 _ rfl).2)
                      rw [← Ny388.out] at ho
                      replace HO_0 := ak (Kd.N_afterv (ok := (fun k_ => (P0_ k_ ∨ w.heap.size ≤ k_))) (by (with_reducible repeat (first | apply Kd.N_alloc | apply Kd.N_drewN | apply Kd.N_drew)); exact HO_0.out) hg hat)
                      replace HL383_0 := ak (Kd.V_afterv (ok := (fun k_ => (P0_ k_ ∨ w.heap.size ≤ k_) ∧ some k_ ≠ (.slice (some ad383) l0.length co19 : Value).ownBlock)) (by (with_reducible repeat (first | apply Kd.V_alloc | apply Kd.V_drewN | apply Kd.V_drew)); exact HL383_0.out) hg hat)
                      replace HL387_0 := ak (Kd.V_afterv (ok := (fun k_ => (P0_ k_ ∨ w.heap.size ≤ k_) ∧ some k_ ≠ (.slice (some ad383) l0.length co19 : Value).ownBlock)) (by (with_reducible repeat (first | apply Kd.V_alloc | apply Kd.V_drewN | apply Kd.V_drew)); exact HL387_0.out) hg hat)
                      replace HB := ak (hb)
                      replace HK := ak (Kept.of_grown (S := (fun k_ => P0_ k_)) hg (by repeat (first | exact HK.out | apply Kept.alloc | apply Kept.drewN | apply Kept.drew)) (fun k_ e_ => (HO386.out.1 k_ e_)))
                      have HO390 := ak (ho)
                      clear HO386
                      clear ho hb hg hat
                      refine hK.out _ _ ⟨HS0_, HS1_⟩ (fun hHeld => ?_)
                      clear hK K
                      refine norm_ (a' := ?_) ?_ ?_
                      rotate_left
                      ·show Act.put _ (some 55) _ = _
                       simp only [Act.put, lT, lZ, lS, i64_w, i32_w]
                       rfl
                      refine pure_ (i := 14) (N := some 6) (v := ?_) (a' := ?_) #[T,T,T,T,T,T,T,T,T,T,T,T,T,T,T] rfl rfl (any_of HT_.out (by kernel_rfl)) (fun _ _ _ h => h) (Or.inl ⟨by rfl, ?_⟩) ?_ ?_
                      rotate_left
                      ·intro w'
                       go_simp
                       with_reducible rfl
                      rotate_left
                      ·simp only [Act.put, lT, lZ, lS, i64_w, i32_w]
                       rfl
                      refine done_ (done_of HT_.out (by kernel_rfl)) ?_
                      obtain ⟨Ao42, co42, eo42⟩ := Kd.R_slice HO390.out
                      subst eo42
                      try go_wp2_with (first | ((with_reducible refine gate_dst (N := 59) rfl ?_); (try (refine gate_guard (by rfl) ?_; dsimp only)); refine Kd.N_lit k64 _ 64 ?hg (N' := 59) ?hd (xs := ([] : List (S64))) (inner := []) (ok := (fun k_ => (P0_ k_ ∨ w.heap.size ≤ k_) ∧ some k_ ≠ (.slice (some ad383) l0.length co19 : Value).ownBlock ∧ some k_ ≠ (.slice Ao42 y388.length co42 : Value).ownBlock)) (okp := (fun k_ => (P0_ k_ ∨ w.heap.size ≤ k_) ∧ some k_ ≠ (.slice (some ad383) l0.length co19 : Value).ownBlock ∧ some k_ ≠ (.slice Ao42 y388.length co42 : Value).ownBlock)) ?hr ?hp (fun _ hk => hk) ((show ∀ k_, w41.heap.size ≤ k_ → (fun k_ => (P0_ k_ ∨ w.heap.size ≤ k_) ∧ some k_ ≠ (.slice (some ad383) l0.length co19 : Value).ownBlock ∧ some k_ ≠ (.slice Ao42 y388.length co42 : Value).ownBlock) k_ from fun k_ hk => ⟨(.inr (Nat.le_trans (by first | exact HK.out.1 | exact (show Kept w _ (fun k_ => P0_ k_) from by repeat (first | exact HK.out | apply Kept.alloc | apply Kept.drewN | apply Kept.drew)).1) hk)), Kd.fresh' (Kd.N_lt (by (with_reducible repeat (first | apply Kd.N_alloc | apply Kd.N_drewN | apply Kd.N_drew)); exact HO_0.out)) k_ hk, Kd.fresh' (Kd.R_lt (by (with_reducible repeat (first | apply Kd.R_alloc | apply Kd.R_drewN | apply Kd.R_drew)); exact HO390.out)) k_ hk⟩) _ (Nat.le_refl _)) (Below.refl _ _) (Nat.le_refl _) (by simp) ?_; (case hd => rfl); (case hg => rfl); (case hr => first | (go_simp; done) | (go_simp; rfl)); (case hp => exact (Reps.none _ _)); intro v392 w43 ho44 hb hg_ hnew_; clear hg_ hnew_; (first | rw [← Ny391.out] at ho44 | (simp only [Int.reduceToNat] at ho44; rw [← Ny391.out] at ho44)); replace HO_0 := ak (Kd.N_elder' (by (with_reducible repeat (first | apply Kd.N_alloc | apply Kd.N_drewN | apply Kd.N_drew)); exact HO_0.out) (Kd.N_base ho44) hb); replace HL383_0 := ak (Kd.V_elder' (by (with_reducible repeat (first | apply Kd.V_alloc | apply Kd.V_drewN | apply Kd.V_drew)); exact HL383_0.out) (Kd.N_base ho44) hb); replace HL387_0 := ak (Kd.V_elder' (by (with_reducible repeat (first | apply Kd.V_alloc | apply Kd.V_drewN | apply Kd.V_drew)); exact HL387_0.out) (Kd.N_base ho44) hb); replace HO390 := ak (Kd.R_below (by (with_reducible repeat (first | apply Kd.R_alloc | apply Kd.R_drewN | apply Kd.R_drew)); exact HO390.out) hb); have HO393 := ak (Kd.N_lower ho44 (below_size (by exact hopb HB.out))); replace HK := ak (Kept.below (S := (fun k_ => P0_ k_)) (by repeat (first | exact HK.out | apply Kept.alloc | apply Kept.drewN | apply Kept.drew)) hb); replace HB := ak (below_step (by exact hopb HB.out) hb); clear hb ho44; have q45 : (x5_17 : Int) ≤ ((l0.length : Int) : Int) := of_decide_eq_true (by assumption); obtain ⟨i045, hi045, _, hsz45, _⟩ := info_parts info64; have hroom45 : l0.length ≤ co19 := (Kd.N_reads' HO_0.out).2.1; have hC45 : Kd.F k64 _ _ (some ad383) l0.length l0 := (Kd.V_at (base := w0.heap.size) (Kd.N_V HO_0.out)).2.2; have hcut45 := cut_to (P := Try.prog) 34 64 .i64 Try.underlying34 hi045 (some ad383) l0.length co19 x5_17 (of_decide_eq_true (by assumption)) q45 hroom45; have hr45 := Kd.F_take (m := (x5_17 : Int).toNat) hC45 (by omega); have hy45 : y394.length = (x5_17 : Int).toNat := (by rw [Ny394.out, List.length_take]; omega); rw [← Ny394.out] at hr45; rw [← hy45] at hcut45; have HO398 := ak (show Kd.V k64 64 _ w0.heap.size _ (.slice (some ad383) y394.length co19) y394 from Kd.V_mk (by omega) hr45); have HC398 := ak (show y394.length ≤ co19 from by omega); clear hr45 hC45 hroom45 hi045 hsz45; have KY45 := ak hy45; clear hy45; replace q45 := eq_true q45) | ((with_reducible refine gate_builtin (b := .append) (xs := #[.tmp 59, .tmp 62]) rfl ?_); (try (refine gate_guard (by rfl) ?_; dsimp only)); at_builtin; refine Kd.N_append_rows k64 (w0 := w0) w0.heap.size rfl (.tmp 59) (.tmp 62) 34 64 (.agg #[(.slice none 0 0)]) 24 rfl Try.underlying34 info64 rfl (by decide) (by omega) v392 y391 y394 _ _ _ (fun k_ => (P0_ k_ ∨ w.heap.size ≤ k_) ∧ some k_ ≠ (.slice Ao42 y388.length co42 : Value).ownBlock) (fun k_ => ((fun k_ => (P0_ k_ ∨ w.heap.size ≤ k_) ∧ some k_ ≠ (.slice Ao42 y388.length co42 : Value).ownBlock)) k_ ∧ some k_ ≠ (v392 : Value).ownBlock) rfl rfl ?aO ?aR (fun _ hk => hk) ?aF ?aB ?aS ?aL ?_; (case aR => exact (by skip; exact Kd.V_F (Kd.V_mono (ok' := (fun k_ => ((fun k_ => (P0_ k_ ∨ w.heap.size ≤ k_) ∧ some k_ ≠ (.slice Ao42 y388.length co42 : Value).ownBlock)) k_ ∧ some k_ ≠ (v392 : Value).ownBlock)) (HO398.out) (fun k_ hk => ⟨⟨hk.1.1, hk.1.2⟩, hk.2⟩)))); (case aB => exact (by exact hopb HB.out)); (case aF => exact (fun k_ hk => ⟨(.inr (Nat.le_trans (by first | exact HK.out.1 | exact (show Kept w _ (fun k_ => P0_ k_) from by repeat (first | exact HK.out | apply Kept.alloc | apply Kept.drewN | apply Kept.drew)).1) hk)), Kd.fresh' (Kd.R_lt (by (with_reducible repeat (first | apply Kd.R_alloc | apply Kd.R_drewN | apply Kd.R_drew)); exact HO390.out)) k_ hk⟩)); (case aO => exact (by (with_reducible repeat (first | apply Kd.N_alloc | apply Kd.N_drewN | apply Kd.N_drew)); exact Kd.N_mono HO393.out (fun _ hk => ⟨hk.1, hk.2.2⟩))); (case aS => exact (below_size (by exact hopb HB.out))); (case aL => have := LMc31.out; omega); intro v400 w46 ho hb hg hat; rw [← Ny399.out] at ho; replace HO_0 := ak (Kd.N_afterv (ok := (fun k_ => (P0_ k_ ∨ w.heap.size ≤ k_) ∧ some k_ ≠ (.slice Ao42 y388.length co42 : Value).ownBlock)) (by (with_reducible repeat (first | apply Kd.N_alloc | apply Kd.N_drewN | apply Kd.N_drew)); exact HO_0.out) hg hat); replace HL383_0 := ak (Kd.V_afterv (ok := (fun k_ => (P0_ k_ ∨ w.heap.size ≤ k_) ∧ some k_ ≠ (.slice (some ad383) l0.length co19 : Value).ownBlock ∧ some k_ ≠ (.slice Ao42 y388.length co42 : Value).ownBlock)) (by (with_reducible repeat (first | apply Kd.V_alloc | apply Kd.V_drewN | apply Kd.V_drew)); exact Kd.V_mono HL383_0.out (fun _ hk => ⟨⟨hk.1.1.1, ⟨hk.1.1.2, hk.1.2⟩⟩, hk.2⟩)) hg hat); replace HL387_0 := ak (Kd.V_afterv (ok := (fun k_ => (P0_ k_ ∨ w.heap.size ≤ k_) ∧ some k_ ≠ (.slice (some ad383) l0.length co19 : Value).ownBlock ∧ some k_ ≠ (.slice Ao42 y388.length co42 : Value).ownBlock)) (by (with_reducible repeat (first | apply Kd.V_alloc | apply Kd.V_drewN | apply Kd.V_drew)); exact Kd.V_mono HL387_0.out (fun _ hk => ⟨⟨hk.1.1.1, ⟨hk.1.1.2, hk.1.2⟩⟩, hk.2⟩)) hg hat); replace HO390 := ak (Kd.R_over' (by (with_reducible repeat (first | apply Kd.R_alloc | apply Kd.R_drewN | apply Kd.R_drew)); exact HO390.out) (Kd.N_typed (by (with_reducible repeat (first | apply Kd.N_alloc | apply Kd.N_drewN | apply Kd.N_drew)); exact HO393.out)) (by decide) hg); replace HO398 := ak (Kd.V_afterv (ok := (fun k_ => (P0_ k_ ∨ w.heap.size ≤ k_) ∧ some k_ ≠ (.slice Ao42 y388.length co42 : Value).ownBlock)) (by (with_reducible repeat (first | apply Kd.V_alloc | apply Kd.V_drewN | apply Kd.V_drew)); exact HO398.out) hg hat); replace HB := ak (hb); replace HK := ak (Kept.of_grown (S := (fun k_ => P0_ k_)) hg (by repeat (first | exact HK.out | apply Kept.alloc | apply Kept.drewN | apply Kept.drew)) (fun k_ e_ => (HO393.out.1 k_ e_).1)); have HO401 := ak (ho); clear HO393; clear ho hb hg hat) | ((with_reducible refine gate_builtin (b := .append) (xs := #[.tmp 64, .tmp 67]) rfl ?_); (try (refine gate_guard (by rfl) ?_; dsimp only)); at_builtin; refine Kd.N_append k64 (w0 := w0) w0.heap.size rfl (.tmp 64) (.tmp 67) 34 64 (.agg #[(.slice none 0 0)]) 24 rfl Try.underlying34 info64 rfl (by decide) (by omega) v400 y399 (⟨y388⟩ : S64) [.slice Ao42 y388.length co42] (fun k_ => (P0_ k_ ∨ w.heap.size ≤ k_)) (fun k_ => ((fun k_ => (P0_ k_ ∨ w.heap.size ≤ k_))) k_ ∧ some k_ ≠ (v400 : Value).ownBlock) rfl rfl ?aP (fun _ hk => hk) ?aF ?aO ?aB ?aS ?aL ?_; (case aP => exact (by have hmk_ := Kd.R_mono (ok' := (fun k_ => ((fun k_ => (P0_ k_ ∨ w.heap.size ≤ k_))) k_ ∧ some k_ ≠ (v400 : Value).ownBlock)) (Kd.R_apart' (HO390.out) (Kd.N_typed HO401.out) (by decide)) (fun k_ hk => ⟨hk.1, hk.2⟩); obtain ⟨Am_, cm_, em_⟩ := Kd.R_slice hmk_; rw [em_] at hmk_ ⊢; exact k64_mkF _ _ (⟨y388⟩ : S64) (Kd.R_reads' hmk_).2.1 (Kd.R_F hmk_))); (case aB => exact (by exact hopb HB.out)); (case aF => exact (fun k_ hk => (.inr (Nat.le_trans (by first | exact HK.out.1 | exact (show Kept w _ (fun k_ => P0_ k_) from by repeat (first | exact HK.out | apply Kept.alloc | apply Kept.drewN | apply Kept.drew)).1) hk)))); (case aO => exact (by (with_reducible repeat (first | apply Kd.N_alloc | apply Kd.N_drewN | apply Kd.N_drew)); exact Kd.N_mono HO401.out (fun _ hk => hk.1))); (case aS => exact (below_size (by exact hopb HB.out))); (case aL => have := LMc32.out; omega); intro v403 w47 ho hb hg hat; rw [← Ny402.out] at ho; replace HO_0 := ak (Kd.N_afterv (ok := (fun k_ => (P0_ k_ ∨ w.heap.size ≤ k_) ∧ some k_ ≠ (.slice Ao42 y388.length co42 : Value).ownBlock)) (by (with_reducible repeat (first | apply Kd.N_alloc | apply Kd.N_drewN | apply Kd.N_drew)); exact HO_0.out) hg hat); replace HL383_0 := ak (Kd.V_afterv (ok := (fun k_ => (P0_ k_ ∨ w.heap.size ≤ k_) ∧ some k_ ≠ (.slice (some ad383) l0.length co19 : Value).ownBlock ∧ some k_ ≠ (.slice Ao42 y388.length co42 : Value).ownBlock)) (by (with_reducible repeat (first | apply Kd.V_alloc | apply Kd.V_drewN | apply Kd.V_drew)); exact HL383_0.out) hg hat); replace HL387_0 := ak (Kd.V_afterv (ok := (fun k_ => (P0_ k_ ∨ w.heap.size ≤ k_) ∧ some k_ ≠ (.slice (some ad383) l0.length co19 : Value).ownBlock ∧ some k_ ≠ (.slice Ao42 y388.length co42 : Value).ownBlock)) (by (with_reducible repeat (first | apply Kd.V_alloc | apply Kd.V_drewN | apply Kd.V_drew)); exact HL387_0.out) hg hat); replace HO398 := ak (Kd.V_afterv (ok := (fun k_ => (P0_ k_ ∨ w.heap.size ≤ k_) ∧ some k_ ≠ (.slice Ao42 y388.length co42 : Value).ownBlock)) (by (with_reducible repeat (first | apply Kd.V_alloc | apply Kd.V_drewN | apply Kd.V_drew)); exact HO398.out) hg hat); replace HB := ak (hb); replace HK := ak (Kept.of_grown (S := (fun k_ => P0_ k_)) hg (by repeat (first | exact HK.out | apply Kept.alloc | apply Kept.drewN | apply Kept.drew)) (fun k_ e_ => (HO401.out.1 k_ e_).1)); have HO404 := ak (ho); clear HO401 HO390; clear ho hb hg hat; have q48 : ((ji33) : Int) ≤ ((l0.length : Int) : Int) := of_decide_eq_true (by assumption); obtain ⟨i048, hi048, _, hsz48, _⟩ := info_parts info64; have hroom48 : l0.length ≤ co19 := (Kd.N_reads' HO_0.out).2.1; have hC48 : Kd.F k64 _ _ (some ad383) l0.length l0 := (Kd.V_at (base := w0.heap.size) (Kd.N_V HO_0.out)).2.2; have q048 : (0 : Int) ≤ ((ji33) : Int) := of_decide_eq_true (by assumption); have hcut48 := cut_from (P := Try.prog) 34 64 .i64 Try.underlying34 hi048 1 hsz48 (some ad383) l0.length co19 (ji33) q048 q48; have hr48 := Kd.F_cut (m := ((ji33) : Int).toNat) (c := co19) hC48 (by omega) hroom48; obtain ⟨A48, hA48⟩ : ∃ A1, A1 = (if co19 = ((ji33) : Int).toNat then (some ad383) else ((some ad383) : Option Addr).map (·.add (((ji33) : Int).toNat * 1))) := ⟨_, rfl⟩; obtain ⟨c48, hc48⟩ : ∃ c1, c1 = co19 - ((ji33) : Int).toNat := ⟨_, rfl⟩; have hy48 : y405.length = l0.length - ((ji33) : Int).toNat := (by rw [Ny405.out, List.length_drop] <;> omega); rw [show (l0).drop ((ji33) : Int).toNat = y405 from Ny405.out.symm] at hr48; replace hr48 : Kd.F k64 _ _ A48 y405.length y405 := (by rw [hA48]; exact hr48); rw [← hy48, ← hA48, ← hc48] at hcut48; have HO409 := ak (show Kd.V k64 64 _ w0.heap.size _ (.slice A48 y405.length c48) y405 from Kd.V_mk (by rw [hy48, hc48]; exact Nat.sub_le_sub_right hroom48 _) hr48); have HC409 := ak (show y405.length ≤ c48 from by rw [hy48, hc48]; exact Nat.sub_le_sub_right hroom48 _); clear hr48 hC48 hroom48 hi048 hsz48 hc48; have KY48 := ak hy48; have KA48 := ak hA48; clear hy48 hA48; replace q48 := eq_true q48) | ((with_reducible refine gate_builtin (b := .append) (xs := #[.tmp 69, .tmp 73]) rfl ?_); (try (refine gate_guard (by rfl) ?_; dsimp only)); at_builtin; refine Kd.N_append_rows k64 (w0 := w0) w0.heap.size rfl (.tmp 69) (.tmp 73) 34 64 (.agg #[(.slice none 0 0)]) 24 rfl Try.underlying34 info64 rfl (by decide) (by omega) v403 y402 y405 _ _ _ (fun k_ => (P0_ k_ ∨ w.heap.size ≤ k_)) (fun k_ => ((fun k_ => (P0_ k_ ∨ w.heap.size ≤ k_))) k_ ∧ some k_ ≠ (v403 : Value).ownBlock) rfl rfl ?aO ?aR (fun _ hk => hk) ?aF ?aB ?aS ?aL ?_; (case aR => exact (by skip; exact Kd.V_F (Kd.V_mono (ok' := (fun k_ => ((fun k_ => (P0_ k_ ∨ w.heap.size ≤ k_))) k_ ∧ some k_ ≠ (v403 : Value).ownBlock)) (HO409.out) (fun k_ hk => ⟨hk.1.1, hk.2⟩)))); (case aB => exact (by exact hopb HB.out)); (case aF => exact (fun k_ hk => (.inr (Nat.le_trans (by first | exact HK.out.1 | exact (show Kept w _ (fun k_ => P0_ k_) from by repeat (first | exact HK.out | apply Kept.alloc | apply Kept.drewN | apply Kept.drew)).1) hk)))); (case aO => exact (by (with_reducible repeat (first | apply Kd.N_alloc | apply Kd.N_drewN | apply Kd.N_drew)); exact HO404.out)); (case aS => exact (below_size (by exact hopb HB.out))); (case aL => have := LMc36.out; omega); intro v411 w49 ho hb hg hat; rw [← Ny410.out] at ho; replace HO_0 := ak (Kd.N_afterv (ok := (fun k_ => (P0_ k_ ∨ w.heap.size ≤ k_))) (by (with_reducible repeat (first | apply Kd.N_alloc | apply Kd.N_drewN | apply Kd.N_drew)); exact Kd.N_mono HO_0.out (fun _ hk => ⟨hk.1.1, hk.2⟩)) hg hat); replace HL383_0 := ak (Kd.V_afterv (ok := (fun k_ => (P0_ k_ ∨ w.heap.size ≤ k_) ∧ some k_ ≠ (.slice (some ad383) l0.length co19 : Value).ownBlock)) (by (with_reducible repeat (first | apply Kd.V_alloc | apply Kd.V_drewN | apply Kd.V_drew)); exact Kd.V_mono HL383_0.out (fun _ hk => ⟨⟨hk.1.1, hk.1.2.1⟩, hk.2⟩)) hg hat); replace HL387_0 := ak (Kd.V_afterv (ok := (fun k_ => (P0_ k_ ∨ w.heap.size ≤ k_) ∧ some k_ ≠ (.slice (some ad383) l0.length co19 : Value).ownBlock)) (by (with_reducible repeat (first | apply Kd.V_alloc | apply Kd.V_drewN | apply Kd.V_drew)); exact Kd.V_mono HL387_0.out (fun _ hk => ⟨⟨hk.1.1, hk.1.2.1⟩, hk.2⟩)) hg hat); replace HO398 := ak (Kd.V_afterv (ok := (fun k_ => (P0_ k_ ∨ w.heap.size ≤ k_))) (by (with_reducible repeat (first | apply Kd.V_alloc | apply Kd.V_drewN | apply Kd.V_drew)); exact Kd.V_mono HO398.out (fun _ hk => ⟨hk.1.1, hk.2⟩)) hg hat); replace HO409 := ak (Kd.V_afterv (ok := (fun k_ => (P0_ k_ ∨ w.heap.size ≤ k_))) (by (with_reducible repeat (first | apply Kd.V_alloc | apply Kd.V_drewN | apply Kd.V_drew)); exact Kd.V_mono HO409.out (fun _ hk => ⟨hk.1.1, hk.2⟩)) hg hat); replace HB := ak (hb); replace HK := ak (Kept.of_grown (S := (fun k_ => P0_ k_)) hg (by repeat (first | exact HK.out | apply Kept.alloc | apply Kept.drewN | apply Kept.drew)) (fun k_ e_ => (HO404.out.1 k_ e_))); have HO412 := ak (ho); clear HO404; clear ho hb hg hat))
                      go_ret
                      exact ⟨_, by first | rfl | (simp only [u8_w_, w64_u8_] <;> rfl) | (simp [errW_none, errW_some] <;> rfl) | (simp only [← hji24, ← hji33]; first | rfl | (simp [errW_none, errW_some] <;> rfl)) | (simp [*, errW_none, errW_some] <;> rfl), by (with_reducible repeat (first | apply Kd.N_alloc | apply Kd.N_drewN | apply Kd.N_drew)); exact HO412.out, by exact hopb HB.out, by repeat (first | exact HK.out | apply Kept.alloc | apply Kept.drewN | apply Kept.drew)⟩
                     ·rw [if_neg c36] at H
                      exact absurd H (by simp)
                    ·rw [if_neg c35] at H
                     exact absurd H (by simp)
                   ·rw [if_neg c34] at H
                    exact absurd H (by simp)
                  ·rw [if_neg c32] at H
                   exact absurd H (by simp)
                 ·rw [if_neg c31] at H
                  exact absurd H (by simp)
                ·rw [if_neg c30] at H
                 exact absurd H (by simp)
               ·rw [if_neg c28] at H
                have c28b0 : decide ((y388.length : Int) ≤ 4) = false := decide_eq_false c28
                have c28b1 : decide (y388.length ≤ 4) = false := decide_eq_false (by omega)
                clear c28
                by_cases c50 : x5_17 = a1
                ·rw [if_pos c50] at H
                 have c50b0 : (x5_17 == a1) = true := beq_iff_eq.mpr c50
                 have c50b1 : (x5_17 != a1) = false := bne_eq_false_iff_eq.mpr c50
                 clear c50
                 obtain ⟨y413, hy413⟩ : ∃ y_ : List (S71), y_ = (([] : List (S71))) := ⟨_, rfl⟩
                 replace H : (if 2 ≤ (y388.length : Int) then ((some (y388.take 2 : List (S71))).bind fun y416 => (if y413.length + y416.length < 5864062014805 then ((some (([] : List (S71)) : List (S71))).bind fun y425 => ((some (y388.drop 2 : List (S71))).bind fun y428 => (if y425.length + y428.length < 5864062014805 then (some ((l0.set (x5_17 : Int).toNat (⟨(y413 ++ y416)⟩ : S64)).set ((ji24) : Int).toNat (⟨(y425 ++ y428)⟩ : S64))) else (none)))) else (none))) else (none)) = some r := by first | (rw [hy413]; exact H) | exact H
                 have Ny413 := ak hy413
                 clear hy413
                 by_cases c51 : 2 ≤ (y388.length : Int)
                 ·rw [if_pos c51] at H
                  have c51b0 := eq_true c51
                  have c51b1 : decide (2 ≤ (y388.length : Int)) = true := decide_eq_true c51
                  clear c51
                  obtain ⟨y416, hy416⟩ : ∃ y_ : List (S71), y_ = (y388.take 2) := ⟨_, rfl⟩
                  replace H : (if y413.length + y416.length < 5864062014805 then ((some (([] : List (S71)) : List (S71))).bind fun y425 => ((some (y388.drop 2 : List (S71))).bind fun y428 => (if y425.length + y428.length < 5864062014805 then (some ((l0.set (x5_17 : Int).toNat (⟨(y413 ++ y416)⟩ : S64)).set ((ji24) : Int).toNat (⟨(y425 ++ y428)⟩ : S64))) else (none)))) else (none)) = some r := by first | (rw [hy416]; exact H) | exact H
                  have Ny416 := ak hy416
                  clear hy416
                  by_cases c52 : y413.length + y416.length < 5864062014805
                  ·rw [if_pos c52] at H
                   have LMc52 := ak c52
                   clear c52
                   obtain ⟨y421, hy421⟩ : ∃ y_ : List (S71), y_ = (y413 ++ y416) := ⟨_, rfl⟩
                   replace H : ((some (([] : List (S71)) : List (S71))).bind fun y425 => ((some (y388.drop 2 : List (S71))).bind fun y428 => (if y425.length + y428.length < 5864062014805 then (some ((l0.set (x5_17 : Int).toNat (⟨y421⟩ : S64)).set ((ji24) : Int).toNat (⟨(y425 ++ y428)⟩ : S64))) else (none)))) = some r := by first | (rw [hy421]; exact H) | exact H
                   have Ny421 := ak hy421
                   clear hy421
                   obtain ⟨y424, hy424⟩ : ∃ y_ : List (S64), y_ = (l0.set (x5_17 : Int).toNat (⟨y421⟩ : S64)) := ⟨_, rfl⟩
                   replace H : ((some (([] : List (S71)) : List (S71))).bind fun y425 => ((some (y388.drop 2 : List (S71))).bind fun y428 => (if y425.length + y428.length < 5864062014805 then (some (y424.set ((ji24) : Int).toNat (⟨(y425 ++ y428)⟩ : S64))) else (none)))) = some r := by first | (rw [hy424]; exact H) | exact H
                   have Ny424 := ak hy424
                   clear hy424
                   obtain ⟨y425, hy425⟩ : ∃ y_ : List (S71), y_ = (([] : List (S71))) := ⟨_, rfl⟩
                   replace H : ((some (y388.drop 2 : List (S71))).bind fun y428 => (if y425.length + y428.length < 5864062014805 then (some (y424.set ((ji24) : Int).toNat (⟨(y425 ++ y428)⟩ : S64))) else (none))) = some r := by first | (rw [hy425]; exact H) | exact H
                   have Ny425 := ak hy425
                   clear hy425
                   have c54b0 := eq_true (of_decide_eq_true (by assumption) : 2 ≤ (y388.length : Int))
                   obtain ⟨y428, hy428⟩ : ∃ y_ : List (S71), y_ = (y388.drop 2) := ⟨_, rfl⟩
                   replace H : (if y425.length + y428.length < 5864062014805 then (some (y424.set ((ji24) : Int).toNat (⟨(y425 ++ y428)⟩ : S64))) else (none)) = some r := by first | (rw [hy428]; exact H) | exact H
                   have Ny428 := ak hy428
                   clear hy428
                   by_cases c55 : y425.length + y428.length < 5864062014805
                   ·rw [if_pos c55] at H
                    have LMc55 := ak c55
                    clear c55
                    obtain ⟨y433, hy433⟩ : ∃ y_ : List (S71), y_ = (y425 ++ y428) := ⟨_, rfl⟩
                    replace H : (some (y424.set ((ji24) : Int).toNat (⟨y433⟩ : S64))) = some r := by first | (rw [hy433]; exact H) | exact H
                    have Ny433 := ak hy433
                    clear hy433
                    obtain ⟨y436, hy436⟩ : ∃ y_ : List (S64), y_ = (y424.set ((ji24) : Int).toNat (⟨y433⟩ : S64)) := ⟨_, rfl⟩
                    replace H : (some y436) = some r := by first | (rw [hy436]; exact H) | exact H
                    have Ny436 := ak hy436
                    clear hy436
                    obtain rfl := Option.some.inj H
                    try go_wp2
                    replace HO_0 := ak (Kd.N_drew HO_0.out)
                    replace HK := ak (Kept.drew HK.out)
                    replace HB := ak (below_drew1 HB.out)
                    have p383 : 0 ≤ (x5_17 : Int) := of_decide_eq_true (by assumption)
                    have q383 : x5_17 < (l0.length : Int) := of_decide_eq_true (by assumption)
                    obtain ⟨ad383, A383_0, c383_0, e383, hx383_0, hl383_0, hi383_0⟩ := at_T64 (Kd.N_reads' HO_0.out).2.2 x5_17 p383 q383
                    cases e383
                    obtain ⟨ce383, hce383, hMe383, hcc383⟩ := Kd.N_get HO_0.out z64 x5_17 p383 (by first | exact q383 | exact of_decide_eq_true (by assumption) | (have e_ := (Kd.N_reads' HO_0.out).1; omega))
                    obtain ⟨ua383_0, uc383_0, rfl, ul383_0, ge383_0⟩ := k64_openF hMe383
                    have hv383_0 := hcc383 0 _ rfl
                    rw [Nat.add_zero, show (k64).sz = 1 from rfl, Nat.mul_one] at hv383_0
                    replace hv383_0 := Option.some.inj (hv383_0.symm.trans hx383_0)
                    injection hv383_0 with hva_ hvn_ hvc_
                    rw [hva_] at ge383_0
                    rw [hvc_] at ul383_0
                    have HL383_0 := ak (show Kd.V k71 71 _ w0.heap.size _ _ ((rd_T64 l0 x5_17).f0) from Kd.V_mk ul383_0 ge383_0)
                    clear hva_ hvn_ hvc_ ge383_0 ul383_0
                    clear hcc383 hce383
                    have HR383_0 := ak hi383_0
                    have HC383_0 := ak hl383_0
                    clear hi383_0 hl383_0
                    replace p383 := eq_true p383
                    replace q383 := eq_true q383
                    have p387 : 0 ≤ ((ji24) : Int) := of_decide_eq_true (by assumption)
                    have q387 : (ji24) < (l0.length : Int) := of_decide_eq_true (by assumption)
                    obtain ⟨ad387, A387_0, c387_0, e387, hx387_0, hl387_0, hi387_0⟩ := at_T64 (Kd.N_reads' HO_0.out).2.2 (ji24) p387 q387
                    obtain rfl : ad383 = ad387 := (by injection e387)
                    obtain ⟨ce387, hce387, hMe387, hcc387⟩ := Kd.N_get HO_0.out z64 (ji24) p387 (by first | exact q387 | exact of_decide_eq_true (by assumption) | (have e_ := (Kd.N_reads' HO_0.out).1; omega))
                    obtain ⟨ua387_0, uc387_0, rfl, ul387_0, ge387_0⟩ := k64_openF hMe387
                    have hv387_0 := hcc387 0 _ rfl
                    rw [Nat.add_zero, show (k64).sz = 1 from rfl, Nat.mul_one] at hv387_0
                    replace hv387_0 := Option.some.inj (hv387_0.symm.trans hx387_0)
                    injection hv387_0 with hva_ hvn_ hvc_
                    rw [hva_] at ge387_0
                    rw [hvc_] at ul387_0
                    have HL387_0 := ak (show Kd.V k71 71 _ w0.heap.size _ _ ((rd_T64 l0 (ji24)).f0) from Kd.V_mk ul387_0 ge387_0)
                    clear hva_ hvn_ hvc_ ge387_0 ul387_0
                    clear hcc387 hce387
                    have HR387_0 := ak hi387_0
                    have HC387_0 := ak hl387_0
                    clear hi387_0 hl387_0
                    replace p387 := eq_true p387
                    replace q387 := eq_true q387
                    refine start_ (n := 15) (S := fun w' => w'.cell? (ad383.add (x5_17).toNat) = some (.slice A383_0 ((rd_T64 l0 x5_17).f0).length c383_0) ∧ w'.cell? (ad383.add ((ji24)).toNat) = some (.slice A387_0 ((rd_T64 l0 (ji24)).f0).length c387_0)) (ds := []) #[U,U,U,U,U,U,U,U,U,U,U,U,U,U,U] (by kernel_rfl) rfl rfl ⟨hx383_0, hx387_0⟩ (fun hHeld => ?_); refine with_tabW spec_l6Mend.tab8 spec_l6Mend.bits8 (fun HT_ HW_ => ?_)
                    generalize wc.drew = w57 at HO_0 HK HB HL383_0 HL387_0 HR383_0 HR387_0 hx383_0 hx387_0 hHeld ⊢
                    refine pure_ (i := 1) (N := some 43) (v := ?_) (a' := ?_) #[U,T,U,U,U,U,U,U,U,U,U,U,U,U,U] rfl rfl (any_of HT_.out (by kernel_rfl)) (fun _ _ _ h => h) (Or.inl ⟨by rfl, ?_⟩) ?_ ?_
                    rotate_left
                    ·intro w'
                     go_simp
                     with_reducible rfl
                    rotate_left
                    ·simp only [Act.put, lT, lZ, lS, i64_w, i32_w]
                     rfl
                    refine pure_ (i := 2) (N := some 44) (v := ?_) (a' := ?_) #[U,T,T,U,U,U,U,U,U,U,U,U,U,U,U] rfl rfl (any_of HT_.out (by kernel_rfl)) (fun _ _ _ h => h) (Or.inl ⟨by rfl, ?_⟩) ?_ ?_
                    rotate_left
                    ·intro w'
                     go_simp
                     with_reducible rfl
                    rotate_left
                    ·simp only [Act.put, lT, lZ, lS, i64_w, i32_w]
                     rfl
                    refine pure_ (i := 3) (N := some 45) (v := ?_) (a' := ?_) #[U,T,T,T,U,U,U,U,U,U,U,U,U,U,U] rfl rfl (any_of HT_.out (by kernel_rfl)) (fun _ _ _ h => h) (Or.inl ⟨by rfl, ?_⟩) ?_ ?_
                    rotate_left
                    ·intro w'
                     go_simp
                     with_reducible rfl
                    rotate_left
                    ·simp only [Act.put, lT, lZ, lS, i64_w, i32_w]
                     rfl
                    refine pure_ (i := 4) (N := some 46) (v := ?_) (a' := ?_) #[U,T,T,T,T,U,U,U,U,U,U,U,U,U,U] rfl rfl (any_of HT_.out (by kernel_rfl)) (fun _ _ _ h => h) (Or.inl ⟨by rfl, ?_⟩) ?_ ?_
                    rotate_left
                    ·intro w'
                     go_simp
                     with_reducible rfl
                    rotate_left
                    ·simp only [Act.put, lT, lZ, lS, i64_w, i32_w]
                     rfl
                    refine pure_ (i := 7) (N := some 49) (v := ?_) (a' := ?_) #[U,T,T,T,T,U,U,T,U,U,U,U,U,U,U] rfl rfl (any_of HT_.out (by kernel_rfl)) (fun _ _ _ h => h) (Or.inl ⟨by rfl, ?_⟩) ?_ ?_
                    rotate_left
                    ·intro w'
                     go_simp
                     with_reducible rfl
                    rotate_left
                    ·simp only [Act.put, lT, lZ, lS, i64_w, i32_w]
                     rfl
                    refine pure_ (i := 8) (N := some 50) (v := ?_) (a' := ?_) #[U,T,T,T,T,U,U,T,T,U,U,U,U,U,U] rfl rfl (any_of HT_.out (by kernel_rfl)) (fun _ _ _ h => h) (Or.inl ⟨by rfl, ?_⟩) ?_ ?_
                    rotate_left
                    ·intro w'
                     go_simp
                     with_reducible rfl
                    rotate_left
                    ·simp only [Act.put, lT, lZ, lS, i64_w, i32_w]
                     rfl
                    refine pure_ (i := 9) (N := some 51) (v := ?_) (a' := ?_) #[U,T,T,T,T,U,U,T,T,T,U,U,U,U,U] rfl rfl (any_of HT_.out (by kernel_rfl)) (fun _ _ _ h => h) (Or.inl ⟨by rfl, ?_⟩) ?_ ?_
                    rotate_left
                    ·intro w'
                     go_simp
                     with_reducible rfl
                    rotate_left
                    ·simp only [Act.put, lT, lZ, lS, i64_w, i32_w]
                     rfl
                    refine pure_ (i := 10) (N := some 52) (v := ?_) (a' := ?_) #[U,T,T,T,T,U,U,T,T,T,T,U,U,U,U] rfl rfl (any_of HT_.out (by kernel_rfl)) (fun _ _ _ h => h) (Or.inl ⟨by rfl, ?_⟩) ?_ ?_
                    rotate_left
                    ·intro w'
                     go_simp
                     with_reducible rfl
                    rotate_left
                    ·simp only [Act.put, lT, lZ, lS, i64_w, i32_w]
                     rfl
                    refine pure_ (i := 11) (N := some 53) (v := ?_) (a' := ?_) #[U,T,T,T,T,U,U,T,T,T,T,T,U,U,U] rfl rfl (any_of HT_.out (by kernel_rfl)) (fun _ _ _ h => h) (Or.inl ⟨by rfl, ?_⟩) ?_ ?_
                    rotate_left
                    ·intro w'
                     go_simp
                     with_reducible rfl
                    rotate_left
                    ·simp only [Act.put, lT, lZ, lS, i64_w, i32_w]
                     rfl
                    refine take_ (i := 5) (N := some 47) (v := ?_) (a' := ?_) #[U,T,T,T,T,T,U,T,T,T,T,T,U,U,U] rfl rfl (take_ofW HT_.out HW_.out (by kernel_rfl)) (fun _ _ _ h => h) (Or.inl ⟨by rfl, ?_⟩) hHeld ?_ ?_
                    rotate_left
                    ·rintro w' ⟨s0, s1⟩
                     go_simp
                     with_reducible rfl
                    rotate_left
                    ·simp only [Act.put, lT, lZ, lS, i64_w, i32_w]
                     rfl
                    refine take_ (i := 12) (N := some 54) (v := ?_) (a' := ?_) #[U,T,T,T,T,T,U,T,T,T,T,T,T,U,U] rfl rfl (take_ofW HT_.out HW_.out (by kernel_rfl)) (fun _ _ _ h => h) (Or.inl ⟨by rfl, ?_⟩) hHeld ?_ ?_
                    rotate_left
                    ·rintro w' ⟨s0, s1⟩
                     go_simp
                     with_reducible rfl
                    rotate_left
                    ·simp only [Act.put, lT, lZ, lS, i64_w, i32_w]
                     rfl
                    refine one_ (i := 0) (N := some 42) #[T,T,T,T,T,T,U,T,T,T,T,T,T,U,U] rfl rfl (one_of HT_.out (by kernel_rfl)) (by decide) (fun K hK => ?_)
                    refine Kd.R_lit_step k71 _ 71 ?hg (N := 42) ?hd (xs := ([] : List (S71))) (inner := []) (ok := fun _ => True) (okp := fun _ => True) ?hr ?hp (fun _ hk => hk) trivial (Below.refl _ _) (Nat.le_refl _) (by simp) ?_; (case hd => rfl); (case hg => rfl); (case hr => first | (go_simp; done) | (go_simp; rfl)); (case hp => exact (Reps.none _ _))
                    intro v381 w58 ho59 hb hg_ hnew_
                    have HS0_ := (hb.cell (World.block_lt_of_cell? _ _ (hHeld.1))).trans (hHeld.1)
                    have HS1_ := (hb.cell (World.block_lt_of_cell? _ _ (hHeld.2))).trans (hHeld.2)
                    clear hg_ hnew_
                    (first | rw [← Ny380.out] at ho59 | (simp only [Int.reduceToNat] at ho59; rw [← Ny380.out] at ho59))
                    replace HO_0 := ak (Kd.N_elder' (by (with_reducible repeat (first | apply Kd.N_alloc | apply Kd.N_drewN | apply Kd.N_drew)); exact HO_0.out) (Kd.R_base ho59) hb)
                    replace HL383_0 := ak (Kd.V_elder' (by (with_reducible repeat (first | apply Kd.V_alloc | apply Kd.V_drewN | apply Kd.V_drew)); exact HL383_0.out) (Kd.R_base ho59) hb)
                    replace HL387_0 := ak (Kd.V_elder' (by (with_reducible repeat (first | apply Kd.V_alloc | apply Kd.V_drewN | apply Kd.V_drew)); exact HL387_0.out) (Kd.R_base ho59) hb)
                    have HO382 := ak (Kd.R_lower (Kd.R_newM (M := fun k_ => (P0_ k_ ∨ w.heap.size ≤ k_)) ho59 (by first | exact HK.out.1 | exact (show Kept w _ (fun k_ => P0_ k_) from by repeat (first | exact HK.out | apply Kept.alloc | apply Kept.drewN | apply Kept.drew)).1) (fun k_ h_ => .inr h_)) (below_size (by exact hopb HB.out)))
                    replace HR383_0 := ak (Kd.C_below (by repeat (first | (with_reducible exact HR383_0.out) | (with_reducible refine Kd.C_alloc ?_ _) | (with_reducible refine Kd.C_drewN ?_ _) | (with_reducible refine Kd.C_drew ?_) | exact HR383_0.out)) hb)
                    replace HR387_0 := ak (Kd.C_below (by repeat (first | (with_reducible exact HR387_0.out) | (with_reducible refine Kd.C_alloc ?_ _) | (with_reducible refine Kd.C_drewN ?_ _) | (with_reducible refine Kd.C_drew ?_) | exact HR387_0.out)) hb)
                    replace HK := ak (Kept.below (S := (fun k_ => P0_ k_)) (by repeat (first | exact HK.out | apply Kept.alloc | apply Kept.drewN | apply Kept.drew)) hb)
                    replace HB := ak (below_step (by exact hopb HB.out) hb)
                    clear hb ho59
                    refine hK.out _ _ ⟨HS0_, HS1_⟩ (fun hHeld => ?_)
                    clear hK K
                    refine norm_ (a' := ?_) ?_ ?_
                    rotate_left
                    ·show Act.put _ (some 42) _ = _
                     simp only [Act.put, lT, lZ, lS, i64_w, i32_w]
                     rfl
                    refine one_ (i := 6) (N := some 48) #[T,T,T,T,T,T,T,T,T,T,T,T,T,U,U] rfl rfl (one_of HT_.out (by kernel_rfl)) (by decide) (fun K hK => ?_)
                    refine Kd.R_append_rows_step k71 (w0 := w0) w0.heap.size (by rfl) (.tmp 42) (.tmp 47) 32 71 (.agg #[(.string ⟨#[]⟩), (.int .i64 0)]) 24 rfl Try.underlying32 info71 rfl (by decide) (by omega) v381 y380 ((rd_T64 l0 x5_17).f0) _ _ _ (fun k_ => (P0_ k_ ∨ w.heap.size ≤ k_)) (fun _ => False) rfl rfl ?aO ?aR (fun _ _ h => h) (fun _ h => h.elim) ?aF ?aB ?aS ?aL ?_
                    (case aR => repeat (first | exact (by repeat (first | (with_reducible exact HR383_0.out) | (with_reducible refine Kd.C_alloc ?_ _) | (with_reducible refine Kd.C_drewN ?_ _) | (with_reducible refine Kd.C_drew ?_) | exact HR383_0.out)) | (with_reducible refine Kd.C_alloc ?_ _) | (with_reducible refine Kd.C_drewN ?_ _) | (with_reducible refine Kd.C_drew ?_)))
                    (case aB => exact (by exact hopb HB.out))
                    (case aF => exact (fun k_ hk => (.inr (Nat.le_trans (by first | exact HK.out.1 | exact (show Kept w _ (fun k_ => P0_ k_) from by repeat (first | exact HK.out | apply Kept.alloc | apply Kept.drewN | apply Kept.drew)).1) hk))))
                    (case aO => exact (by (with_reducible repeat (first | apply Kd.R_alloc | apply Kd.R_drewN | apply Kd.R_drew)); exact Kd.R_mono HO382.out (fun _ hk => hk.1)))
                    (case aS => exact (below_size (by exact hopb HB.out)))
                    (case aL => have := LMc23.out; omega)
                    intro v385 w60 ho hb hg hat
                    have HS0_ := cell_grown hg (hHeld.1) (by first | (rw [add_block]; exact (HO_0.out.1 _ rfl).2) | (show some (Addr.add _ _).block ≠ _; rw [add_block]; exact (HO_0.out.1 _ rfl).2) | exact (HO_0.out.1 _ rfl).2)
                    have HS1_ := cell_grown hg (hHeld.2) (by first | (rw [add_block]; exact (HO_0.out.1 _ rfl).2) | (show some (Addr.add _ _).block ≠ _; rw [add_block]; exact (HO_0.out.1 _ rfl).2) | exact (HO_0.out.1 _ rfl).2)
                    rw [← Ny384.out] at ho
                    replace HO_0 := ak (Kd.N_afterv (ok := (fun k_ => (P0_ k_ ∨ w.heap.size ≤ k_))) (by (with_reducible repeat (first | apply Kd.N_alloc | apply Kd.N_drewN | apply Kd.N_drew)); exact HO_0.out) hg hat)
                    replace HL383_0 := ak (Kd.V_afterv (ok := (fun k_ => (P0_ k_ ∨ w.heap.size ≤ k_) ∧ some k_ ≠ (.slice (some ad383) l0.length co19 : Value).ownBlock)) (by (with_reducible repeat (first | apply Kd.V_alloc | apply Kd.V_drewN | apply Kd.V_drew)); exact HL383_0.out) hg hat)
                    replace HL387_0 := ak (Kd.V_afterv (ok := (fun k_ => (P0_ k_ ∨ w.heap.size ≤ k_) ∧ some k_ ≠ (.slice (some ad383) l0.length co19 : Value).ownBlock)) (by (with_reducible repeat (first | apply Kd.V_alloc | apply Kd.V_drewN | apply Kd.V_drew)); exact HL387_0.out) hg hat)
                    replace HB := ak (hb)
                    replace HK := ak (Kept.of_grown (S := (fun k_ => P0_ k_)) hg (by repeat (first | exact HK.out | apply Kept.alloc | apply Kept.drewN | apply Kept.drew)) (fun k_ e_ => (HO382.out.1 k_ e_).1))
                    have HO386 := ak (ho)
                    clear HO382
                    clear ho hb hg hat
                    refine hK.out _ _ ⟨HS0_, HS1_⟩ (fun hHeld => ?_)
                    clear hK K
                    refine norm_ (a' := ?_) ?_ ?_
                    rotate_left
                    ·show Act.put _ (some 48) _ = _
                     simp only [Act.put, lT, lZ, lS, i64_w, i32_w]
                     rfl
                    refine one_ (i := 13) (N := some 55) #[T,T,T,T,T,T,T,T,T,T,T,T,T,T,U] rfl rfl (one_of HT_.out (by kernel_rfl)) (by decide) (fun K hK => ?_)
                    refine Kd.R_append_rows_step k71 (w0 := w0) w0.heap.size (by rfl) (.tmp 48) (.tmp 54) 32 71 (.agg #[(.string ⟨#[]⟩), (.int .i64 0)]) 24 rfl Try.underlying32 info71 rfl (by decide) (by omega) v385 y384 ((rd_T64 l0 (ji24)).f0) _ _ _ (fun k_ => (P0_ k_ ∨ w.heap.size ≤ k_)) (fun _ => False) rfl rfl ?aO ?aR (fun _ _ h => h) (fun _ h => h.elim) ?aF ?aB ?aS ?aL ?_
                    (case aR => repeat (first | exact ((Kd.V_reads' (by (with_reducible repeat (first | apply Kd.V_alloc | apply Kd.V_drewN | apply Kd.V_drew)); exact HL387_0.out)).2.2) | (with_reducible refine Kd.C_alloc ?_ _) | (with_reducible refine Kd.C_drewN ?_ _) | (with_reducible refine Kd.C_drew ?_)))
                    (case aB => exact (by exact hopb HB.out))
                    (case aF => exact (fun k_ hk => (.inr (Nat.le_trans (by first | exact HK.out.1 | exact (show Kept w _ (fun k_ => P0_ k_) from by repeat (first | exact HK.out | apply Kept.alloc | apply Kept.drewN | apply Kept.drew)).1) hk))))
                    (case aO => exact (by (with_reducible repeat (first | apply Kd.R_alloc | apply Kd.R_drewN | apply Kd.R_drew)); exact HO386.out))
                    (case aS => exact (below_size (by exact hopb HB.out)))
                    (case aL => have := LMc27.out; omega)
                    intro v389 w61 ho hb hg hat
                    have HS0_ := cell_grown hg (hHeld.1) (by first | (rw [add_block]; exact (HO_0.out.1 _ rfl).2) | (show some (Addr.add _ _).block ≠ _; rw [add_block]; exact (HO_0.out.1 _ rfl).2) | exact (HO_0.out.1 _ rfl).2)
                    have HS1_ := cell_grown hg (hHeld.2) (by first | (rw [add_block]; exact (HO_0.out.1 _ rfl).2) | (show some (Addr.add _ _).block ≠ _; rw [add_block]; exact (HO_0.out.1 _ rfl).2) | exact (HO_0.out.1 _ rfl).2)
                    rw [← Ny388.out] at ho
                    replace HO_0 := ak (Kd.N_afterv (ok := (fun k_ => (P0_ k_ ∨ w.heap.size ≤ k_))) (by (with_reducible repeat (first | apply Kd.N_alloc | apply Kd.N_drewN | apply Kd.N_drew)); exact HO_0.out) hg hat)
                    replace HL383_0 := ak (Kd.V_afterv (ok := (fun k_ => (P0_ k_ ∨ w.heap.size ≤ k_) ∧ some k_ ≠ (.slice (some ad383) l0.length co19 : Value).ownBlock)) (by (with_reducible repeat (first | apply Kd.V_alloc | apply Kd.V_drewN | apply Kd.V_drew)); exact HL383_0.out) hg hat)
                    replace HL387_0 := ak (Kd.V_afterv (ok := (fun k_ => (P0_ k_ ∨ w.heap.size ≤ k_) ∧ some k_ ≠ (.slice (some ad383) l0.length co19 : Value).ownBlock)) (by (with_reducible repeat (first | apply Kd.V_alloc | apply Kd.V_drewN | apply Kd.V_drew)); exact HL387_0.out) hg hat)
                    replace HB := ak (hb)
                    replace HK := ak (Kept.of_grown (S := (fun k_ => P0_ k_)) hg (by repeat (first | exact HK.out | apply Kept.alloc | apply Kept.drewN | apply Kept.drew)) (fun k_ e_ => (HO386.out.1 k_ e_)))
                    have HO390 := ak (ho)
                    clear HO386
                    clear ho hb hg hat
                    refine hK.out _ _ ⟨HS0_, HS1_⟩ (fun hHeld => ?_)
                    clear hK K
                    refine norm_ (a' := ?_) ?_ ?_
                    rotate_left
                    ·show Act.put _ (some 55) _ = _
                     simp only [Act.put, lT, lZ, lS, i64_w, i32_w]
                     rfl
                    refine pure_ (i := 14) (N := some 6) (v := ?_) (a' := ?_) #[T,T,T,T,T,T,T,T,T,T,T,T,T,T,T] rfl rfl (any_of HT_.out (by kernel_rfl)) (fun _ _ _ h => h) (Or.inl ⟨by rfl, ?_⟩) ?_ ?_
                    rotate_left
                    ·intro w'
                     go_simp
                     with_reducible rfl
                    rotate_left
                    ·simp only [Act.put, lT, lZ, lS, i64_w, i32_w]
                     rfl
                    refine done_ (done_of HT_.out (by kernel_rfl)) ?_
                    obtain ⟨Ao62, co62, eo62⟩ := Kd.R_slice HO390.out
                    subst eo62
                    try go_wp2_with (first | ((with_reducible refine gate_dst (N := 83) rfl ?_); (try (refine gate_guard (by rfl) ?_; dsimp only)); refine Kd.R_lit k71 _ 71 ?hg (N := 83) ?hd (xs := ([] : List (S71))) (inner := []) (ok := fun _ => True) (okp := fun _ => True) ?hr ?hp (fun _ hk => hk) trivial (Below.refl _ _) (Nat.le_refl _) (by simp) ?_; (case hd => rfl); (case hg => rfl); (case hr => first | (go_simp; done) | (go_simp; rfl)); (case hp => exact (Reps.none _ _)); intro v414 w63 ho64 hb hg_ hnew_; clear hg_ hnew_; (first | rw [← Ny413.out] at ho64 | (simp only [Int.reduceToNat] at ho64; rw [← Ny413.out] at ho64)); replace HO_0 := ak (Kd.N_elder' (by (with_reducible repeat (first | apply Kd.N_alloc | apply Kd.N_drewN | apply Kd.N_drew)); exact HO_0.out) (Kd.R_base ho64) hb); replace HL383_0 := ak (Kd.V_elder' (by (with_reducible repeat (first | apply Kd.V_alloc | apply Kd.V_drewN | apply Kd.V_drew)); exact HL383_0.out) (Kd.R_base ho64) hb); replace HL387_0 := ak (Kd.V_elder' (by (with_reducible repeat (first | apply Kd.V_alloc | apply Kd.V_drewN | apply Kd.V_drew)); exact HL387_0.out) (Kd.R_base ho64) hb); have HO415 := ak (Kd.R_lower (Kd.R_new' (Kd.R_newM (M := fun k_ => (P0_ k_ ∨ w.heap.size ≤ k_)) ho64 (by first | exact HK.out.1 | exact (show Kept w _ (fun k_ => P0_ k_) from by repeat (first | exact HK.out | apply Kept.alloc | apply Kept.drewN | apply Kept.drew)).1) (fun k_ h_ => .inr h_)) (Kd.R_lt (by (with_reducible repeat (first | apply Kd.R_alloc | apply Kd.R_drewN | apply Kd.R_drew)); exact HO390.out))) (below_size (by exact hopb HB.out))); replace HO390 := ak (Kd.R_elder' (by (with_reducible repeat (first | apply Kd.R_alloc | apply Kd.R_drewN | apply Kd.R_drew)); exact HO390.out) (Kd.R_base ho64) hb); replace HK := ak (Kept.below (S := (fun k_ => P0_ k_)) (by repeat (first | exact HK.out | apply Kept.alloc | apply Kept.drewN | apply Kept.drew)) hb); replace HB := ak (below_step (by exact hopb HB.out) hb); clear hb ho64; have q65 : (2 : Int) ≤ ((y388.length : Int) : Int) := of_decide_eq_true (by assumption); obtain ⟨i065, hi065, _, hsz65, _⟩ := info_parts info71; have hroom65 : y388.length ≤ co62 := (Kd.R_reads' HO390.out).2.1; have hC65 : Kd.F k71 _ _ Ao62 y388.length y388 := (Kd.V_at (base := w0.heap.size) (Kd.R_V (Kd.R_apart' (HO390.out) (Kd.N_typed HO_0.out) (by decide)))).2.2; have hcut65 := cut_to (P := Try.prog) 32 71 .i64 Try.underlying32 hi065 Ao62 y388.length co62 2 (by omega) q65 hroom65; have hr65 := Kd.F_take (m := 2) hC65 (by omega); have hy65 : y416.length = (2 : Int).toNat := (by rw [Ny416.out, List.length_take]; omega); rw [← Ny416.out] at hr65; rw [← hy65] at hcut65; have HO420 := ak (show Kd.V k71 71 _ w0.heap.size _ (.slice Ao62 y416.length co62) y416 from Kd.V_mk (by omega) hr65); have HC420 := ak (show y416.length ≤ co62 from by omega); clear hr65 hC65 hroom65 hi065 hsz65; have KY65 := ak hy65; clear hy65; replace q65 := eq_true q65) | ((with_reducible refine gate_builtin (b := .append) (xs := #[.tmp 83, .tmp 86]) rfl ?_); (try (refine gate_guard (by rfl) ?_; dsimp only)); at_builtin; refine Kd.R_append_rows k71 (w0 := w0) w0.heap.size rfl (.tmp 83) (.tmp 86) 32 71 (.agg #[(.string ⟨#[]⟩), (.int .i64 0)]) 24 rfl Try.underlying32 info71 rfl (by decide) (by omega) v414 y413 y416 _ _ _ (fun k_ => (P0_ k_ ∨ w.heap.size ≤ k_) ∧ some k_ ≠ (.slice Ao62 y388.length co62 : Value).ownBlock) (fun _ => False) rfl rfl ?aO ?aR (fun _ _ h => h) (fun _ h => h.elim) ?aF ?aB ?aS ?aL ?_; (case aR => repeat (first | exact (Kd.V_reads' HO420.out).2.2 | (with_reducible refine Kd.C_alloc ?_ _) | (with_reducible refine Kd.C_drewN ?_ _) | (with_reducible refine Kd.C_drew ?_))); (case aB => exact (by exact hopb HB.out)); (case aF => exact (fun k_ hk => ⟨(.inr (Nat.le_trans (by first | exact HK.out.1 | exact (show Kept w _ (fun k_ => P0_ k_) from by repeat (first | exact HK.out | apply Kept.alloc | apply Kept.drewN | apply Kept.drew)).1) hk)), Kd.fresh' (Kd.R_lt (by (with_reducible repeat (first | apply Kd.R_alloc | apply Kd.R_drewN | apply Kd.R_drew)); exact HO390.out)) k_ hk⟩)); (case aO => exact (by (with_reducible repeat (first | apply Kd.R_alloc | apply Kd.R_drewN | apply Kd.R_drew)); exact Kd.R_mono HO415.out (fun _ hk => ⟨hk.1.1, hk.2⟩))); (case aS => exact (below_size (by exact hopb HB.out))); (case aL => have := LMc52.out; omega); intro v422 w66 ho hb hg hat; rw [← Ny421.out] at ho; replace HO_0 := ak (Kd.N_afterv (ok := (fun k_ => (P0_ k_ ∨ w.heap.size ≤ k_) ∧ some k_ ≠ (.slice Ao62 y388.length co62 : Value).ownBlock)) (by (with_reducible repeat (first | apply Kd.N_alloc | apply Kd.N_drewN | apply Kd.N_drew)); exact HO_0.out) hg hat); replace HL383_0 := ak (Kd.V_afterv (ok := (fun k_ => (P0_ k_ ∨ w.heap.size ≤ k_) ∧ some k_ ≠ (.slice (some ad383) l0.length co19 : Value).ownBlock ∧ some k_ ≠ (.slice Ao62 y388.length co62 : Value).ownBlock)) (by (with_reducible repeat (first | apply Kd.V_alloc | apply Kd.V_drewN | apply Kd.V_drew)); exact Kd.V_mono HL383_0.out (fun _ hk => ⟨⟨hk.1.1.1, ⟨hk.1.1.2, hk.1.2⟩⟩, hk.2⟩)) hg hat); replace HL387_0 := ak (Kd.V_afterv (ok := (fun k_ => (P0_ k_ ∨ w.heap.size ≤ k_) ∧ some k_ ≠ (.slice (some ad383) l0.length co19 : Value).ownBlock ∧ some k_ ≠ (.slice Ao62 y388.length co62 : Value).ownBlock)) (by (with_reducible repeat (first | apply Kd.V_alloc | apply Kd.V_drewN | apply Kd.V_drew)); exact Kd.V_mono HL387_0.out (fun _ hk => ⟨⟨hk.1.1.1, ⟨hk.1.1.2, hk.1.2⟩⟩, hk.2⟩)) hg hat); replace HO390 := ak (Kd.R_after (ok := (fun k_ => (P0_ k_ ∨ w.heap.size ≤ k_))) (by (with_reducible repeat (first | apply Kd.R_alloc | apply Kd.R_drewN | apply Kd.R_drew)); exact HO390.out) hg hat); replace HO420 := ak (Kd.V_afterv (ok := (fun k_ => (P0_ k_ ∨ w.heap.size ≤ k_) ∧ some k_ ≠ (.slice (some ad383) l0.length co19 : Value).ownBlock)) (by (with_reducible repeat (first | apply Kd.V_alloc | apply Kd.V_drewN | apply Kd.V_drew)); exact Kd.V_mono HO420.out (fun _ hk => ⟨⟨hk.1.1, hk.2⟩, hk.1.2⟩)) hg hat); replace HB := ak (hb); replace HK := ak (Kept.of_grown (S := (fun k_ => P0_ k_)) hg (by repeat (first | exact HK.out | apply Kept.alloc | apply Kept.drewN | apply Kept.drew)) (fun k_ e_ => (HO415.out.1 k_ e_).1.1)); have HO423 := ak (ho); clear HO415; clear ho hb hg hat; have p53 : 0 ≤ (x5_17 : Int) := of_decide_eq_true (by assumption); have q53 : (x5_17 : Int) < ((l0.length : Int) : Int) := of_decide_eq_true (by assumption); obtain ⟨go53, co53, eo53, gb53, gl53, cl53, HG53⟩ := Kd.N_form HO_0.out (by omega); (first | cases eo53 | (injection eo53 with ea_ en_ ec_; (first | subst ea_ | (injection ea_ with ea_; subst ea_)); subst ec_; clear en_)); have GB53 := ak gb53; have GG53 := ak HG53; clear gb53 gl53 HG53; have HMgo53 := ak (show (P0_ go53 ∨ w.heap.size ≤ go53) from (HO_0.out.1 _ rfl).1.1); (first | simp only [add_plain] at hx383_0 | skip); (first | simp only [add_plain] at hx387_0 | skip); obtain ⟨ce53, hcl53, hM53, hcc53, hfr53⟩ := Kd.N_elem HO_0.out z64 (x5_17 : Int) p53 q53; obtain ⟨ua53_0, uc53_0, rfl, ul53_0, ge53_0⟩ := k64_openF hM53; have hx53_0 := hcc53 0 _ rfl; have hf53_0 := hfr53 0; (try simp only [show (k64).sz = 1 from rfl, Nat.mul_one, Nat.add_zero] at hx53_0); (try simp only [show (k64).sz = 1 from rfl, Nat.mul_one, Nat.add_zero] at hf53_0); clear hcl53 hcc53 hfr53 hM53; replace p53 := eq_true p53; replace q53 := eq_true q53; have n_ := ak (Kd.N_mono (ok' := (fun k_ => (P0_ k_ ∨ w.heap.size ≤ k_) ∧ some k_ ≠ (.slice Ao62 y388.length co62 : Value).ownBlock ∧ some k_ ≠ (v422 : Value).ownBlock)) HO_0.out (fun k_ hk => ⟨hk.1.1, ⟨hk.1.2, hk.2⟩⟩)); clear HO_0; have HO_0 := n_; clear n_; have HX67 := ak (show Kd.N k64 64 w66 w0.heap.size (fun k_ => (P0_ k_ ∨ w.heap.size ≤ k_) ∧ some k_ ≠ (.slice Ao62 y388.length co62 : Value).ownBlock) (.slice (some ⟨go53, 0, none⟩) l0.length co19) l0 from (by (with_reducible repeat (first | apply Kd.N_alloc | apply Kd.N_drewN | apply Kd.N_drew)); exact Kd.N_mono HO_0.out (fun _ hk => ⟨hk.1, hk.2.1⟩))); obtain ⟨ce67, hcl67, hM67, hcc67, hfr67⟩ := Kd.N_elem HX67.out z64 (x5_17 : Int) (of_decide_eq_true (by assumption)) (by have h_ : (x5_17 : Int) < ((l0.length : Int) : Int) := of_decide_eq_true (by assumption); first | exact h_ | (have e_ := (Kd.N_reads' HO_0.out).1; omega) | simpa using h_); obtain ⟨ua67_0, uc67_0, rfl, ul67_0, ge67_0⟩ := k64_openF hM67; have HP67 := Kd.N_seg HX67.out (x5_17 : Int) (of_decide_eq_true (by assumption)) (by have h_ : (x5_17 : Int) < ((l0.length : Int) : Int) := of_decide_eq_true (by assumption); first | exact h_ | (have e_ := (Kd.N_reads' HO_0.out).1; omega) | simpa using h_) (seg := [v422]) (j := 0) hcl67 hcc67 (show 1 ≤ 1 from by decide) (x' := (⟨y421⟩ : S64)) (by have hmk_ := Kd.R_mono (ok' := (fun k_ => ((fun k_ => (P0_ k_ ∨ w.heap.size ≤ k_) ∧ some k_ ≠ (.slice Ao62 y388.length co62 : Value).ownBlock)) k_ ∧ k_ ≠ go53)) (Kd.R_apart' (HO423.out) (Kd.N_typed HO_0.out) (by decide)) (fun k_ hk => ⟨⟨hk.1.1, hk.1.2⟩, fun e_ => (hk.2) (by rw [e_]; rfl)⟩); obtain ⟨Am_, cm_, em_⟩ := Kd.R_slice hmk_; rw [em_] at hmk_ ⊢; exact k64_mkF _ _ (⟨y421⟩ : S64) (Kd.R_reads' hmk_).2.1 (Kd.R_F hmk_)) (fun _ hk => hk); have hx67_0 := hcc67 0 _ rfl; (try simp only [show (k64).sz = 1 from rfl, Nat.mul_one, Nat.add_zero] at hx67_0); have hf67_0 := hfr67 0; (try simp only [show (k64).sz = 1 from rfl, Nat.mul_one, Nat.add_zero] at hf67_0); clear hcl67 hcc67 hfr67 hM67; (try simp only [show (k64).sz = 1 from rfl, Nat.mul_one, Nat.add_zero] at HP67); (try simp only [show (k64).sz = 1 from rfl, Nat.mul_one, Nat.add_zero] at HP67)) | ((with_reducible refine gate_store (t := 32) (p := 89) rfl ?_); refine store_event (t := 32) (p := 89) (v := ?vo_w68) (w1 := (w66.setCell ⟨go53, (x5_17 : Int).toNat, none⟩ (v422))) ?hg ?ho ?hn ?hr ?_; (case ho => rfl); (case hg => rfl); (case hn => rfl); (case hr => first | (go_simp; done) | (go_simp; rfl) | (obtain ⟨A_, c_, e_⟩ := Kd.R_slice (‹Aside0 (Kd.R _ _ _ _ _ v422 _)›).out; rw [e_]; first | (go_simp; done) | (go_simp; rfl)) | (have one_ : Value.oneCell' v422 = true := (by (first | obtain ⟨A_, c_, e_⟩ := Kd.R_slice (‹Aside0 (Kd.R _ _ _ _ _ v422 _)›).out | obtain ⟨A_, c_, e_⟩ := Kd.N_slice (‹Aside0 (Kd.N _ _ _ _ _ v422 _)›).out | obtain ⟨A_, c_, e_⟩ := Kd.S_slice (‹Aside0 (Kd.S _ _ _ _ _ v422 _)›).out); rw [e_]; rfl); have sto_ := fun (a_ : Addr) m_ (w_ : World) => run_store Try.prog w_ a_ v422 m_ one_; first | (go_simp; done) | (go_simp; rfl))); intro w68 hw; have hg : w66.grownBy w68 (some go53) := (by rw [hw]; exact HP67.2); have hp_ : Kd.N k64 64 w68 w0.heap.size (fun k_ => (P0_ k_ ∨ w.heap.size ≤ k_) ∧ some k_ ≠ (.slice Ao62 y388.length co62 : Value).ownBlock) (.slice (some ⟨go53, 0, none⟩) l0.length co19) y424 := (by rw [hw, Ny424.out]; exact HP67.1); clear HP67; replace HL383_0 := ak (Kd.V_afterv (v := (.slice (some ⟨go53, 0, none⟩) l0.length co19)) (v1 := (.slice (some ⟨go53, 0, none⟩) l0.length co19)) (ok := (fun k_ => (P0_ k_ ∨ w.heap.size ≤ k_) ∧ some k_ ≠ (.slice Ao62 y388.length co62 : Value).ownBlock ∧ some k_ ≠ (v422 : Value).ownBlock)) (by (with_reducible repeat (first | apply Kd.V_alloc | apply Kd.V_drewN | apply Kd.V_drew)); exact Kd.V_mono HL383_0.out (fun _ hk => ⟨⟨hk.1.1, ⟨hk.1.2.2, hk.2⟩⟩, hk.1.2.1⟩)) hg (.inl rfl)); replace HL387_0 := ak (Kd.V_afterv (v := (.slice (some ⟨go53, 0, none⟩) l0.length co19)) (v1 := (.slice (some ⟨go53, 0, none⟩) l0.length co19)) (ok := (fun k_ => (P0_ k_ ∨ w.heap.size ≤ k_) ∧ some k_ ≠ (.slice Ao62 y388.length co62 : Value).ownBlock ∧ some k_ ≠ (v422 : Value).ownBlock)) (by (with_reducible repeat (first | apply Kd.V_alloc | apply Kd.V_drewN | apply Kd.V_drew)); exact Kd.V_mono HL387_0.out (fun _ hk => ⟨⟨hk.1.1, ⟨hk.1.2.2, hk.2⟩⟩, hk.1.2.1⟩)) hg (.inl rfl)); replace HO390 := ak (Kd.R_over' (v := (.slice (some ⟨go53, 0, none⟩) l0.length co19)) (by (with_reducible repeat (first | apply Kd.R_alloc | apply Kd.R_drewN | apply Kd.R_drew)); exact HO390.out) (Kd.N_typed HO_0.out) (by decide) hg); replace HO420 := ak (Kd.V_afterv (v := (.slice (some ⟨go53, 0, none⟩) l0.length co19)) (v1 := (.slice (some ⟨go53, 0, none⟩) l0.length co19)) (ok := (fun k_ => (P0_ k_ ∨ w.heap.size ≤ k_) ∧ some k_ ≠ (v422 : Value).ownBlock)) (by (with_reducible repeat (first | apply Kd.V_alloc | apply Kd.V_drewN | apply Kd.V_drew)); exact Kd.V_mono HO420.out (fun _ hk => ⟨⟨hk.1.1, hk.2⟩, hk.1.2⟩)) hg (.inl rfl)); replace HB := ak ((by rw [hw]; exact below_set (HB.out) GB53.out : Below w0.heap.size w0 w68)); replace HK := ak (Kept.of_grown (S := (fun k_ => P0_ k_)) hg (by repeat (first | exact HK.out | apply Kept.alloc | apply Kept.drewN | apply Kept.drew)) (fun k_ e_ => (HO_0.out.1 k_ e_).1)); replace HO_0 := ak (hp_); clear HO423; clear hg hw hp_) | ((with_reducible refine gate_dst (N := 93) rfl ?_); (try (refine gate_guard (by rfl) ?_; dsimp only)); refine Kd.R_lit k71 _ 71 ?hg (N := 93) ?hd (xs := ([] : List (S71))) (inner := []) (ok := fun _ => True) (okp := fun _ => True) ?hr ?hp (fun _ hk => hk) trivial (Below.refl _ _) (Nat.le_refl _) (by simp) ?_; (case hd => rfl); (case hg => rfl); (case hr => first | (go_simp; done) | (go_simp; rfl)); (case hp => exact (Reps.none _ _)); intro v426 w69 ho70 hb hg_ hnew_; clear hg_ hnew_; (first | rw [← Ny425.out] at ho70 | (simp only [Int.reduceToNat] at ho70; rw [← Ny425.out] at ho70)); replace HO_0 := ak (Kd.N_elder' (by (with_reducible repeat (first | apply Kd.N_alloc | apply Kd.N_drewN | apply Kd.N_drew)); exact HO_0.out) (Kd.R_base ho70) hb); replace HL383_0 := ak (Kd.V_elder' (by (with_reducible repeat (first | apply Kd.V_alloc | apply Kd.V_drewN | apply Kd.V_drew)); exact HL383_0.out) (Kd.R_base ho70) hb); replace HL387_0 := ak (Kd.V_elder' (by (with_reducible repeat (first | apply Kd.V_alloc | apply Kd.V_drewN | apply Kd.V_drew)); exact HL387_0.out) (Kd.R_base ho70) hb); replace HO420 := ak (Kd.V_elder' (by (with_reducible repeat (first | apply Kd.V_alloc | apply Kd.V_drewN | apply Kd.V_drew)); exact HO420.out) (Kd.R_base ho70) hb); have HO427 := ak (Kd.R_lower (Kd.R_new' (Kd.R_newM (M := fun k_ => (P0_ k_ ∨ w.heap.size ≤ k_)) ho70 (by first | exact HK.out.1 | exact (show Kept w _ (fun k_ => P0_ k_) from by repeat (first | exact HK.out | apply Kept.alloc | apply Kept.drewN | apply Kept.drew)).1) (fun k_ h_ => .inr h_)) (Kd.R_lt (by (with_reducible repeat (first | apply Kd.R_alloc | apply Kd.R_drewN | apply Kd.R_drew)); exact HO390.out))) (below_size (by exact hopb HB.out))); replace HO390 := ak (Kd.R_elder' (by (with_reducible repeat (first | apply Kd.R_alloc | apply Kd.R_drewN | apply Kd.R_drew)); exact HO390.out) (Kd.R_base ho70) hb); replace HK := ak (Kept.below (S := (fun k_ => P0_ k_)) (by repeat (first | exact HK.out | apply Kept.alloc | apply Kept.drewN | apply Kept.drew)) hb); replace HB := ak (below_step (by exact hopb HB.out) hb); clear hb ho70; have q71 : (2 : Int) ≤ ((y388.length : Int) : Int) := of_decide_eq_true (by assumption); obtain ⟨i071, hi071, _, hsz71, _⟩ := info_parts info71; have hroom71 : y388.length ≤ co62 := (Kd.R_reads' HO390.out).2.1; have hC71 : Kd.F k71 _ _ Ao62 y388.length y388 := (Kd.V_at (base := w0.heap.size) (Kd.R_V (Kd.R_apart' (HO390.out) (Kd.N_typed HO_0.out) (by decide)))).2.2; have hcut71 := cut_from (P := Try.prog) 32 71 .i64 Try.underlying32 hi071 2 hsz71 Ao62 y388.length co62 2 (by omega) q71; have hr71 := Kd.F_cut (m := (2 : Int).toNat) (c := co62) hC71 (by omega) hroom71; obtain ⟨A71, hA71⟩ : ∃ A1, A1 = (if co62 = (2 : Int).toNat then Ao62 else (Ao62 : Option Addr).map (·.add ((2 : Int).toNat * 2))) := ⟨_, rfl⟩; obtain ⟨c71, hc71⟩ : ∃ c1, c1 = co62 - (2 : Int).toNat := ⟨_, rfl⟩; have hy71 : y428.length = y388.length - (2 : Int).toNat := (by rw [Ny428.out, List.length_drop] <;> omega); rw [show (y388).drop (2 : Int).toNat = y428 from Ny428.out.symm] at hr71; replace hr71 : Kd.F k71 _ _ A71 y428.length y428 := (by rw [hA71]; exact hr71); rw [← hy71, ← hA71, ← hc71] at hcut71; have HO432 := ak (show Kd.V k71 71 _ w0.heap.size _ (.slice A71 y428.length c71) y428 from Kd.V_mk (by rw [hy71, hc71]; exact Nat.sub_le_sub_right hroom71 _) hr71); have HC432 := ak (show y428.length ≤ c71 from by rw [hy71, hc71]; exact Nat.sub_le_sub_right hroom71 _); clear hr71 hC71 hroom71 hi071 hsz71 hc71; have KY71 := ak hy71; have KA71 := ak hA71; clear hy71 hA71; replace q71 := eq_true q71) | ((with_reducible refine gate_builtin (b := .append) (xs := #[.tmp 93, .tmp 96]) rfl ?_); (try (refine gate_guard (by rfl) ?_; dsimp only)); at_builtin; refine Kd.R_append_rows k71 (w0 := w0) w0.heap.size rfl (.tmp 93) (.tmp 96) 32 71 (.agg #[(.string ⟨#[]⟩), (.int .i64 0)]) 24 rfl Try.underlying32 info71 rfl (by decide) (by omega) v426 y425 y428 _ _ _ (fun k_ => (P0_ k_ ∨ w.heap.size ≤ k_) ∧ some k_ ≠ (.slice Ao62 y388.length co62 : Value).ownBlock) (fun _ => False) rfl rfl ?aO ?aR (fun _ _ h => h) (fun _ h => h.elim) ?aF ?aB ?aS ?aL ?_; (case aR => repeat (first | exact (Kd.V_reads' HO432.out).2.2 | (with_reducible refine Kd.C_alloc ?_ _) | (with_reducible refine Kd.C_drewN ?_ _) | (with_reducible refine Kd.C_drew ?_))); (case aB => exact (by exact hopb HB.out)); (case aF => exact (fun k_ hk => ⟨(.inr (Nat.le_trans (by first | exact HK.out.1 | exact (show Kept w _ (fun k_ => P0_ k_) from by repeat (first | exact HK.out | apply Kept.alloc | apply Kept.drewN | apply Kept.drew)).1) hk)), Kd.fresh' (Kd.R_lt (by (with_reducible repeat (first | apply Kd.R_alloc | apply Kd.R_drewN | apply Kd.R_drew)); exact HO390.out)) k_ hk⟩)); (case aO => exact (by (with_reducible repeat (first | apply Kd.R_alloc | apply Kd.R_drewN | apply Kd.R_drew)); exact Kd.R_mono HO427.out (fun _ hk => ⟨hk.1.1, hk.2⟩))); (case aS => exact (below_size (by exact hopb HB.out))); (case aL => have := LMc55.out; omega); intro v434 w72 ho hb hg hat; rw [← Ny433.out] at ho; replace HO_0 := ak (Kd.N_afterv (ok := (fun k_ => (P0_ k_ ∨ w.heap.size ≤ k_) ∧ some k_ ≠ (.slice Ao62 y388.length co62 : Value).ownBlock)) (by (with_reducible repeat (first | apply Kd.N_alloc | apply Kd.N_drewN | apply Kd.N_drew)); exact HO_0.out) hg hat); replace HL383_0 := ak (Kd.V_afterv (ok := (fun k_ => (P0_ k_ ∨ w.heap.size ≤ k_) ∧ some k_ ≠ (.slice (some ⟨go53, 0, none⟩) l0.length co19 : Value).ownBlock ∧ some k_ ≠ (.slice Ao62 y388.length co62 : Value).ownBlock)) (by (with_reducible repeat (first | apply Kd.V_alloc | apply Kd.V_drewN | apply Kd.V_drew)); exact Kd.V_mono HL383_0.out (fun _ hk => ⟨⟨hk.1.1.1, ⟨hk.1.2, hk.1.1.2.1⟩⟩, hk.2⟩)) hg hat); replace HL387_0 := ak (Kd.V_afterv (ok := (fun k_ => (P0_ k_ ∨ w.heap.size ≤ k_) ∧ some k_ ≠ (.slice (some ⟨go53, 0, none⟩) l0.length co19 : Value).ownBlock ∧ some k_ ≠ (.slice Ao62 y388.length co62 : Value).ownBlock)) (by (with_reducible repeat (first | apply Kd.V_alloc | apply Kd.V_drewN | apply Kd.V_drew)); exact Kd.V_mono HL387_0.out (fun _ hk => ⟨⟨hk.1.1.1, ⟨hk.1.2, hk.1.1.2.1⟩⟩, hk.2⟩)) hg hat); replace HO390 := ak (Kd.R_after (ok := (fun k_ => (P0_ k_ ∨ w.heap.size ≤ k_))) (by (with_reducible repeat (first | apply Kd.R_alloc | apply Kd.R_drewN | apply Kd.R_drew)); exact Kd.R_mono HO390.out (fun _ hk => ⟨hk.1.1, hk.2⟩)) hg hat); replace HO420 := ak (Kd.V_afterv (ok := (fun k_ => (P0_ k_ ∨ w.heap.size ≤ k_) ∧ some k_ ≠ (.slice (some ⟨go53, 0, none⟩) l0.length co19 : Value).ownBlock)) (by (with_reducible repeat (first | apply Kd.V_alloc | apply Kd.V_drewN | apply Kd.V_drew)); exact Kd.V_mono HO420.out (fun _ hk => ⟨⟨hk.1.1.1, hk.1.2⟩, hk.2⟩)) hg hat); replace HO432 := ak (Kd.V_afterv (ok := (fun k_ => (P0_ k_ ∨ w.heap.size ≤ k_) ∧ some k_ ≠ (.slice (some ⟨go53, 0, none⟩) l0.length co19 : Value).ownBlock)) (by (with_reducible repeat (first | apply Kd.V_alloc | apply Kd.V_drewN | apply Kd.V_drew)); exact Kd.V_mono HO432.out (fun _ hk => ⟨⟨hk.1.1.1, hk.2⟩, hk.1.2⟩)) hg hat); replace HB := ak (hb); replace HK := ak (Kept.of_grown (S := (fun k_ => P0_ k_)) hg (by repeat (first | exact HK.out | apply Kept.alloc | apply Kept.drewN | apply Kept.drew)) (fun k_ e_ => (HO427.out.1 k_ e_).1.1)); have HO435 := ak (ho); clear HO427; clear ho hb hg hat; have p56 : 0 ≤ ((ji24) : Int) := of_decide_eq_true (by assumption); have q56 : ((ji24) : Int) < ((l0.length : Int) : Int) := of_decide_eq_true (by assumption); obtain ⟨ce56, hcl56, hM56, hcc56, hfr56⟩ := Kd.N_elem HO_0.out z64 ((ji24) : Int) p56 q56; obtain ⟨ua56_0, uc56_0, rfl, ul56_0, ge56_0⟩ := k64_openF hM56; have hx56_0 := hcc56 0 _ rfl; have hf56_0 := hfr56 0; (try simp only [show (k64).sz = 1 from rfl, Nat.mul_one, Nat.add_zero] at hx56_0); (try simp only [show (k64).sz = 1 from rfl, Nat.mul_one, Nat.add_zero] at hf56_0); clear hcl56 hcc56 hfr56 hM56; replace p56 := eq_true p56; replace q56 := eq_true q56; have n_ := ak (Kd.N_mono (ok' := (fun k_ => (P0_ k_ ∨ w.heap.size ≤ k_) ∧ some k_ ≠ (.slice Ao62 y388.length co62 : Value).ownBlock ∧ some k_ ≠ (v434 : Value).ownBlock)) HO_0.out (fun k_ hk => ⟨hk.1.1, ⟨hk.1.2, hk.2⟩⟩)); clear HO_0; have HO_0 := n_; clear n_; have HX73 := ak (show Kd.N k64 64 w72 w0.heap.size (fun k_ => (P0_ k_ ∨ w.heap.size ≤ k_) ∧ some k_ ≠ (.slice Ao62 y388.length co62 : Value).ownBlock) (.slice (some ⟨go53, 0, none⟩) l0.length co19) y424 from (by (with_reducible repeat (first | apply Kd.N_alloc | apply Kd.N_drewN | apply Kd.N_drew)); exact Kd.N_mono HO_0.out (fun _ hk => ⟨hk.1, hk.2.1⟩))); obtain ⟨ce73, hcl73, hM73, hcc73, hfr73⟩ := Kd.N_elem HX73.out z64 ((ji24) : Int) (of_decide_eq_true (by assumption)) (by have h_ : ((ji24) : Int) < ((l0.length : Int) : Int) := of_decide_eq_true (by assumption); first | exact h_ | (have e_ := (Kd.N_reads' HO_0.out).1; omega) | simpa using h_); obtain ⟨ua73_0, uc73_0, rfl, ul73_0, ge73_0⟩ := k64_openF hM73; have HP73 := Kd.N_seg HX73.out ((ji24) : Int) (of_decide_eq_true (by assumption)) (by have h_ : ((ji24) : Int) < ((l0.length : Int) : Int) := of_decide_eq_true (by assumption); first | exact h_ | (have e_ := (Kd.N_reads' HO_0.out).1; omega) | simpa using h_) (seg := [v434]) (j := 0) hcl73 hcc73 (show 1 ≤ 1 from by decide) (x' := (⟨y433⟩ : S64)) (by have hmk_ := Kd.R_mono (ok' := (fun k_ => ((fun k_ => (P0_ k_ ∨ w.heap.size ≤ k_) ∧ some k_ ≠ (.slice Ao62 y388.length co62 : Value).ownBlock)) k_ ∧ k_ ≠ go53)) (Kd.R_apart' (HO435.out) (Kd.N_typed HO_0.out) (by decide)) (fun k_ hk => ⟨⟨hk.1.1, hk.1.2⟩, fun e_ => (hk.2) (by rw [e_]; rfl)⟩); obtain ⟨Am_, cm_, em_⟩ := Kd.R_slice hmk_; rw [em_] at hmk_ ⊢; exact k64_mkF _ _ (⟨y433⟩ : S64) (Kd.R_reads' hmk_).2.1 (Kd.R_F hmk_)) (fun _ hk => hk); have hx73_0 := hcc73 0 _ rfl; (try simp only [show (k64).sz = 1 from rfl, Nat.mul_one, Nat.add_zero] at hx73_0); have hf73_0 := hfr73 0; (try simp only [show (k64).sz = 1 from rfl, Nat.mul_one, Nat.add_zero] at hf73_0); clear hcl73 hcc73 hfr73 hM73; (try simp only [show (k64).sz = 1 from rfl, Nat.mul_one, Nat.add_zero] at HP73); (try simp only [show (k64).sz = 1 from rfl, Nat.mul_one, Nat.add_zero] at HP73)) | ((with_reducible refine gate_store (t := 32) (p := 99) rfl ?_); refine store_event (t := 32) (p := 99) (v := ?vo_w74) (w1 := (w72.setCell ⟨go53, ((ji24) : Int).toNat, none⟩ (v434))) ?hg ?ho ?hn ?hr ?_; (case ho => rfl); (case hg => rfl); (case hn => rfl); (case hr => first | (go_simp; done) | (go_simp; rfl) | (obtain ⟨A_, c_, e_⟩ := Kd.R_slice (‹Aside0 (Kd.R _ _ _ _ _ v434 _)›).out; rw [e_]; first | (go_simp; done) | (go_simp; rfl)) | (have one_ : Value.oneCell' v434 = true := (by (first | obtain ⟨A_, c_, e_⟩ := Kd.R_slice (‹Aside0 (Kd.R _ _ _ _ _ v434 _)›).out | obtain ⟨A_, c_, e_⟩ := Kd.N_slice (‹Aside0 (Kd.N _ _ _ _ _ v434 _)›).out | obtain ⟨A_, c_, e_⟩ := Kd.S_slice (‹Aside0 (Kd.S _ _ _ _ _ v434 _)›).out); rw [e_]; rfl); have sto_ := fun (a_ : Addr) m_ (w_ : World) => run_store Try.prog w_ a_ v434 m_ one_; first | (go_simp; done) | (go_simp; rfl))); intro w74 hw; have hg : w72.grownBy w74 (some go53) := (by rw [hw]; exact HP73.2); have hp_ : Kd.N k64 64 w74 w0.heap.size (fun k_ => (P0_ k_ ∨ w.heap.size ≤ k_) ∧ some k_ ≠ (.slice Ao62 y388.length co62 : Value).ownBlock) (.slice (some ⟨go53, 0, none⟩) l0.length co19) y436 := (by rw [hw, Ny436.out]; exact HP73.1); clear HP73; replace HL383_0 := ak (Kd.V_afterv (v := (.slice (some ⟨go53, 0, none⟩) l0.length co19)) (v1 := (.slice (some ⟨go53, 0, none⟩) l0.length co19)) (ok := (fun k_ => (P0_ k_ ∨ w.heap.size ≤ k_) ∧ some k_ ≠ (.slice Ao62 y388.length co62 : Value).ownBlock ∧ some k_ ≠ (v434 : Value).ownBlock)) (by (with_reducible repeat (first | apply Kd.V_alloc | apply Kd.V_drewN | apply Kd.V_drew)); exact Kd.V_mono HL383_0.out (fun _ hk => ⟨⟨hk.1.1, ⟨hk.1.2.2, hk.2⟩⟩, hk.1.2.1⟩)) hg (.inl rfl)); replace HL387_0 := ak (Kd.V_afterv (v := (.slice (some ⟨go53, 0, none⟩) l0.length co19)) (v1 := (.slice (some ⟨go53, 0, none⟩) l0.length co19)) (ok := (fun k_ => (P0_ k_ ∨ w.heap.size ≤ k_) ∧ some k_ ≠ (.slice Ao62 y388.length co62 : Value).ownBlock ∧ some k_ ≠ (v434 : Value).ownBlock)) (by (with_reducible repeat (first | apply Kd.V_alloc | apply Kd.V_drewN | apply Kd.V_drew)); exact Kd.V_mono HL387_0.out (fun _ hk => ⟨⟨hk.1.1, ⟨hk.1.2.2, hk.2⟩⟩, hk.1.2.1⟩)) hg (.inl rfl)); replace HO390 := ak (Kd.R_over' (v := (.slice (some ⟨go53, 0, none⟩) l0.length co19)) (by (with_reducible repeat (first | apply Kd.R_alloc | apply Kd.R_drewN | apply Kd.R_drew)); exact HO390.out) (Kd.N_typed HO_0.out) (by decide) hg); replace HO420 := ak (Kd.V_afterv (v := (.slice (some ⟨go53, 0, none⟩) l0.length co19)) (v1 := (.slice (some ⟨go53, 0, none⟩) l0.length co19)) (ok := (fun k_ => (P0_ k_ ∨ w.heap.size ≤ k_) ∧ some k_ ≠ (v434 : Value).ownBlock)) (by (with_reducible repeat (first | apply Kd.V_alloc | apply Kd.V_drewN | apply Kd.V_drew)); exact Kd.V_mono HO420.out (fun _ hk => ⟨⟨hk.1.1, hk.2⟩, hk.1.2⟩)) hg (.inl rfl)); replace HO432 := ak (Kd.V_afterv (v := (.slice (some ⟨go53, 0, none⟩) l0.length co19)) (v1 := (.slice (some ⟨go53, 0, none⟩) l0.length co19)) (ok := (fun k_ => (P0_ k_ ∨ w.heap.size ≤ k_) ∧ some k_ ≠ (v434 : Value).ownBlock)) (by (with_reducible repeat (first | apply Kd.V_alloc | apply Kd.V_drewN | apply Kd.V_drew)); exact Kd.V_mono HO432.out (fun _ hk => ⟨⟨hk.1.1, hk.2⟩, hk.1.2⟩)) hg (.inl rfl)); replace HB := ak ((by rw [hw]; exact below_set (HB.out) GB53.out : Below w0.heap.size w0 w74)); replace HK := ak (Kept.of_grown (S := (fun k_ => P0_ k_)) hg (by repeat (first | exact HK.out | apply Kept.alloc | apply Kept.drewN | apply Kept.drew)) (fun k_ e_ => (HO_0.out.1 k_ e_).1)); replace HO_0 := ak (hp_); clear HO435; clear hg hw hp_))
                    go_ret
                    exact ⟨_, by first | rfl | (simp only [u8_w_, w64_u8_] <;> rfl) | (simp [errW_none, errW_some] <;> rfl) | (simp only [← hji24]; first | rfl | (simp [errW_none, errW_some] <;> rfl)) | (simp [*, errW_none, errW_some] <;> rfl), by (with_reducible repeat (first | apply Kd.N_alloc | apply Kd.N_drewN | apply Kd.N_drew)); exact Kd.N_mono HO_0.out (fun _ hk => hk.1), by exact hopb HB.out, by repeat (first | exact HK.out | apply Kept.alloc | apply Kept.drewN | apply Kept.drew)⟩
                   ·rw [if_neg c55] at H
                    exact absurd H (by simp)
                  ·rw [if_neg c52] at H
                   exact absurd H (by simp)
                 ·rw [if_neg c51] at H
                  exact absurd H (by simp)
                ·rw [if_neg c50] at H
                 have c50b0 : (x5_17 == a1) = false := beq_eq_false_iff_ne.mpr c50
                 have c50b1 : (x5_17 != a1) = true := bne_iff_ne.mpr c50
                 obtain ⟨y437, hy437⟩ : ∃ y_ : List (S71), y_ = (([] : List (S71))) := ⟨_, rfl⟩
                 replace H : (if 0 ≤ (wrap64 ((y388.length : Int) - 2)) then (if (wrap64 ((y388.length : Int) - 2)) ≤ (y388.length : Int) then ((some (y388.take ((wrap64 ((y388.length : Int) - 2)) : Int).toNat : List (S71))).bind fun y440 => (if y437.length + y440.length < 5864062014805 then ((some (([] : List (S71)) : List (S71))).bind fun y449 => ((some (y388.drop ((wrap64 ((y388.length : Int) - 2)) : Int).toNat : List (S71))).bind fun y452 => (if y449.length + y452.length < 5864062014805 then (some ((l0.set (x5_17 : Int).toNat (⟨(y437 ++ y440)⟩ : S64)).set ((ji24) : Int).toNat (⟨(y449 ++ y452)⟩ : S64))) else (none)))) else (none))) else (none)) else (none)) = some r := by first | (rw [hy437]; exact H) | exact H
                 have Ny437 := ak hy437
                 clear hy437
                 obtain ⟨ji75, hji75⟩ : ∃ j_ : Int, (wrap64 ((y388.length : Int) - 2)) = j_ := ⟨_, rfl⟩
                 replace H : (if 0 ≤ (ji75) then (if (ji75) ≤ (y388.length : Int) then ((some (y388.take ((ji75) : Int).toNat : List (S71))).bind fun y440 => (if y437.length + y440.length < 5864062014805 then ((some (([] : List (S71)) : List (S71))).bind fun y449 => ((some (y388.drop ((ji75) : Int).toNat : List (S71))).bind fun y452 => (if y449.length + y452.length < 5864062014805 then (some ((l0.set (x5_17 : Int).toNat (⟨(y437 ++ y440)⟩ : S64)).set ((ji24) : Int).toNat (⟨(y449 ++ y452)⟩ : S64))) else (none)))) else (none))) else (none)) else (none)) = some r := by first | (rw [hji75] at H; exact H) | (simp only [hji75] at H ⊢; exact H)
                 have hji75w : (IntKind.i64.wrap ((y388.length : Int) - 2)) = ji75 := (i64_w _).trans hji75
                 by_cases c76 : 0 ≤ (ji75)
                 ·rw [if_pos c76] at H
                  have c76b0 := eq_true c76
                  have c76b1 : decide (0 ≤ (ji75)) = true := decide_eq_true c76
                  clear c76
                  by_cases c77 : (ji75) ≤ (y388.length : Int)
                  ·rw [if_pos c77] at H
                   have c77b0 := eq_true c77
                   have c77b1 : decide ((ji75) ≤ (y388.length : Int)) = true := decide_eq_true c77
                   clear c77
                   obtain ⟨y440, hy440⟩ : ∃ y_ : List (S71), y_ = (y388.take ((ji75) : Int).toNat) := ⟨_, rfl⟩
                   replace H : (if y437.length + y440.length < 5864062014805 then ((some (([] : List (S71)) : List (S71))).bind fun y449 => ((some (y388.drop ((ji75) : Int).toNat : List (S71))).bind fun y452 => (if y449.length + y452.length < 5864062014805 then (some ((l0.set (x5_17 : Int).toNat (⟨(y437 ++ y440)⟩ : S64)).set ((ji24) : Int).toNat (⟨(y449 ++ y452)⟩ : S64))) else (none)))) else (none)) = some r := by first | (rw [hy440]; exact H) | exact H
                   have Ny440 := ak hy440
                   clear hy440
                   by_cases c78 : y437.length + y440.length < 5864062014805
                   ·rw [if_pos c78] at H
                    have LMc78 := ak c78
                    clear c78
                    obtain ⟨y445, hy445⟩ : ∃ y_ : List (S71), y_ = (y437 ++ y440) := ⟨_, rfl⟩
                    replace H : ((some (([] : List (S71)) : List (S71))).bind fun y449 => ((some (y388.drop ((ji75) : Int).toNat : List (S71))).bind fun y452 => (if y449.length + y452.length < 5864062014805 then (some ((l0.set (x5_17 : Int).toNat (⟨y445⟩ : S64)).set ((ji24) : Int).toNat (⟨(y449 ++ y452)⟩ : S64))) else (none)))) = some r := by first | (rw [hy445]; exact H) | exact H
                    have Ny445 := ak hy445
                    clear hy445
                    obtain ⟨y448, hy448⟩ : ∃ y_ : List (S64), y_ = (l0.set (x5_17 : Int).toNat (⟨y445⟩ : S64)) := ⟨_, rfl⟩
                    replace H : ((some (([] : List (S71)) : List (S71))).bind fun y449 => ((some (y388.drop ((ji75) : Int).toNat : List (S71))).bind fun y452 => (if y449.length + y452.length < 5864062014805 then (some (y448.set ((ji24) : Int).toNat (⟨(y449 ++ y452)⟩ : S64))) else (none)))) = some r := by first | (rw [hy448]; exact H) | exact H
                    have Ny448 := ak hy448
                    clear hy448
                    obtain ⟨y449, hy449⟩ : ∃ y_ : List (S71), y_ = (([] : List (S71))) := ⟨_, rfl⟩
                    replace H : ((some (y388.drop ((ji75) : Int).toNat : List (S71))).bind fun y452 => (if y449.length + y452.length < 5864062014805 then (some (y448.set ((ji24) : Int).toNat (⟨(y449 ++ y452)⟩ : S64))) else (none))) = some r := by first | (rw [hy449]; exact H) | exact H
                    have Ny449 := ak hy449
                    clear hy449
                    have c80b0 := eq_true (of_decide_eq_true (by assumption) : 0 ≤ (ji75))
                    have c81b0 := eq_true (of_decide_eq_true (by assumption) : (ji75) ≤ (y388.length : Int))
                    obtain ⟨y452, hy452⟩ : ∃ y_ : List (S71), y_ = (y388.drop ((ji75) : Int).toNat) := ⟨_, rfl⟩
                    replace H : (if y449.length + y452.length < 5864062014805 then (some (y448.set ((ji24) : Int).toNat (⟨(y449 ++ y452)⟩ : S64))) else (none)) = some r := by first | (rw [hy452]; exact H) | exact H
                    have Ny452 := ak hy452
                    clear hy452
                    by_cases c82 : y449.length + y452.length < 5864062014805
                    ·rw [if_pos c82] at H
                     have LMc82 := ak c82
                     clear c82
                     obtain ⟨y457, hy457⟩ : ∃ y_ : List (S71), y_ = (y449 ++ y452) := ⟨_, rfl⟩
                     replace H : (some (y448.set ((ji24) : Int).toNat (⟨y457⟩ : S64))) = some r := by first | (rw [hy457]; exact H) | exact H
                     have Ny457 := ak hy457
                     clear hy457
                     obtain ⟨y460, hy460⟩ : ∃ y_ : List (S64), y_ = (y448.set ((ji24) : Int).toNat (⟨y457⟩ : S64)) := ⟨_, rfl⟩
                     replace H : (some y460) = some r := by first | (rw [hy460]; exact H) | exact H
                     have Ny460 := ak hy460
                     clear hy460
                     obtain rfl := Option.some.inj H
                     try go_wp2
                     replace HO_0 := ak (Kd.N_drew HO_0.out)
                     replace HK := ak (Kept.drew HK.out)
                     replace HB := ak (below_drew1 HB.out)
                     have p383 : 0 ≤ (x5_17 : Int) := of_decide_eq_true (by assumption)
                     have q383 : x5_17 < (l0.length : Int) := of_decide_eq_true (by assumption)
                     obtain ⟨ad383, A383_0, c383_0, e383, hx383_0, hl383_0, hi383_0⟩ := at_T64 (Kd.N_reads' HO_0.out).2.2 x5_17 p383 q383
                     cases e383
                     obtain ⟨ce383, hce383, hMe383, hcc383⟩ := Kd.N_get HO_0.out z64 x5_17 p383 (by first | exact q383 | exact of_decide_eq_true (by assumption) | (have e_ := (Kd.N_reads' HO_0.out).1; omega))
                     obtain ⟨ua383_0, uc383_0, rfl, ul383_0, ge383_0⟩ := k64_openF hMe383
                     have hv383_0 := hcc383 0 _ rfl
                     rw [Nat.add_zero, show (k64).sz = 1 from rfl, Nat.mul_one] at hv383_0
                     replace hv383_0 := Option.some.inj (hv383_0.symm.trans hx383_0)
                     injection hv383_0 with hva_ hvn_ hvc_
                     rw [hva_] at ge383_0
                     rw [hvc_] at ul383_0
                     have HL383_0 := ak (show Kd.V k71 71 _ w0.heap.size _ _ ((rd_T64 l0 x5_17).f0) from Kd.V_mk ul383_0 ge383_0)
                     clear hva_ hvn_ hvc_ ge383_0 ul383_0
                     clear hcc383 hce383
                     have HR383_0 := ak hi383_0
                     have HC383_0 := ak hl383_0
                     clear hi383_0 hl383_0
                     replace p383 := eq_true p383
                     replace q383 := eq_true q383
                     have p387 : 0 ≤ ((ji24) : Int) := of_decide_eq_true (by assumption)
                     have q387 : (ji24) < (l0.length : Int) := of_decide_eq_true (by assumption)
                     obtain ⟨ad387, A387_0, c387_0, e387, hx387_0, hl387_0, hi387_0⟩ := at_T64 (Kd.N_reads' HO_0.out).2.2 (ji24) p387 q387
                     obtain rfl : ad383 = ad387 := (by injection e387)
                     obtain ⟨ce387, hce387, hMe387, hcc387⟩ := Kd.N_get HO_0.out z64 (ji24) p387 (by first | exact q387 | exact of_decide_eq_true (by assumption) | (have e_ := (Kd.N_reads' HO_0.out).1; omega))
                     obtain ⟨ua387_0, uc387_0, rfl, ul387_0, ge387_0⟩ := k64_openF hMe387
                     have hv387_0 := hcc387 0 _ rfl
                     rw [Nat.add_zero, show (k64).sz = 1 from rfl, Nat.mul_one] at hv387_0
                     replace hv387_0 := Option.some.inj (hv387_0.symm.trans hx387_0)
                     injection hv387_0 with hva_ hvn_ hvc_
                     rw [hva_] at ge387_0
                     rw [hvc_] at ul387_0
                     have HL387_0 := ak (show Kd.V k71 71 _ w0.heap.size _ _ ((rd_T64 l0 (ji24)).f0) from Kd.V_mk ul387_0 ge387_0)
                     clear hva_ hvn_ hvc_ ge387_0 ul387_0
                     clear hcc387 hce387
                     have HR387_0 := ak hi387_0
                     have HC387_0 := ak hl387_0
                     clear hi387_0 hl387_0
                     replace p387 := eq_true p387
                     replace q387 := eq_true q387
                     refine start_ (n := 15) (S := fun w' => w'.cell? (ad383.add (x5_17).toNat) = some (.slice A383_0 ((rd_T64 l0 x5_17).f0).length c383_0) ∧ w'.cell? (ad383.add ((ji24)).toNat) = some (.slice A387_0 ((rd_T64 l0 (ji24)).f0).length c387_0)) (ds := []) #[U,U,U,U,U,U,U,U,U,U,U,U,U,U,U] (by kernel_rfl) rfl rfl ⟨hx383_0, hx387_0⟩ (fun hHeld => ?_); refine with_tabW spec_l6Mend.tab8 spec_l6Mend.bits8 (fun HT_ HW_ => ?_)
                     generalize wc.drew = w84 at HO_0 HK HB HL383_0 HL387_0 HR383_0 HR387_0 hx383_0 hx387_0 hHeld ⊢
                     refine pure_ (i := 1) (N := some 43) (v := ?_) (a' := ?_) #[U,T,U,U,U,U,U,U,U,U,U,U,U,U,U] rfl rfl (any_of HT_.out (by kernel_rfl)) (fun _ _ _ h => h) (Or.inl ⟨by rfl, ?_⟩) ?_ ?_
                     rotate_left
                     ·intro w'
                      go_simp
                      with_reducible rfl
                     rotate_left
                     ·simp only [Act.put, lT, lZ, lS, i64_w, i32_w]
                      rfl
                     refine pure_ (i := 2) (N := some 44) (v := ?_) (a' := ?_) #[U,T,T,U,U,U,U,U,U,U,U,U,U,U,U] rfl rfl (any_of HT_.out (by kernel_rfl)) (fun _ _ _ h => h) (Or.inl ⟨by rfl, ?_⟩) ?_ ?_
                     rotate_left
                     ·intro w'
                      go_simp
                      with_reducible rfl
                     rotate_left
                     ·simp only [Act.put, lT, lZ, lS, i64_w, i32_w]
                      rfl
                     refine pure_ (i := 3) (N := some 45) (v := ?_) (a' := ?_) #[U,T,T,T,U,U,U,U,U,U,U,U,U,U,U] rfl rfl (any_of HT_.out (by kernel_rfl)) (fun _ _ _ h => h) (Or.inl ⟨by rfl, ?_⟩) ?_ ?_
                     rotate_left
                     ·intro w'
                      go_simp
                      with_reducible rfl
                     rotate_left
                     ·simp only [Act.put, lT, lZ, lS, i64_w, i32_w]
                      rfl
                     refine pure_ (i := 4) (N := some 46) (v := ?_) (a' := ?_) #[U,T,T,T,T,U,U,U,U,U,U,U,U,U,U] rfl rfl (any_of HT_.out (by kernel_rfl)) (fun _ _ _ h => h) (Or.inl ⟨by rfl, ?_⟩) ?_ ?_
                     rotate_left
                     ·intro w'
                      go_simp
                      with_reducible rfl
                     rotate_left
                     ·simp only [Act.put, lT, lZ, lS, i64_w, i32_w]
                      rfl
                     refine pure_ (i := 7) (N := some 49) (v := ?_) (a' := ?_) #[U,T,T,T,T,U,U,T,U,U,U,U,U,U,U] rfl rfl (any_of HT_.out (by kernel_rfl)) (fun _ _ _ h => h) (Or.inl ⟨by rfl, ?_⟩) ?_ ?_
                     rotate_left
                     ·intro w'
                      go_simp
                      with_reducible rfl
                     rotate_left
                     ·simp only [Act.put, lT, lZ, lS, i64_w, i32_w]
                      rfl
                     refine pure_ (i := 8) (N := some 50) (v := ?_) (a' := ?_) #[U,T,T,T,T,U,U,T,T,U,U,U,U,U,U] rfl rfl (any_of HT_.out (by kernel_rfl)) (fun _ _ _ h => h) (Or.inl ⟨by rfl, ?_⟩) ?_ ?_
                     rotate_left
                     ·intro w'
                      go_simp
                      with_reducible rfl
                     rotate_left
                     ·simp only [Act.put, lT, lZ, lS, i64_w, i32_w]
                      rfl
                     refine pure_ (i := 9) (N := some 51) (v := ?_) (a' := ?_) #[U,T,T,T,T,U,U,T,T,T,U,U,U,U,U] rfl rfl (any_of HT_.out (by kernel_rfl)) (fun _ _ _ h => h) (Or.inl ⟨by rfl, ?_⟩) ?_ ?_
                     rotate_left
                     ·intro w'
                      go_simp
                      with_reducible rfl
                     rotate_left
                     ·simp only [Act.put, lT, lZ, lS, i64_w, i32_w]
                      rfl
                     refine pure_ (i := 10) (N := some 52) (v := ?_) (a' := ?_) #[U,T,T,T,T,U,U,T,T,T,T,U,U,U,U] rfl rfl (any_of HT_.out (by kernel_rfl)) (fun _ _ _ h => h) (Or.inl ⟨by rfl, ?_⟩) ?_ ?_
                     rotate_left
                     ·intro w'
                      go_simp
                      with_reducible rfl
                     rotate_left
                     ·simp only [Act.put, lT, lZ, lS, i64_w, i32_w]
                      rfl
                     refine pure_ (i := 11) (N := some 53) (v := ?_) (a' := ?_) #[U,T,T,T,T,U,U,T,T,T,T,T,U,U,U] rfl rfl (any_of HT_.out (by kernel_rfl)) (fun _ _ _ h => h) (Or.inl ⟨by rfl, ?_⟩) ?_ ?_
                     rotate_left
                     ·intro w'
                      go_simp
                      with_reducible rfl
                     rotate_left
                     ·simp only [Act.put, lT, lZ, lS, i64_w, i32_w]
                      rfl
                     refine take_ (i := 5) (N := some 47) (v := ?_) (a' := ?_) #[U,T,T,T,T,T,U,T,T,T,T,T,U,U,U] rfl rfl (take_ofW HT_.out HW_.out (by kernel_rfl)) (fun _ _ _ h => h) (Or.inl ⟨by rfl, ?_⟩) hHeld ?_ ?_
                     rotate_left
                     ·rintro w' ⟨s0, s1⟩
                      go_simp
                      with_reducible rfl
                     rotate_left
                     ·simp only [Act.put, lT, lZ, lS, i64_w, i32_w]
                      rfl
                     refine take_ (i := 12) (N := some 54) (v := ?_) (a' := ?_) #[U,T,T,T,T,T,U,T,T,T,T,T,T,U,U] rfl rfl (take_ofW HT_.out HW_.out (by kernel_rfl)) (fun _ _ _ h => h) (Or.inl ⟨by rfl, ?_⟩) hHeld ?_ ?_
                     rotate_left
                     ·rintro w' ⟨s0, s1⟩
                      go_simp
                      with_reducible rfl
                     rotate_left
                     ·simp only [Act.put, lT, lZ, lS, i64_w, i32_w]
                      rfl
                     refine one_ (i := 0) (N := some 42) #[T,T,T,T,T,T,U,T,T,T,T,T,T,U,U] rfl rfl (one_of HT_.out (by kernel_rfl)) (by decide) (fun K hK => ?_)
                     refine Kd.R_lit_step k71 _ 71 ?hg (N := 42) ?hd (xs := ([] : List (S71))) (inner := []) (ok := fun _ => True) (okp := fun _ => True) ?hr ?hp (fun _ hk => hk) trivial (Below.refl _ _) (Nat.le_refl _) (by simp) ?_; (case hd => rfl); (case hg => rfl); (case hr => first | (go_simp; done) | (go_simp; rfl)); (case hp => exact (Reps.none _ _))
                     intro v381 w85 ho86 hb hg_ hnew_
                     have HS0_ := (hb.cell (World.block_lt_of_cell? _ _ (hHeld.1))).trans (hHeld.1)
                     have HS1_ := (hb.cell (World.block_lt_of_cell? _ _ (hHeld.2))).trans (hHeld.2)
                     clear hg_ hnew_
                     (first | rw [← Ny380.out] at ho86 | (simp only [Int.reduceToNat] at ho86; rw [← Ny380.out] at ho86))
                     replace HO_0 := ak (Kd.N_elder' (by (with_reducible repeat (first | apply Kd.N_alloc | apply Kd.N_drewN | apply Kd.N_drew)); exact HO_0.out) (Kd.R_base ho86) hb)
                     replace HL383_0 := ak (Kd.V_elder' (by (with_reducible repeat (first | apply Kd.V_alloc | apply Kd.V_drewN | apply Kd.V_drew)); exact HL383_0.out) (Kd.R_base ho86) hb)
                     replace HL387_0 := ak (Kd.V_elder' (by (with_reducible repeat (first | apply Kd.V_alloc | apply Kd.V_drewN | apply Kd.V_drew)); exact HL387_0.out) (Kd.R_base ho86) hb)
                     have HO382 := ak (Kd.R_lower (Kd.R_newM (M := fun k_ => (P0_ k_ ∨ w.heap.size ≤ k_)) ho86 (by first | exact HK.out.1 | exact (show Kept w _ (fun k_ => P0_ k_) from by repeat (first | exact HK.out | apply Kept.alloc | apply Kept.drewN | apply Kept.drew)).1) (fun k_ h_ => .inr h_)) (below_size (by exact hopb HB.out)))
                     replace HR383_0 := ak (Kd.C_below (by repeat (first | (with_reducible exact HR383_0.out) | (with_reducible refine Kd.C_alloc ?_ _) | (with_reducible refine Kd.C_drewN ?_ _) | (with_reducible refine Kd.C_drew ?_) | exact HR383_0.out)) hb)
                     replace HR387_0 := ak (Kd.C_below (by repeat (first | (with_reducible exact HR387_0.out) | (with_reducible refine Kd.C_alloc ?_ _) | (with_reducible refine Kd.C_drewN ?_ _) | (with_reducible refine Kd.C_drew ?_) | exact HR387_0.out)) hb)
                     replace HK := ak (Kept.below (S := (fun k_ => P0_ k_)) (by repeat (first | exact HK.out | apply Kept.alloc | apply Kept.drewN | apply Kept.drew)) hb)
                     replace HB := ak (below_step (by exact hopb HB.out) hb)
                     clear hb ho86
                     refine hK.out _ _ ⟨HS0_, HS1_⟩ (fun hHeld => ?_)
                     clear hK K
                     refine norm_ (a' := ?_) ?_ ?_
                     rotate_left
                     ·show Act.put _ (some 42) _ = _
                      simp only [Act.put, lT, lZ, lS, i64_w, i32_w]
                      rfl
                     refine one_ (i := 6) (N := some 48) #[T,T,T,T,T,T,T,T,T,T,T,T,T,U,U] rfl rfl (one_of HT_.out (by kernel_rfl)) (by decide) (fun K hK => ?_)
                     refine Kd.R_append_rows_step k71 (w0 := w0) w0.heap.size (by rfl) (.tmp 42) (.tmp 47) 32 71 (.agg #[(.string ⟨#[]⟩), (.int .i64 0)]) 24 rfl Try.underlying32 info71 rfl (by decide) (by omega) v381 y380 ((rd_T64 l0 x5_17).f0) _ _ _ (fun k_ => (P0_ k_ ∨ w.heap.size ≤ k_)) (fun _ => False) rfl rfl ?aO ?aR (fun _ _ h => h) (fun _ h => h.elim) ?aF ?aB ?aS ?aL ?_
                     (case aR => repeat (first | exact (by repeat (first | (with_reducible exact HR383_0.out) | (with_reducible refine Kd.C_alloc ?_ _) | (with_reducible refine Kd.C_drewN ?_ _) | (with_reducible refine Kd.C_drew ?_) | exact HR383_0.out)) | (with_reducible refine Kd.C_alloc ?_ _) | (with_reducible refine Kd.C_drewN ?_ _) | (with_reducible refine Kd.C_drew ?_)))
                     (case aB => exact (by exact hopb HB.out))
                     (case aF => exact (fun k_ hk => (.inr (Nat.le_trans (by first | exact HK.out.1 | exact (show Kept w _ (fun k_ => P0_ k_) from by repeat (first | exact HK.out | apply Kept.alloc | apply Kept.drewN | apply Kept.drew)).1) hk))))
                     (case aO => exact (by (with_reducible repeat (first | apply Kd.R_alloc | apply Kd.R_drewN | apply Kd.R_drew)); exact Kd.R_mono HO382.out (fun _ hk => hk.1)))
                     (case aS => exact (below_size (by exact hopb HB.out)))
                     (case aL => have := LMc23.out; omega)
                     intro v385 w87 ho hb hg hat
                     have HS0_ := cell_grown hg (hHeld.1) (by first | (rw [add_block]; exact (HO_0.out.1 _ rfl).2) | (show some (Addr.add _ _).block ≠ _; rw [add_block]; exact (HO_0.out.1 _ rfl).2) | exact (HO_0.out.1 _ rfl).2)
                     have HS1_ := cell_grown hg (hHeld.2) (by first | (rw [add_block]; exact (HO_0.out.1 _ rfl).2) | (show some (Addr.add _ _).block ≠ _; rw [add_block]; exact (HO_0.out.1 _ rfl).2) | exact (HO_0.out.1 _ rfl).2)
                     rw [← Ny384.out] at ho
                     replace HO_0 := ak (Kd.N_afterv (ok := (fun k_ => (P0_ k_ ∨ w.heap.size ≤ k_))) (by (with_reducible repeat (first | apply Kd.N_alloc | apply Kd.N_drewN | apply Kd.N_drew)); exact HO_0.out) hg hat)
                     replace HL383_0 := ak (Kd.V_afterv (ok := (fun k_ => (P0_ k_ ∨ w.heap.size ≤ k_) ∧ some k_ ≠ (.slice (some ad383) l0.length co19 : Value).ownBlock)) (by (with_reducible repeat (first | apply Kd.V_alloc | apply Kd.V_drewN | apply Kd.V_drew)); exact HL383_0.out) hg hat)
                     replace HL387_0 := ak (Kd.V_afterv (ok := (fun k_ => (P0_ k_ ∨ w.heap.size ≤ k_) ∧ some k_ ≠ (.slice (some ad383) l0.length co19 : Value).ownBlock)) (by (with_reducible repeat (first | apply Kd.V_alloc | apply Kd.V_drewN | apply Kd.V_drew)); exact HL387_0.out) hg hat)
                     replace HB := ak (hb)
                     replace HK := ak (Kept.of_grown (S := (fun k_ => P0_ k_)) hg (by repeat (first | exact HK.out | apply Kept.alloc | apply Kept.drewN | apply Kept.drew)) (fun k_ e_ => (HO382.out.1 k_ e_).1))
                     have HO386 := ak (ho)
                     clear HO382
                     clear ho hb hg hat
                     refine hK.out _ _ ⟨HS0_, HS1_⟩ (fun hHeld => ?_)
                     clear hK K
                     refine norm_ (a' := ?_) ?_ ?_
                     rotate_left
                     ·show Act.put _ (some 48) _ = _
                      simp only [Act.put, lT, lZ, lS, i64_w, i32_w]
                      rfl
                     refine one_ (i := 13) (N := some 55) #[T,T,T,T,T,T,T,T,T,T,T,T,T,T,U] rfl rfl (one_of HT_.out (by kernel_rfl)) (by decide) (fun K hK => ?_)
                     refine Kd.R_append_rows_step k71 (w0 := w0) w0.heap.size (by rfl) (.tmp 48) (.tmp 54) 32 71 (.agg #[(.string ⟨#[]⟩), (.int .i64 0)]) 24 rfl Try.underlying32 info71 rfl (by decide) (by omega) v385 y384 ((rd_T64 l0 (ji24)).f0) _ _ _ (fun k_ => (P0_ k_ ∨ w.heap.size ≤ k_)) (fun _ => False) rfl rfl ?aO ?aR (fun _ _ h => h) (fun _ h => h.elim) ?aF ?aB ?aS ?aL ?_
                     (case aR => repeat (first | exact ((Kd.V_reads' (by (with_reducible repeat (first | apply Kd.V_alloc | apply Kd.V_drewN | apply Kd.V_drew)); exact HL387_0.out)).2.2) | (with_reducible refine Kd.C_alloc ?_ _) | (with_reducible refine Kd.C_drewN ?_ _) | (with_reducible refine Kd.C_drew ?_)))
                     (case aB => exact (by exact hopb HB.out))
                     (case aF => exact (fun k_ hk => (.inr (Nat.le_trans (by first | exact HK.out.1 | exact (show Kept w _ (fun k_ => P0_ k_) from by repeat (first | exact HK.out | apply Kept.alloc | apply Kept.drewN | apply Kept.drew)).1) hk))))
                     (case aO => exact (by (with_reducible repeat (first | apply Kd.R_alloc | apply Kd.R_drewN | apply Kd.R_drew)); exact HO386.out))
                     (case aS => exact (below_size (by exact hopb HB.out)))
                     (case aL => have := LMc27.out; omega)
                     intro v389 w88 ho hb hg hat
                     have HS0_ := cell_grown hg (hHeld.1) (by first | (rw [add_block]; exact (HO_0.out.1 _ rfl).2) | (show some (Addr.add _ _).block ≠ _; rw [add_block]; exact (HO_0.out.1 _ rfl).2) | exact (HO_0.out.1 _ rfl).2)
                     have HS1_ := cell_grown hg (hHeld.2) (by first | (rw [add_block]; exact (HO_0.out.1 _ rfl).2) | (show some (Addr.add _ _).block ≠ _; rw [add_block]; exact (HO_0.out.1 _ rfl).2) | exact (HO_0.out.1 _ rfl).2)
                     rw [← Ny388.out] at ho
                     replace HO_0 := ak (Kd.N_afterv (ok := (fun k_ => (P0_ k_ ∨ w.heap.size ≤ k_))) (by (with_reducible repeat (first | apply Kd.N_alloc | apply Kd.N_drewN | apply Kd.N_drew)); exact HO_0.out) hg hat)
                     replace HL383_0 := ak (Kd.V_afterv (ok := (fun k_ => (P0_ k_ ∨ w.heap.size ≤ k_) ∧ some k_ ≠ (.slice (some ad383) l0.length co19 : Value).ownBlock)) (by (with_reducible repeat (first | apply Kd.V_alloc | apply Kd.V_drewN | apply Kd.V_drew)); exact HL383_0.out) hg hat)
                     replace HL387_0 := ak (Kd.V_afterv (ok := (fun k_ => (P0_ k_ ∨ w.heap.size ≤ k_) ∧ some k_ ≠ (.slice (some ad383) l0.length co19 : Value).ownBlock)) (by (with_reducible repeat (first | apply Kd.V_alloc | apply Kd.V_drewN | apply Kd.V_drew)); exact HL387_0.out) hg hat)
                     replace HB := ak (hb)
                     replace HK := ak (Kept.of_grown (S := (fun k_ => P0_ k_)) hg (by repeat (first | exact HK.out | apply Kept.alloc | apply Kept.drewN | apply Kept.drew)) (fun k_ e_ => (HO386.out.1 k_ e_)))
                     have HO390 := ak (ho)
                     clear HO386
                     clear ho hb hg hat
                     refine hK.out _ _ ⟨HS0_, HS1_⟩ (fun hHeld => ?_)
                     clear hK K
                     refine norm_ (a' := ?_) ?_ ?_
                     rotate_left
                     ·show Act.put _ (some 55) _ = _
                      simp only [Act.put, lT, lZ, lS, i64_w, i32_w]
                      rfl
                     refine pure_ (i := 14) (N := some 6) (v := ?_) (a' := ?_) #[T,T,T,T,T,T,T,T,T,T,T,T,T,T,T] rfl rfl (any_of HT_.out (by kernel_rfl)) (fun _ _ _ h => h) (Or.inl ⟨by rfl, ?_⟩) ?_ ?_
                     rotate_left
                     ·intro w'
                      go_simp
                      with_reducible rfl
                     rotate_left
                     ·simp only [Act.put, lT, lZ, lS, i64_w, i32_w]
                      rfl
                     refine done_ (done_of HT_.out (by kernel_rfl)) ?_
                     obtain ⟨Ao89, co89, eo89⟩ := Kd.R_slice HO390.out
                     subst eo89
                     try go_wp2_with (first | ((with_reducible refine gate_dst (N := 83) rfl ?_); (try (refine gate_guard (by rfl) ?_; dsimp only)); refine Kd.R_lit k71 _ 71 ?hg (N := 83) ?hd (xs := ([] : List (S71))) (inner := []) (ok := fun _ => True) (okp := fun _ => True) ?hr ?hp (fun _ hk => hk) trivial (Below.refl _ _) (Nat.le_refl _) (by simp) ?_; (case hd => rfl); (case hg => rfl); (case hr => first | (go_simp; done) | (go_simp; rfl)); (case hp => exact (Reps.none _ _)); intro v438 w90 ho91 hb hg_ hnew_; clear hg_ hnew_; (first | rw [← Ny437.out] at ho91 | (simp only [Int.reduceToNat] at ho91; rw [← Ny437.out] at ho91)); replace HO_0 := ak (Kd.N_elder' (by (with_reducible repeat (first | apply Kd.N_alloc | apply Kd.N_drewN | apply Kd.N_drew)); exact HO_0.out) (Kd.R_base ho91) hb); replace HL383_0 := ak (Kd.V_elder' (by (with_reducible repeat (first | apply Kd.V_alloc | apply Kd.V_drewN | apply Kd.V_drew)); exact HL383_0.out) (Kd.R_base ho91) hb); replace HL387_0 := ak (Kd.V_elder' (by (with_reducible repeat (first | apply Kd.V_alloc | apply Kd.V_drewN | apply Kd.V_drew)); exact HL387_0.out) (Kd.R_base ho91) hb); have HO439 := ak (Kd.R_lower (Kd.R_new' (Kd.R_newM (M := fun k_ => (P0_ k_ ∨ w.heap.size ≤ k_)) ho91 (by first | exact HK.out.1 | exact (show Kept w _ (fun k_ => P0_ k_) from by repeat (first | exact HK.out | apply Kept.alloc | apply Kept.drewN | apply Kept.drew)).1) (fun k_ h_ => .inr h_)) (Kd.R_lt (by (with_reducible repeat (first | apply Kd.R_alloc | apply Kd.R_drewN | apply Kd.R_drew)); exact HO390.out))) (below_size (by exact hopb HB.out))); replace HO390 := ak (Kd.R_elder' (by (with_reducible repeat (first | apply Kd.R_alloc | apply Kd.R_drewN | apply Kd.R_drew)); exact HO390.out) (Kd.R_base ho91) hb); replace HK := ak (Kept.below (S := (fun k_ => P0_ k_)) (by repeat (first | exact HK.out | apply Kept.alloc | apply Kept.drewN | apply Kept.drew)) hb); replace HB := ak (below_step (by exact hopb HB.out) hb); clear hb ho91; have q92 : ((ji75) : Int) ≤ ((y388.length : Int) : Int) := of_decide_eq_true (by assumption); obtain ⟨i092, hi092, _, hsz92, _⟩ := info_parts info71; have hroom92 : y388.length ≤ co89 := (Kd.R_reads' HO390.out).2.1; have hC92 : Kd.F k71 _ _ Ao89 y388.length y388 := (Kd.V_at (base := w0.heap.size) (Kd.R_V (Kd.R_apart' (HO390.out) (Kd.N_typed HO_0.out) (by decide)))).2.2; have hcut92 := cut_to (P := Try.prog) 32 71 .i64 Try.underlying32 hi092 Ao89 y388.length co89 (ji75) (of_decide_eq_true (by assumption)) q92 hroom92; have hr92 := Kd.F_take (m := ((ji75) : Int).toNat) hC92 (by omega); have hy92 : y440.length = ((ji75) : Int).toNat := (by rw [Ny440.out, List.length_take]; omega); rw [← Ny440.out] at hr92; rw [← hy92] at hcut92; have HO444 := ak (show Kd.V k71 71 _ w0.heap.size _ (.slice Ao89 y440.length co89) y440 from Kd.V_mk (by omega) hr92); have HC444 := ak (show y440.length ≤ co89 from by omega); clear hr92 hC92 hroom92 hi092 hsz92; have KY92 := ak hy92; clear hy92; replace q92 := eq_true q92) | ((with_reducible refine gate_builtin (b := .append) (xs := #[.tmp 83, .tmp 86]) rfl ?_); (try (refine gate_guard (by rfl) ?_; dsimp only)); at_builtin; refine Kd.R_append_rows k71 (w0 := w0) w0.heap.size rfl (.tmp 83) (.tmp 86) 32 71 (.agg #[(.string ⟨#[]⟩), (.int .i64 0)]) 24 rfl Try.underlying32 info71 rfl (by decide) (by omega) v438 y437 y440 _ _ _ (fun k_ => (P0_ k_ ∨ w.heap.size ≤ k_) ∧ some k_ ≠ (.slice Ao89 y388.length co89 : Value).ownBlock) (fun _ => False) rfl rfl ?aO ?aR (fun _ _ h => h) (fun _ h => h.elim) ?aF ?aB ?aS ?aL ?_; (case aR => repeat (first | exact (Kd.V_reads' HO444.out).2.2 | (with_reducible refine Kd.C_alloc ?_ _) | (with_reducible refine Kd.C_drewN ?_ _) | (with_reducible refine Kd.C_drew ?_))); (case aB => exact (by exact hopb HB.out)); (case aF => exact (fun k_ hk => ⟨(.inr (Nat.le_trans (by first | exact HK.out.1 | exact (show Kept w _ (fun k_ => P0_ k_) from by repeat (first | exact HK.out | apply Kept.alloc | apply Kept.drewN | apply Kept.drew)).1) hk)), Kd.fresh' (Kd.R_lt (by (with_reducible repeat (first | apply Kd.R_alloc | apply Kd.R_drewN | apply Kd.R_drew)); exact HO390.out)) k_ hk⟩)); (case aO => exact (by (with_reducible repeat (first | apply Kd.R_alloc | apply Kd.R_drewN | apply Kd.R_drew)); exact Kd.R_mono HO439.out (fun _ hk => ⟨hk.1.1, hk.2⟩))); (case aS => exact (below_size (by exact hopb HB.out))); (case aL => have := LMc78.out; omega); intro v446 w93 ho hb hg hat; rw [← Ny445.out] at ho; replace HO_0 := ak (Kd.N_afterv (ok := (fun k_ => (P0_ k_ ∨ w.heap.size ≤ k_) ∧ some k_ ≠ (.slice Ao89 y388.length co89 : Value).ownBlock)) (by (with_reducible repeat (first | apply Kd.N_alloc | apply Kd.N_drewN | apply Kd.N_drew)); exact HO_0.out) hg hat); replace HL383_0 := ak (Kd.V_afterv (ok := (fun k_ => (P0_ k_ ∨ w.heap.size ≤ k_) ∧ some k_ ≠ (.slice (some ad383) l0.length co19 : Value).ownBlock ∧ some k_ ≠ (.slice Ao89 y388.length co89 : Value).ownBlock)) (by (with_reducible repeat (first | apply Kd.V_alloc | apply Kd.V_drewN | apply Kd.V_drew)); exact Kd.V_mono HL383_0.out (fun _ hk => ⟨⟨hk.1.1.1, ⟨hk.1.1.2, hk.1.2⟩⟩, hk.2⟩)) hg hat); replace HL387_0 := ak (Kd.V_afterv (ok := (fun k_ => (P0_ k_ ∨ w.heap.size ≤ k_) ∧ some k_ ≠ (.slice (some ad383) l0.length co19 : Value).ownBlock ∧ some k_ ≠ (.slice Ao89 y388.length co89 : Value).ownBlock)) (by (with_reducible repeat (first | apply Kd.V_alloc | apply Kd.V_drewN | apply Kd.V_drew)); exact Kd.V_mono HL387_0.out (fun _ hk => ⟨⟨hk.1.1.1, ⟨hk.1.1.2, hk.1.2⟩⟩, hk.2⟩)) hg hat); replace HO390 := ak (Kd.R_after (ok := (fun k_ => (P0_ k_ ∨ w.heap.size ≤ k_))) (by (with_reducible repeat (first | apply Kd.R_alloc | apply Kd.R_drewN | apply Kd.R_drew)); exact HO390.out) hg hat); replace HO444 := ak (Kd.V_afterv (ok := (fun k_ => (P0_ k_ ∨ w.heap.size ≤ k_) ∧ some k_ ≠ (.slice (some ad383) l0.length co19 : Value).ownBlock)) (by (with_reducible repeat (first | apply Kd.V_alloc | apply Kd.V_drewN | apply Kd.V_drew)); exact Kd.V_mono HO444.out (fun _ hk => ⟨⟨hk.1.1, hk.2⟩, hk.1.2⟩)) hg hat); replace HB := ak (hb); replace HK := ak (Kept.of_grown (S := (fun k_ => P0_ k_)) hg (by repeat (first | exact HK.out | apply Kept.alloc | apply Kept.drewN | apply Kept.drew)) (fun k_ e_ => (HO439.out.1 k_ e_).1.1)); have HO447 := ak (ho); clear HO439; clear ho hb hg hat; have p79 : 0 ≤ (x5_17 : Int) := of_decide_eq_true (by assumption); have q79 : (x5_17 : Int) < ((l0.length : Int) : Int) := of_decide_eq_true (by assumption); obtain ⟨go79, co79, eo79, gb79, gl79, cl79, HG79⟩ := Kd.N_form HO_0.out (by omega); (first | cases eo79 | (injection eo79 with ea_ en_ ec_; (first | subst ea_ | (injection ea_ with ea_; subst ea_)); subst ec_; clear en_)); have GB79 := ak gb79; have GG79 := ak HG79; clear gb79 gl79 HG79; have HMgo79 := ak (show (P0_ go79 ∨ w.heap.size ≤ go79) from (HO_0.out.1 _ rfl).1.1); (first | simp only [add_plain] at hx383_0 | skip); (first | simp only [add_plain] at hx387_0 | skip); obtain ⟨ce79, hcl79, hM79, hcc79, hfr79⟩ := Kd.N_elem HO_0.out z64 (x5_17 : Int) p79 q79; obtain ⟨ua79_0, uc79_0, rfl, ul79_0, ge79_0⟩ := k64_openF hM79; have hx79_0 := hcc79 0 _ rfl; have hf79_0 := hfr79 0; (try simp only [show (k64).sz = 1 from rfl, Nat.mul_one, Nat.add_zero] at hx79_0); (try simp only [show (k64).sz = 1 from rfl, Nat.mul_one, Nat.add_zero] at hf79_0); clear hcl79 hcc79 hfr79 hM79; replace p79 := eq_true p79; replace q79 := eq_true q79; have n_ := ak (Kd.N_mono (ok' := (fun k_ => (P0_ k_ ∨ w.heap.size ≤ k_) ∧ some k_ ≠ (.slice Ao89 y388.length co89 : Value).ownBlock ∧ some k_ ≠ (v446 : Value).ownBlock)) HO_0.out (fun k_ hk => ⟨hk.1.1, ⟨hk.1.2, hk.2⟩⟩)); clear HO_0; have HO_0 := n_; clear n_; have HX94 := ak (show Kd.N k64 64 w93 w0.heap.size (fun k_ => (P0_ k_ ∨ w.heap.size ≤ k_) ∧ some k_ ≠ (.slice Ao89 y388.length co89 : Value).ownBlock) (.slice (some ⟨go79, 0, none⟩) l0.length co19) l0 from (by (with_reducible repeat (first | apply Kd.N_alloc | apply Kd.N_drewN | apply Kd.N_drew)); exact Kd.N_mono HO_0.out (fun _ hk => ⟨hk.1, hk.2.1⟩))); obtain ⟨ce94, hcl94, hM94, hcc94, hfr94⟩ := Kd.N_elem HX94.out z64 (x5_17 : Int) (of_decide_eq_true (by assumption)) (by have h_ : (x5_17 : Int) < ((l0.length : Int) : Int) := of_decide_eq_true (by assumption); first | exact h_ | (have e_ := (Kd.N_reads' HO_0.out).1; omega) | simpa using h_); obtain ⟨ua94_0, uc94_0, rfl, ul94_0, ge94_0⟩ := k64_openF hM94; have HP94 := Kd.N_seg HX94.out (x5_17 : Int) (of_decide_eq_true (by assumption)) (by have h_ : (x5_17 : Int) < ((l0.length : Int) : Int) := of_decide_eq_true (by assumption); first | exact h_ | (have e_ := (Kd.N_reads' HO_0.out).1; omega) | simpa using h_) (seg := [v446]) (j := 0) hcl94 hcc94 (show 1 ≤ 1 from by decide) (x' := (⟨y445⟩ : S64)) (by have hmk_ := Kd.R_mono (ok' := (fun k_ => ((fun k_ => (P0_ k_ ∨ w.heap.size ≤ k_) ∧ some k_ ≠ (.slice Ao89 y388.length co89 : Value).ownBlock)) k_ ∧ k_ ≠ go79)) (Kd.R_apart' (HO447.out) (Kd.N_typed HO_0.out) (by decide)) (fun k_ hk => ⟨⟨hk.1.1, hk.1.2⟩, fun e_ => (hk.2) (by rw [e_]; rfl)⟩); obtain ⟨Am_, cm_, em_⟩ := Kd.R_slice hmk_; rw [em_] at hmk_ ⊢; exact k64_mkF _ _ (⟨y445⟩ : S64) (Kd.R_reads' hmk_).2.1 (Kd.R_F hmk_)) (fun _ hk => hk); have hx94_0 := hcc94 0 _ rfl; (try simp only [show (k64).sz = 1 from rfl, Nat.mul_one, Nat.add_zero] at hx94_0); have hf94_0 := hfr94 0; (try simp only [show (k64).sz = 1 from rfl, Nat.mul_one, Nat.add_zero] at hf94_0); clear hcl94 hcc94 hfr94 hM94; (try simp only [show (k64).sz = 1 from rfl, Nat.mul_one, Nat.add_zero] at HP94); (try simp only [show (k64).sz = 1 from rfl, Nat.mul_one, Nat.add_zero] at HP94)) | ((with_reducible refine gate_store (t := 32) (p := 89) rfl ?_); refine store_event (t := 32) (p := 89) (v := ?vo_w95) (w1 := (w93.setCell ⟨go79, (x5_17 : Int).toNat, none⟩ (v446))) ?hg ?ho ?hn ?hr ?_; (case ho => rfl); (case hg => rfl); (case hn => rfl); (case hr => first | (go_simp; done) | (go_simp; rfl) | (obtain ⟨A_, c_, e_⟩ := Kd.R_slice (‹Aside0 (Kd.R _ _ _ _ _ v446 _)›).out; rw [e_]; first | (go_simp; done) | (go_simp; rfl)) | (have one_ : Value.oneCell' v446 = true := (by (first | obtain ⟨A_, c_, e_⟩ := Kd.R_slice (‹Aside0 (Kd.R _ _ _ _ _ v446 _)›).out | obtain ⟨A_, c_, e_⟩ := Kd.N_slice (‹Aside0 (Kd.N _ _ _ _ _ v446 _)›).out | obtain ⟨A_, c_, e_⟩ := Kd.S_slice (‹Aside0 (Kd.S _ _ _ _ _ v446 _)›).out); rw [e_]; rfl); have sto_ := fun (a_ : Addr) m_ (w_ : World) => run_store Try.prog w_ a_ v446 m_ one_; first | (go_simp; done) | (go_simp; rfl))); intro w95 hw; have hg : w93.grownBy w95 (some go79) := (by rw [hw]; exact HP94.2); have hp_ : Kd.N k64 64 w95 w0.heap.size (fun k_ => (P0_ k_ ∨ w.heap.size ≤ k_) ∧ some k_ ≠ (.slice Ao89 y388.length co89 : Value).ownBlock) (.slice (some ⟨go79, 0, none⟩) l0.length co19) y448 := (by rw [hw, Ny448.out]; exact HP94.1); clear HP94; replace HL383_0 := ak (Kd.V_afterv (v := (.slice (some ⟨go79, 0, none⟩) l0.length co19)) (v1 := (.slice (some ⟨go79, 0, none⟩) l0.length co19)) (ok := (fun k_ => (P0_ k_ ∨ w.heap.size ≤ k_) ∧ some k_ ≠ (.slice Ao89 y388.length co89 : Value).ownBlock ∧ some k_ ≠ (v446 : Value).ownBlock)) (by (with_reducible repeat (first | apply Kd.V_alloc | apply Kd.V_drewN | apply Kd.V_drew)); exact Kd.V_mono HL383_0.out (fun _ hk => ⟨⟨hk.1.1, ⟨hk.1.2.2, hk.2⟩⟩, hk.1.2.1⟩)) hg (.inl rfl)); replace HL387_0 := ak (Kd.V_afterv (v := (.slice (some ⟨go79, 0, none⟩) l0.length co19)) (v1 := (.slice (some ⟨go79, 0, none⟩) l0.length co19)) (ok := (fun k_ => (P0_ k_ ∨ w.heap.size ≤ k_) ∧ some k_ ≠ (.slice Ao89 y388.length co89 : Value).ownBlock ∧ some k_ ≠ (v446 : Value).ownBlock)) (by (with_reducible repeat (first | apply Kd.V_alloc | apply Kd.V_drewN | apply Kd.V_drew)); exact Kd.V_mono HL387_0.out (fun _ hk => ⟨⟨hk.1.1, ⟨hk.1.2.2, hk.2⟩⟩, hk.1.2.1⟩)) hg (.inl rfl)); replace HO390 := ak (Kd.R_over' (v := (.slice (some ⟨go79, 0, none⟩) l0.length co19)) (by (with_reducible repeat (first | apply Kd.R_alloc | apply Kd.R_drewN | apply Kd.R_drew)); exact HO390.out) (Kd.N_typed HO_0.out) (by decide) hg); replace HO444 := ak (Kd.V_afterv (v := (.slice (some ⟨go79, 0, none⟩) l0.length co19)) (v1 := (.slice (some ⟨go79, 0, none⟩) l0.length co19)) (ok := (fun k_ => (P0_ k_ ∨ w.heap.size ≤ k_) ∧ some k_ ≠ (v446 : Value).ownBlock)) (by (with_reducible repeat (first | apply Kd.V_alloc | apply Kd.V_drewN | apply Kd.V_drew)); exact Kd.V_mono HO444.out (fun _ hk => ⟨⟨hk.1.1, hk.2⟩, hk.1.2⟩)) hg (.inl rfl)); replace HB := ak ((by rw [hw]; exact below_set (HB.out) GB79.out : Below w0.heap.size w0 w95)); replace HK := ak (Kept.of_grown (S := (fun k_ => P0_ k_)) hg (by repeat (first | exact HK.out | apply Kept.alloc | apply Kept.drewN | apply Kept.drew)) (fun k_ e_ => (HO_0.out.1 k_ e_).1)); replace HO_0 := ak (hp_); clear HO447; clear hg hw hp_) | ((with_reducible refine gate_dst (N := 93) rfl ?_); (try (refine gate_guard (by rfl) ?_; dsimp only)); refine Kd.R_lit k71 _ 71 ?hg (N := 93) ?hd (xs := ([] : List (S71))) (inner := []) (ok := fun _ => True) (okp := fun _ => True) ?hr ?hp (fun _ hk => hk) trivial (Below.refl _ _) (Nat.le_refl _) (by simp) ?_; (case hd => rfl); (case hg => rfl); (case hr => first | (go_simp; done) | (go_simp; rfl)); (case hp => exact (Reps.none _ _)); intro v450 w96 ho97 hb hg_ hnew_; clear hg_ hnew_; (first | rw [← Ny449.out] at ho97 | (simp only [Int.reduceToNat] at ho97; rw [← Ny449.out] at ho97)); replace HO_0 := ak (Kd.N_elder' (by (with_reducible repeat (first | apply Kd.N_alloc | apply Kd.N_drewN | apply Kd.N_drew)); exact HO_0.out) (Kd.R_base ho97) hb); replace HL383_0 := ak (Kd.V_elder' (by (with_reducible repeat (first | apply Kd.V_alloc | apply Kd.V_drewN | apply Kd.V_drew)); exact HL383_0.out) (Kd.R_base ho97) hb); replace HL387_0 := ak (Kd.V_elder' (by (with_reducible repeat (first | apply Kd.V_alloc | apply Kd.V_drewN | apply Kd.V_drew)); exact HL387_0.out) (Kd.R_base ho97) hb); replace HO444 := ak (Kd.V_elder' (by (with_reducible repeat (first | apply Kd.V_alloc | apply Kd.V_drewN | apply Kd.V_drew)); exact HO444.out) (Kd.R_base ho97) hb); have HO451 := ak (Kd.R_lower (Kd.R_new' (Kd.R_newM (M := fun k_ => (P0_ k_ ∨ w.heap.size ≤ k_)) ho97 (by first | exact HK.out.1 | exact (show Kept w _ (fun k_ => P0_ k_) from by repeat (first | exact HK.out | apply Kept.alloc | apply Kept.drewN | apply Kept.drew)).1) (fun k_ h_ => .inr h_)) (Kd.R_lt (by (with_reducible repeat (first | apply Kd.R_alloc | apply Kd.R_drewN | apply Kd.R_drew)); exact HO390.out))) (below_size (by exact hopb HB.out))); replace HO390 := ak (Kd.R_elder' (by (with_reducible repeat (first | apply Kd.R_alloc | apply Kd.R_drewN | apply Kd.R_drew)); exact HO390.out) (Kd.R_base ho97) hb); replace HK := ak (Kept.below (S := (fun k_ => P0_ k_)) (by repeat (first | exact HK.out | apply Kept.alloc | apply Kept.drewN | apply Kept.drew)) hb); replace HB := ak (below_step (by exact hopb HB.out) hb); clear hb ho97; have q98 : ((ji75) : Int) ≤ ((y388.length : Int) : Int) := of_decide_eq_true (by assumption); obtain ⟨i098, hi098, _, hsz98, _⟩ := info_parts info71; have hroom98 : y388.length ≤ co89 := (Kd.R_reads' HO390.out).2.1; have hC98 : Kd.F k71 _ _ Ao89 y388.length y388 := (Kd.V_at (base := w0.heap.size) (Kd.R_V (Kd.R_apart' (HO390.out) (Kd.N_typed HO_0.out) (by decide)))).2.2; have q098 : (0 : Int) ≤ ((ji75) : Int) := of_decide_eq_true (by assumption); have hcut98 := cut_from (P := Try.prog) 32 71 .i64 Try.underlying32 hi098 2 hsz98 Ao89 y388.length co89 (ji75) q098 q98; have hr98 := Kd.F_cut (m := ((ji75) : Int).toNat) (c := co89) hC98 (by omega) hroom98; obtain ⟨A98, hA98⟩ : ∃ A1, A1 = (if co89 = ((ji75) : Int).toNat then Ao89 else (Ao89 : Option Addr).map (·.add (((ji75) : Int).toNat * 2))) := ⟨_, rfl⟩; obtain ⟨c98, hc98⟩ : ∃ c1, c1 = co89 - ((ji75) : Int).toNat := ⟨_, rfl⟩; have hy98 : y452.length = y388.length - ((ji75) : Int).toNat := (by rw [Ny452.out, List.length_drop] <;> omega); rw [show (y388).drop ((ji75) : Int).toNat = y452 from Ny452.out.symm] at hr98; replace hr98 : Kd.F k71 _ _ A98 y452.length y452 := (by rw [hA98]; exact hr98); rw [← hy98, ← hA98, ← hc98] at hcut98; have HO456 := ak (show Kd.V k71 71 _ w0.heap.size _ (.slice A98 y452.length c98) y452 from Kd.V_mk (by rw [hy98, hc98]; exact Nat.sub_le_sub_right hroom98 _) hr98); have HC456 := ak (show y452.length ≤ c98 from by rw [hy98, hc98]; exact Nat.sub_le_sub_right hroom98 _); clear hr98 hC98 hroom98 hi098 hsz98 hc98; have KY98 := ak hy98; have KA98 := ak hA98; clear hy98 hA98; replace q98 := eq_true q98) | ((with_reducible refine gate_builtin (b := .append) (xs := #[.tmp 93, .tmp 96]) rfl ?_); (try (refine gate_guard (by rfl) ?_; dsimp only)); at_builtin; refine Kd.R_append_rows k71 (w0 := w0) w0.heap.size rfl (.tmp 93) (.tmp 96) 32 71 (.agg #[(.string ⟨#[]⟩), (.int .i64 0)]) 24 rfl Try.underlying32 info71 rfl (by decide) (by omega) v450 y449 y452 _ _ _ (fun k_ => (P0_ k_ ∨ w.heap.size ≤ k_) ∧ some k_ ≠ (.slice Ao89 y388.length co89 : Value).ownBlock) (fun _ => False) rfl rfl ?aO ?aR (fun _ _ h => h) (fun _ h => h.elim) ?aF ?aB ?aS ?aL ?_; (case aR => repeat (first | exact (Kd.V_reads' HO456.out).2.2 | (with_reducible refine Kd.C_alloc ?_ _) | (with_reducible refine Kd.C_drewN ?_ _) | (with_reducible refine Kd.C_drew ?_))); (case aB => exact (by exact hopb HB.out)); (case aF => exact (fun k_ hk => ⟨(.inr (Nat.le_trans (by first | exact HK.out.1 | exact (show Kept w _ (fun k_ => P0_ k_) from by repeat (first | exact HK.out | apply Kept.alloc | apply Kept.drewN | apply Kept.drew)).1) hk)), Kd.fresh' (Kd.R_lt (by (with_reducible repeat (first | apply Kd.R_alloc | apply Kd.R_drewN | apply Kd.R_drew)); exact HO390.out)) k_ hk⟩)); (case aO => exact (by (with_reducible repeat (first | apply Kd.R_alloc | apply Kd.R_drewN | apply Kd.R_drew)); exact Kd.R_mono HO451.out (fun _ hk => ⟨hk.1.1, hk.2⟩))); (case aS => exact (below_size (by exact hopb HB.out))); (case aL => have := LMc82.out; omega); intro v458 w99 ho hb hg hat; rw [← Ny457.out] at ho; replace HO_0 := ak (Kd.N_afterv (ok := (fun k_ => (P0_ k_ ∨ w.heap.size ≤ k_) ∧ some k_ ≠ (.slice Ao89 y388.length co89 : Value).ownBlock)) (by (with_reducible repeat (first | apply Kd.N_alloc | apply Kd.N_drewN | apply Kd.N_drew)); exact HO_0.out) hg hat); replace HL383_0 := ak (Kd.V_afterv (ok := (fun k_ => (P0_ k_ ∨ w.heap.size ≤ k_) ∧ some k_ ≠ (.slice (some ⟨go79, 0, none⟩) l0.length co19 : Value).ownBlock ∧ some k_ ≠ (.slice Ao89 y388.length co89 : Value).ownBlock)) (by (with_reducible repeat (first | apply Kd.V_alloc | apply Kd.V_drewN | apply Kd.V_drew)); exact Kd.V_mono HL383_0.out (fun _ hk => ⟨⟨hk.1.1.1, ⟨hk.1.2, hk.1.1.2.1⟩⟩, hk.2⟩)) hg hat); replace HL387_0 := ak (Kd.V_afterv (ok := (fun k_ => (P0_ k_ ∨ w.heap.size ≤ k_) ∧ some k_ ≠ (.slice (some ⟨go79, 0, none⟩) l0.length co19 : Value).ownBlock ∧ some k_ ≠ (.slice Ao89 y388.length co89 : Value).ownBlock)) (by (with_reducible repeat (first | apply Kd.V_alloc | apply Kd.V_drewN | apply Kd.V_drew)); exact Kd.V_mono HL387_0.out (fun _ hk => ⟨⟨hk.1.1.1, ⟨hk.1.2, hk.1.1.2.1⟩⟩, hk.2⟩)) hg hat); replace HO390 := ak (Kd.R_after (ok := (fun k_ => (P0_ k_ ∨ w.heap.size ≤ k_))) (by (with_reducible repeat (first | apply Kd.R_alloc | apply Kd.R_drewN | apply Kd.R_drew)); exact Kd.R_mono HO390.out (fun _ hk => ⟨hk.1.1, hk.2⟩)) hg hat); replace HO444 := ak (Kd.V_afterv (ok := (fun k_ => (P0_ k_ ∨ w.heap.size ≤ k_) ∧ some k_ ≠ (.slice (some ⟨go79, 0, none⟩) l0.length co19 : Value).ownBlock)) (by (with_reducible repeat (first | apply Kd.V_alloc | apply Kd.V_drewN | apply Kd.V_drew)); exact Kd.V_mono HO444.out (fun _ hk => ⟨⟨hk.1.1.1, hk.1.2⟩, hk.2⟩)) hg hat); replace HO456 := ak (Kd.V_afterv (ok := (fun k_ => (P0_ k_ ∨ w.heap.size ≤ k_) ∧ some k_ ≠ (.slice (some ⟨go79, 0, none⟩) l0.length co19 : Value).ownBlock)) (by (with_reducible repeat (first | apply Kd.V_alloc | apply Kd.V_drewN | apply Kd.V_drew)); exact Kd.V_mono HO456.out (fun _ hk => ⟨⟨hk.1.1.1, hk.2⟩, hk.1.2⟩)) hg hat); replace HB := ak (hb); replace HK := ak (Kept.of_grown (S := (fun k_ => P0_ k_)) hg (by repeat (first | exact HK.out | apply Kept.alloc | apply Kept.drewN | apply Kept.drew)) (fun k_ e_ => (HO451.out.1 k_ e_).1.1)); have HO459 := ak (ho); clear HO451; clear ho hb hg hat; have p83 : 0 ≤ ((ji24) : Int) := of_decide_eq_true (by assumption); have q83 : ((ji24) : Int) < ((l0.length : Int) : Int) := of_decide_eq_true (by assumption); obtain ⟨ce83, hcl83, hM83, hcc83, hfr83⟩ := Kd.N_elem HO_0.out z64 ((ji24) : Int) p83 q83; obtain ⟨ua83_0, uc83_0, rfl, ul83_0, ge83_0⟩ := k64_openF hM83; have hx83_0 := hcc83 0 _ rfl; have hf83_0 := hfr83 0; (try simp only [show (k64).sz = 1 from rfl, Nat.mul_one, Nat.add_zero] at hx83_0); (try simp only [show (k64).sz = 1 from rfl, Nat.mul_one, Nat.add_zero] at hf83_0); clear hcl83 hcc83 hfr83 hM83; replace p83 := eq_true p83; replace q83 := eq_true q83; have n_ := ak (Kd.N_mono (ok' := (fun k_ => (P0_ k_ ∨ w.heap.size ≤ k_) ∧ some k_ ≠ (.slice Ao89 y388.length co89 : Value).ownBlock ∧ some k_ ≠ (v458 : Value).ownBlock)) HO_0.out (fun k_ hk => ⟨hk.1.1, ⟨hk.1.2, hk.2⟩⟩)); clear HO_0; have HO_0 := n_; clear n_; have HX100 := ak (show Kd.N k64 64 w99 w0.heap.size (fun k_ => (P0_ k_ ∨ w.heap.size ≤ k_) ∧ some k_ ≠ (.slice Ao89 y388.length co89 : Value).ownBlock) (.slice (some ⟨go79, 0, none⟩) l0.length co19) y448 from (by (with_reducible repeat (first | apply Kd.N_alloc | apply Kd.N_drewN | apply Kd.N_drew)); exact Kd.N_mono HO_0.out (fun _ hk => ⟨hk.1, hk.2.1⟩))); obtain ⟨ce100, hcl100, hM100, hcc100, hfr100⟩ := Kd.N_elem HX100.out z64 ((ji24) : Int) (of_decide_eq_true (by assumption)) (by have h_ : ((ji24) : Int) < ((l0.length : Int) : Int) := of_decide_eq_true (by assumption); first | exact h_ | (have e_ := (Kd.N_reads' HO_0.out).1; omega) | simpa using h_); obtain ⟨ua100_0, uc100_0, rfl, ul100_0, ge100_0⟩ := k64_openF hM100; have HP100 := Kd.N_seg HX100.out ((ji24) : Int) (of_decide_eq_true (by assumption)) (by have h_ : ((ji24) : Int) < ((l0.length : Int) : Int) := of_decide_eq_true (by assumption); first | exact h_ | (have e_ := (Kd.N_reads' HO_0.out).1; omega) | simpa using h_) (seg := [v458]) (j := 0) hcl100 hcc100 (show 1 ≤ 1 from by decide) (x' := (⟨y457⟩ : S64)) (by have hmk_ := Kd.R_mono (ok' := (fun k_ => ((fun k_ => (P0_ k_ ∨ w.heap.size ≤ k_) ∧ some k_ ≠ (.slice Ao89 y388.length co89 : Value).ownBlock)) k_ ∧ k_ ≠ go79)) (Kd.R_apart' (HO459.out) (Kd.N_typed HO_0.out) (by decide)) (fun k_ hk => ⟨⟨hk.1.1, hk.1.2⟩, fun e_ => (hk.2) (by rw [e_]; rfl)⟩); obtain ⟨Am_, cm_, em_⟩ := Kd.R_slice hmk_; rw [em_] at hmk_ ⊢; exact k64_mkF _ _ (⟨y457⟩ : S64) (Kd.R_reads' hmk_).2.1 (Kd.R_F hmk_)) (fun _ hk => hk); have hx100_0 := hcc100 0 _ rfl; (try simp only [show (k64).sz = 1 from rfl, Nat.mul_one, Nat.add_zero] at hx100_0); have hf100_0 := hfr100 0; (try simp only [show (k64).sz = 1 from rfl, Nat.mul_one, Nat.add_zero] at hf100_0); clear hcl100 hcc100 hfr100 hM100; (try simp only [show (k64).sz = 1 from rfl, Nat.mul_one, Nat.add_zero] at HP100); (try simp only [show (k64).sz = 1 from rfl, Nat.mul_one, Nat.add_zero] at HP100)) | ((with_reducible refine gate_store (t := 32) (p := 99) rfl ?_); refine store_event (t := 32) (p := 99) (v := ?vo_w101) (w1 := (w99.setCell ⟨go79, ((ji24) : Int).toNat, none⟩ (v458))) ?hg ?ho ?hn ?hr ?_; (case ho => rfl); (case hg => rfl); (case hn => rfl); (case hr => first | (go_simp; done) | (go_simp; rfl) | (obtain ⟨A_, c_, e_⟩ := Kd.R_slice (‹Aside0 (Kd.R _ _ _ _ _ v458 _)›).out; rw [e_]; first | (go_simp; done) | (go_simp; rfl)) | (have one_ : Value.oneCell' v458 = true := (by (first | obtain ⟨A_, c_, e_⟩ := Kd.R_slice (‹Aside0 (Kd.R _ _ _ _ _ v458 _)›).out | obtain ⟨A_, c_, e_⟩ := Kd.N_slice (‹Aside0 (Kd.N _ _ _ _ _ v458 _)›).out | obtain ⟨A_, c_, e_⟩ := Kd.S_slice (‹Aside0 (Kd.S _ _ _ _ _ v458 _)›).out); rw [e_]; rfl); have sto_ := fun (a_ : Addr) m_ (w_ : World) => run_store Try.prog w_ a_ v458 m_ one_; first | (go_simp; done) | (go_simp; rfl))); intro w101 hw; have hg : w99.grownBy w101 (some go79) := (by rw [hw]; exact HP100.2); have hp_ : Kd.N k64 64 w101 w0.heap.size (fun k_ => (P0_ k_ ∨ w.heap.size ≤ k_) ∧ some k_ ≠ (.slice Ao89 y388.length co89 : Value).ownBlock) (.slice (some ⟨go79, 0, none⟩) l0.length co19) y460 := (by rw [hw, Ny460.out]; exact HP100.1); clear HP100; replace HL383_0 := ak (Kd.V_afterv (v := (.slice (some ⟨go79, 0, none⟩) l0.length co19)) (v1 := (.slice (some ⟨go79, 0, none⟩) l0.length co19)) (ok := (fun k_ => (P0_ k_ ∨ w.heap.size ≤ k_) ∧ some k_ ≠ (.slice Ao89 y388.length co89 : Value).ownBlock ∧ some k_ ≠ (v458 : Value).ownBlock)) (by (with_reducible repeat (first | apply Kd.V_alloc | apply Kd.V_drewN | apply Kd.V_drew)); exact Kd.V_mono HL383_0.out (fun _ hk => ⟨⟨hk.1.1, ⟨hk.1.2.2, hk.2⟩⟩, hk.1.2.1⟩)) hg (.inl rfl)); replace HL387_0 := ak (Kd.V_afterv (v := (.slice (some ⟨go79, 0, none⟩) l0.length co19)) (v1 := (.slice (some ⟨go79, 0, none⟩) l0.length co19)) (ok := (fun k_ => (P0_ k_ ∨ w.heap.size ≤ k_) ∧ some k_ ≠ (.slice Ao89 y388.length co89 : Value).ownBlock ∧ some k_ ≠ (v458 : Value).ownBlock)) (by (with_reducible repeat (first | apply Kd.V_alloc | apply Kd.V_drewN | apply Kd.V_drew)); exact Kd.V_mono HL387_0.out (fun _ hk => ⟨⟨hk.1.1, ⟨hk.1.2.2, hk.2⟩⟩, hk.1.2.1⟩)) hg (.inl rfl)); replace HO390 := ak (Kd.R_over' (v := (.slice (some ⟨go79, 0, none⟩) l0.length co19)) (by (with_reducible repeat (first | apply Kd.R_alloc | apply Kd.R_drewN | apply Kd.R_drew)); exact HO390.out) (Kd.N_typed HO_0.out) (by decide) hg); replace HO444 := ak (Kd.V_afterv (v := (.slice (some ⟨go79, 0, none⟩) l0.length co19)) (v1 := (.slice (some ⟨go79, 0, none⟩) l0.length co19)) (ok := (fun k_ => (P0_ k_ ∨ w.heap.size ≤ k_) ∧ some k_ ≠ (v458 : Value).ownBlock)) (by (with_reducible repeat (first | apply Kd.V_alloc | apply Kd.V_drewN | apply Kd.V_drew)); exact Kd.V_mono HO444.out (fun _ hk => ⟨⟨hk.1.1, hk.2⟩, hk.1.2⟩)) hg (.inl rfl)); replace HO456 := ak (Kd.V_afterv (v := (.slice (some ⟨go79, 0, none⟩) l0.length co19)) (v1 := (.slice (some ⟨go79, 0, none⟩) l0.length co19)) (ok := (fun k_ => (P0_ k_ ∨ w.heap.size ≤ k_) ∧ some k_ ≠ (v458 : Value).ownBlock)) (by (with_reducible repeat (first | apply Kd.V_alloc | apply Kd.V_drewN | apply Kd.V_drew)); exact Kd.V_mono HO456.out (fun _ hk => ⟨⟨hk.1.1, hk.2⟩, hk.1.2⟩)) hg (.inl rfl)); replace HB := ak ((by rw [hw]; exact below_set (HB.out) GB79.out : Below w0.heap.size w0 w101)); replace HK := ak (Kept.of_grown (S := (fun k_ => P0_ k_)) hg (by repeat (first | exact HK.out | apply Kept.alloc | apply Kept.drewN | apply Kept.drew)) (fun k_ e_ => (HO_0.out.1 k_ e_).1)); replace HO_0 := ak (hp_); clear HO459; clear hg hw hp_))
                     go_ret
                     exact ⟨_, by first | rfl | (simp only [u8_w_, w64_u8_] <;> rfl) | (simp [errW_none, errW_some] <;> rfl) | (simp only [← hji24, ← hji75]; first | rfl | (simp [errW_none, errW_some] <;> rfl)) | (simp [*, errW_none, errW_some] <;> rfl), by (with_reducible repeat (first | apply Kd.N_alloc | apply Kd.N_drewN | apply Kd.N_drew)); exact Kd.N_mono HO_0.out (fun _ hk => hk.1), by exact hopb HB.out, by repeat (first | exact HK.out | apply Kept.alloc | apply Kept.drewN | apply Kept.drew)⟩
                    ·rw [if_neg c82] at H
                     exact absurd H (by simp)
                   ·rw [if_neg c78] at H
                    exact absurd H (by simp)
                  ·rw [if_neg c77] at H
                   exact absurd H (by simp)
                 ·rw [if_neg c76] at H
                  exact absurd H (by simp)
              ·rw [if_neg c27] at H
               exact absurd H (by simp)
             ·rw [if_neg c26] at H
              exact absurd H (by simp)
            ·rw [if_neg c25] at H
             exact absurd H (by simp)
           ·rw [if_neg c23] at H
            exact absurd H (by simp)
          ·rw [if_neg c22] at H
           exact absurd H (by simp)
         ·rw [if_neg c21] at H
          exact absurd H (by simp)

end Go.Proofs.Ytebgpbcbbjpbfaa.PFnPageFind
