-- Written for this claim by a program of this session (wip/myprint in the proofs' repo)
import Derived.Test.YtebgpbcbbjpbfaaPFnPagesListx0
import Derived.Test.YtebgpbcbbjpbfaaWZip
-- slim2
namespace Go.Proofs.Ytebgpbcbbjpbfaa.PFnPagesList
open Go.RowKit Go.Proofs.YtebgpbcbbjpbfaaW.PrintWords Go.Proofs.YtebgpbcbbjpbfaaW.PrintLast Go.Proofs.YtebgpbcbbjpbfaaW.PrintMore
attribute [local go_sem] max2_int min2_int max_two min_two max_three min_three max_four min_four max2_strs min2_strs   -- for this text's walks alone
set_option linter.unusedVariables false
set_option linter.unusedSimpArgs false

/-! ### spec_l6Mend: function 88 -/
mutual
def spec_l6Mend.j0 : Nat → List (S64) → Int → Bool → Option ((List (S64)))
 | 0, _, _, _ => none
 | k + 1, x0, x1, x19 => if x19 = true then (some (([] : List (S64)))) else (if (x0.length : Int) = 1 then (spec_l6Mend.j1 k x0 x1 true) else (if 0 ≤ x1 then (if x1 < (x0.length : Int) then (spec_l6Mend.j1 k x0 x1 (decide ((((rd_T64 x0 x1).f0).length : Int) ≥ 2))) else (none)) else (none)))
def spec_l6Mend.j1 : Nat → List (S64) → Int → Bool → Option ((List (S64)))
 | 0, _, _, _ => none
 | k + 1, x0, x1, x32 => if x32 = true then (some x0) else (if x1 = (wrap64 ((x0.length : Int) - 1)) then (spec_l6Mend.j2 k x0 x1 (wrap64 (x1 - 1))) else (spec_l6Mend.j2 k x0 x1 x1))
def spec_l6Mend.j2 : Nat → List (S64) → Int → Int → Option ((List (S64)))
 | 0, _, _, _ => none
 | k + 1, x0, x1, x5 => (some (([] : List (S71)) : List (S71))).bind fun y376 => (if 0 ≤ x5 then (if x5 < (x0.length : Int) then (if y376.length + ((rd_T64 x0 x5).f0).length < 5864062014805 then ((some (y376 ++ ((rd_T64 x0 x5).f0) : List (S71))).bind fun y380 => (if 0 ≤ (wrap64 (x5 + 1)) then (if (wrap64 (x5 + 1)) < (x0.length : Int) then (if y380.length + ((rd_T64 x0 (wrap64 (x5 + 1))).f0).length < 5864062014805 then ((some (y380 ++ ((rd_T64 x0 (wrap64 (x5 + 1))).f0) : List (S71))).bind fun y384 => (if (y384.length : Int) ≤ 4 then ((some (([] : List (S64)) : List (S64))).bind fun y387 => (if x5 ≤ (x0.length : Int) then ((some (x0.take (x5 : Int).toNat : List (S64))).bind fun y390 => (if y387.length + y390.length < 5864062014805 then ((some (y387 ++ y390 : List (S64))).bind fun y395 => (if y395.length < 5864062014805 then ((some (y395 ++ [(⟨y384⟩ : S64)] : List (S64))).bind fun y398 => (if 0 ≤ (wrap64 (x5 + 2)) then (if (wrap64 (x5 + 2)) ≤ (x0.length : Int) then ((some (x0.drop ((wrap64 (x5 + 2)) : Int).toNat : List (S64))).bind fun y401 => (if y398.length + y401.length < 5864062014805 then (some (y398 ++ y401)) else (none))) else (none)) else (none))) else (none))) else (none))) else (none))) else (if x5 = x1 then ((some (([] : List (S71)) : List (S71))).bind fun y409 => (if 2 ≤ (y384.length : Int) then ((some (y384.take 2 : List (S71))).bind fun y412 => (if y409.length + y412.length < 5864062014805 then ((some (([] : List (S71)) : List (S71))).bind fun y421 => ((some (y384.drop 2 : List (S71))).bind fun y424 => (if y421.length + y424.length < 5864062014805 then (some ((x0.set (x5 : Int).toNat (⟨(y409 ++ y412)⟩ : S64)).set ((wrap64 (x5 + 1)) : Int).toNat (⟨(y421 ++ y424)⟩ : S64))) else (none)))) else (none))) else (none))) else ((some (([] : List (S71)) : List (S71))).bind fun y433 => (if 0 ≤ (wrap64 ((y384.length : Int) - 2)) then (if (wrap64 ((y384.length : Int) - 2)) ≤ (y384.length : Int) then ((some (y384.take ((wrap64 ((y384.length : Int) - 2)) : Int).toNat : List (S71))).bind fun y436 => (if y433.length + y436.length < 5864062014805 then ((some (([] : List (S71)) : List (S71))).bind fun y445 => ((some (y384.drop ((wrap64 ((y384.length : Int) - 2)) : Int).toNat : List (S71))).bind fun y448 => (if y445.length + y448.length < 5864062014805 then (some ((x0.set (x5 : Int).toNat (⟨(y433 ++ y436)⟩ : S64)).set ((wrap64 (x5 + 1)) : Int).toNat (⟨(y445 ++ y448)⟩ : S64))) else (none)))) else (none))) else (none)) else (none)))))) else (none)) else (none)) else (none))) else (none)) else (none)) else (none))
end
def spec_l6Mend.f (k : Nat) (l0 : List (S64)) (a1 : Int) : Option ((List (S64))) := if (l0.length : Int) = 1 then (if 0 < (l0.length : Int) then (spec_l6Mend.j0 k l0 a1 ((((rd_T64 l0 0).f0).length : Int) == 0)) else (none)) else (spec_l6Mend.j0 k l0 a1 false)
theorem spec_l6Mend.mono_l : ∀ k, (∀ y0 y1 y2, LeO (spec_l6Mend.j0 k y0 y1 y2) (spec_l6Mend.j0 (k + 1) y0 y1 y2)) ∧ (∀ y0 y1 y2, LeO (spec_l6Mend.j1 k y0 y1 y2) (spec_l6Mend.j1 (k + 1) y0 y1 y2)) ∧ (∀ y0 y1 y2, LeO (spec_l6Mend.j2 k y0 y1 y2) (spec_l6Mend.j2 (k + 1) y0 y1 y2))
 | 0 => ⟨fun _ _ _ r h => by simp [spec_l6Mend.j0] at h, fun _ _ _ r h => by simp [spec_l6Mend.j1] at h, fun _ _ _ r h => by simp [spec_l6Mend.j2] at h⟩
 | k + 1 => by
  obtain ⟨ih0, ih1, ih2⟩ := spec_l6Mend.mono_l k
  refine ⟨?_, ?_, ?_⟩
  ·intro y0 y1 y2
   unfold spec_l6Mend.j0
   repeat' first
   | (with_reducible exact ih0 _ _ _)
   | (with_reducible exact ih1 _ _ _)
   | (with_reducible exact ih2 _ _ _)
   | (with_reducible exact LeO.refl _)
   | (with_reducible exact LeO.none _)
   | (with_reducible refine LeO.ite ?_ ?_)
   | (with_reducible refine LeO.bind ?_ (fun _ => ?_))
   | exact ih0 _ _ _
   | exact ih1 _ _ _
   | exact ih2 _ _ _
   | exact LeO.none _
   | refine LeO.ite ?_ ?_
   | refine LeO.bind ?_ (fun _ => ?_)
  ·intro y0 y1 y2
   unfold spec_l6Mend.j1
   repeat' first
   | (with_reducible exact ih0 _ _ _)
   | (with_reducible exact ih1 _ _ _)
   | (with_reducible exact ih2 _ _ _)
   | (with_reducible exact LeO.refl _)
   | (with_reducible exact LeO.none _)
   | (with_reducible refine LeO.ite ?_ ?_)
   | (with_reducible refine LeO.bind ?_ (fun _ => ?_))
   | exact ih0 _ _ _
   | exact ih1 _ _ _
   | exact ih2 _ _ _
   | exact LeO.none _
   | refine LeO.ite ?_ ?_
   | refine LeO.bind ?_ (fun _ => ?_)
  ·intro y0 y1 y2
   unfold spec_l6Mend.j2
   repeat' first
   | (with_reducible exact ih0 _ _ _)
   | (with_reducible exact ih1 _ _ _)
   | (with_reducible exact ih2 _ _ _)
   | (with_reducible exact LeO.refl _)
   | (with_reducible exact LeO.none _)
   | (with_reducible refine LeO.ite ?_ ?_)
   | (with_reducible refine LeO.bind ?_ (fun _ => ?_))
   | exact ih0 _ _ _
   | exact ih1 _ _ _
   | exact ih2 _ _ _
   | exact LeO.none _
   | refine LeO.ite ?_ ?_
   | refine LeO.bind ?_ (fun _ => ?_)
theorem spec_l6Mend.mono : ∀ a0 a1 k, LeO (spec_l6Mend.f k a0 a1) (spec_l6Mend.f (k + 1) a0 a1) := by
 intro a0 a1 k
 obtain ⟨ih0, ih1, ih2⟩ := spec_l6Mend.mono_l k
 unfold spec_l6Mend.f
 repeat' first
   | (with_reducible exact ih0 _ _ _)
   | (with_reducible exact ih1 _ _ _)
   | (with_reducible exact ih2 _ _ _)
   | (with_reducible exact LeO.refl _)
   | (with_reducible exact LeO.none _)
   | (with_reducible refine LeO.ite ?_ ?_)
   | (with_reducible refine LeO.bind ?_ (fun _ => ?_))
   | exact ih0 _ _ _
   | exact ih1 _ _ _
   | exact ih2 _ _ _
   | exact LeO.none _
   | refine LeO.ite ?_ ?_
   | refine LeO.bind ?_ (fun _ => ?_)
def spec_l6Mend.T8 : Bool × List (List Nat × List Nat) := (true, [([], []), ([], []), ([], []), ([1, 2], [1, 2]), ([3], [3]), ([4], [4]), ([0, 5], [0, 5]), ([], []), ([], []), ([8], [8]), ([7, 9], [7, 9]), ([10], [10]), ([11], [11]), ([6, 12, 6], [6, 12]), ([13, 13, 0, 1, 2, 3, 4, 5, 6, 7, 8, 9, 10, 11, 12, 13], [13])])
def spec_l6Mend.B8 : List Nat := [0, 0, 0, 6, 14, 30, 63, 0, 0, 256, 896, 1920, 3968, 8191, 16383]
theorem spec_l6Mend.tab8 : rtab .any (opsOf Try.f88 8) = spec_l6Mend.T8 := by kernel_rfl
theorem spec_l6Mend.bits8 : waitsOk spec_l6Mend.T8.2 spec_l6Mend.B8 = true := by kernel_rfl
set_option maxHeartbeats 8000000 in
set_option maxRecDepth 100000 in
theorem spec_l6Mend.calls (k : Nat) (P0_ : Nat → Prop) (u9000_ : Value) (l0 : List (S64)) (a1 : Int) (r : List (S64)) (w0 w : World) (hB : Below w0.heap.size w0 w) (ho0 : Kd.N k64 64 w w0.heap.size P0_ u9000_ l0) (h : spec_l6Mend.f k l0 a1 = some r) :
  Calls Try.prog 88 #[u9000_, .int .i64 a1] w fun e w' => ∃ v0_ : Value, e = .returned (v0_) ∧ Kd.N k64 64 w' w0.heap.size (fun k_ => (P0_ k_ ∨ w.heap.size ≤ k_)) v0_ r ∧ Below w0.heap.size w0 w' ∧ Kept w w' (fun k_ => P0_ k_) := by
 have hu64 := Try.underlying64
 have HO0 := ak (show Kd.N k64 64 w w0.heap.size (fun k_ => (P0_ k_ ∨ w.heap.size ≤ k_)) u9000_ l0 from Kd.N_mono ho0 (fun k_ hk => (.inl hk)))
 have HK := ak (Kept.refl w (fun k_ => P0_ k_))
 have HW0 := ak hB.size
 have HB := ak hB
 clear hB
 have H : (if (l0.length : Int) = 1 then (if 0 < (l0.length : Int) then (spec_l6Mend.j0 k l0 a1 ((((rd_T64 l0 0).f0).length : Int) == 0)) else (none)) else (spec_l6Mend.j0 k l0 a1 false)) = some r := h
 clear h
 have HC3 := ak H
 clear H
 go_enter Try.func88, Try.ntmps88
 go_upto_region 1 with (fail)
 go_cut [19] (fun v19 wc => ∃ (kq : Nat) (x19_2 : Bool), v19 = .bool x19_2 ∧ Aside0 (spec_l6Mend.j0 kq l0 a1 x19_2 = some r) ∧ Aside0 (kq ≤ k) ∧ Aside0 (Kd.N k64 64 wc w0.heap.size (fun k_ => (P0_ k_ ∨ w.heap.size ≤ k_)) u9000_ l0) ∧ Aside0 (Kept w wc (fun k_ => P0_ k_)) ∧ Aside0 (Below w0.heap.size w0 wc))
 case first =>
  have H := HC3.out
  clear HC3
  by_cases c4 : (l0.length : Int) = 1
  ·rw [if_pos c4] at H
   have c4b0 : ((l0.length : Int) == 1) = true := beq_iff_eq.mpr c4
   have c4b1 : ((l0.length : Int) != 1) = false := bne_eq_false_iff_eq.mpr c4
   clear c4
   (first | rw [c4b0] | (simp only [i64_w, i32_w]; rw [c4b0]) | skip)
   by_cases c5 : 0 < (l0.length : Int)
   ·rw [if_pos c5] at H
    have c5b0 : decide (0 < (l0.length : Int)) = true := decide_eq_true c5
    have c5b1 : decide (0 < l0.length) = true := decide_eq_true (by omega)
    clear c5
    have H' := ak H
    clear H
    obtain ⟨Ao6, co6, eo6⟩ := Kd.N_slice HO0.out
    subst eo6
    have p371 : 0 ≤ (0 : Int) := (by omega)
    have q371 : 0 < (l0.length : Int) := of_decide_eq_true (by assumption)
    obtain ⟨ad371, A371_0, c371_0, e371, hx371_0, hl371_0, hi371_0⟩ := at_T64 (Kd.N_reads' HO0.out).2.2 0 p371 q371
    cases e371
    obtain ⟨ce371, hce371, hMe371, hcc371⟩ := Kd.N_get HO0.out z64 0 p371 (by first | exact q371 | exact of_decide_eq_true (by assumption) | (have e_ := (Kd.N_reads' HO0.out).1; omega))
    obtain ⟨ua371_0, uc371_0, rfl, ul371_0, ge371_0⟩ := k64_openF hMe371
    have hv371_0 := hcc371 0 _ rfl
    rw [Nat.add_zero, show (k64).sz = 1 from rfl, Nat.mul_one] at hv371_0
    replace hv371_0 := Option.some.inj (hv371_0.symm.trans hx371_0)
    injection hv371_0 with hva_ hvn_ hvc_
    rw [hva_] at ge371_0
    rw [hvc_] at ul371_0
    have HL371_0 := ak (show Kd.V k71 71 _ w0.heap.size _ _ ((rd_T64 l0 0).f0) from Kd.V_mk ul371_0 ge371_0)
    clear hva_ hvn_ hvc_ ge371_0 ul371_0
    clear hcc371 hce371
    have qi371 : (0 < l0.length) = True := eq_true (by omega)
    (try rw [show ((0 : Int)).toNat = 0 from rfl] at hx371_0)
    (try rw [Addr.add_zero'] at hx371_0)
    have HR371_0 := ak hi371_0
    have HC371_0 := ak hl371_0
    clear hi371_0 hl371_0
    replace p371 := eq_true p371
    replace q371 := eq_true q371
    go_wp2
    go_meet
    case rel => exact ⟨_, (((((rd_T64 l0 0).f0).length : Int) == 0)), (by first | rfl | (simp; done) | (simp [bne]; done) | (simp [*]; done)), H', ⟨by first | omega | exact Nat.le_refl _⟩, ⟨by (with_reducible repeat (first | apply Kd.N_alloc | apply Kd.N_drewN | apply Kd.N_drew)); exact HO0.out⟩, ⟨by repeat (first | (with_reducible first | exact HK.out | apply Kept.alloc | apply Kept.drewN | apply Kept.drew) | exact HK.out)⟩, ⟨by repeat (first | (with_reducible first | exact HB.out | apply bA | apply bN | apply bD) | exact HB.out)⟩⟩
   ·rw [if_neg c5] at H
    exact absurd H (by simp)
  ·rw [if_neg c4] at H
   have c4b0 : ((l0.length : Int) == 1) = false := beq_eq_false_iff_ne.mpr c4
   have c4b1 : ((l0.length : Int) != 1) = true := bne_iff_ne.mpr c4
   (first | rw [c4b0] | (simp only [i64_w, i32_w]; rw [c4b0]) | skip)
   have H' := ak H
   clear H
   obtain ⟨Ao7, co7, eo7⟩ := Kd.N_slice HO0.out
   subst eo7
   go_wp2
   go_meet
   case rel => exact ⟨_, (false), (by first | rfl | (simp; done) | (simp [bne]; done) | (simp [*]; done)), H', ⟨by first | omega | exact Nat.le_refl _⟩, ⟨by (with_reducible repeat (first | apply Kd.N_alloc | apply Kd.N_drewN | apply Kd.N_drew)); exact HO0.out⟩, ⟨by repeat (first | (with_reducible first | exact HK.out | apply Kept.alloc | apply Kept.drewN | apply Kept.drew) | exact HK.out)⟩, ⟨by repeat (first | (with_reducible first | exact HB.out | apply bA | apply bN | apply bD) | exact HB.out)⟩⟩
 case rest =>
  clear HC3
  try clear p2
  try clear c3
  try clear p3
  try clear q3
  try clear hx3
  try clear qi3
  try clear c4
  try clear c4b0
  try clear c4b1
  try clear c5
  try clear c5b0
  try clear c5b1
  try clear hx371_0
  try clear p371
  try clear q371
  obtain ⟨kq, x19_2, rfl, HA, HJ2, HO_0, HK, HB⟩ := hcut
  cases kq with
  | zero => exact absurd HA.out (by simp [spec_l6Mend.j0])
  | succ kj2 =>
   have H := HA.out
   clear HA
   simp only [spec_l6Mend.j0] at H
   by_cases c8 : x19_2 = true
   ·subst c8
    rw [if_pos rfl] at H
    obtain ⟨y372, hy372⟩ : ∃ y_ : List (S64), y_ = (([] : List (S64))) := ⟨_, rfl⟩
    replace H : (some y372) = some r := by first | (rw [hy372]; exact H) | exact H
    have Ny372 := ak hy372
    clear hy372
    obtain rfl := Option.some.inj H
    go_wp2_with (first | ((with_reducible refine gate_dst (N := 20) rfl ?_); (try (refine gate_guard (by rfl) ?_; dsimp only)); refine Kd.N_lit k64 _ 64 ?hg (N' := 20) ?hd (xs := ([] : List (S64))) (inner := []) (ok := (fun k_ => (P0_ k_ ∨ w.heap.size ≤ k_) ∧ some k_ ≠ (u9000_ : Value).ownBlock)) (okp := (fun k_ => (P0_ k_ ∨ w.heap.size ≤ k_) ∧ some k_ ≠ (u9000_ : Value).ownBlock)) ?hr ?hp (fun _ hk => hk) ((show ∀ k_, wc.heap.size ≤ k_ → (fun k_ => (P0_ k_ ∨ w.heap.size ≤ k_) ∧ some k_ ≠ (u9000_ : Value).ownBlock) k_ from fun k_ hk => ⟨(.inr (Nat.le_trans (by first | exact HK.out.1 | exact (show Kept w _ (fun k_ => P0_ k_) from by repeat (first | (with_reducible first | exact HK.out | apply Kept.alloc | apply Kept.drewN | apply Kept.drew) | exact HK.out)).1) hk)), Kd.fresh' (Kd.N_lt (by (with_reducible repeat (first | apply Kd.N_alloc | apply Kd.N_drewN | apply Kd.N_drew)); exact HO_0.out)) k_ hk⟩) _ (Nat.le_refl _)) (Below.refl _ _) (Nat.le_refl _) (by simp) ?_; (case hd => rfl); (case hg => rfl); (case hr => first | (go_simp; done) | (go_simp; rfl)); (case hp => exact (Reps.none _ _)); intro v373 w9 ho10 hb hg_ hnew_; clear hg_ hnew_; (first | rw [← Ny372.out] at ho10 | (simp only [Int.reduceToNat] at ho10; rw [← Ny372.out] at ho10)); replace HO_0 := ak (Kd.N_elder' (by (with_reducible repeat (first | apply Kd.N_alloc | apply Kd.N_drewN | apply Kd.N_drew)); exact HO_0.out) (Kd.N_base ho10) hb); have HO374 := ak (Kd.N_lower ho10 (below_size (by exact hopb HB.out))); replace HK := ak (Kept.below (S := (fun k_ => P0_ k_)) (by repeat (first | (with_reducible first | exact HK.out | apply Kept.alloc | apply Kept.drewN | apply Kept.drew) | exact HK.out)) hb); replace HB := ak (below_step (by exact hopb HB.out) hb); clear hb ho10))
    go_ret
    exact ⟨_, by first | rfl | (simp only [u8_w_, w64_u8_] <;> rfl) | (simp [errW_none, errW_some] <;> rfl) | (simp [*, errW_none, errW_some] <;> rfl), by (with_reducible repeat (first | apply Kd.N_alloc | apply Kd.N_drewN | apply Kd.N_drew)); exact Kd.N_mono HO374.out (fun _ hk => hk.1), by repeat (first | (with_reducible first | exact HB.out | apply bA | apply bN | apply bD) | exact HB.out), by repeat (first | (with_reducible first | exact HK.out | apply Kept.alloc | apply Kept.drewN | apply Kept.drew) | exact HK.out)⟩
   ·replace c8 := Bool.eq_false_iff.mpr c8
    subst c8
    rw [if_neg (show ¬ (false = true) by decide)] at H
    have HC11 := ak H
    clear H
    go_upto_region 3 with (fail)
    go_cut [32] (fun v32 wc => ∃ (kq : Nat) (x32_10 : Bool), v32 = .bool x32_10 ∧ Aside0 (spec_l6Mend.j1 kq l0 a1 x32_10 = some r) ∧ Aside0 (kq ≤ kj2) ∧ Aside0 (Kd.N k64 64 wc w0.heap.size (fun k_ => (P0_ k_ ∨ w.heap.size ≤ k_)) u9000_ l0) ∧ Aside0 (Kept w wc (fun k_ => P0_ k_)) ∧ Aside0 (Below w0.heap.size w0 wc))
    case first =>
     have H := HC11.out
     clear HC11
     by_cases c12 : (l0.length : Int) = 1
     ·rw [if_pos c12] at H
      have c12b0 : ((l0.length : Int) == 1) = true := beq_iff_eq.mpr c12
      have c12b1 : ((l0.length : Int) != 1) = false := bne_eq_false_iff_eq.mpr c12
      clear c12
      (first | rw [c12b0] | (simp only [i64_w, i32_w]; rw [c12b0]) | skip)
      have H' := ak H
      clear H
      obtain ⟨Ao13, co13, eo13⟩ := Kd.N_slice HO_0.out
      subst eo13
      go_wp2
      go_meet
      case rel => exact ⟨_, (true), (by first | rfl | (simp; done) | (simp [bne]; done) | (simp [*]; done)), H', ⟨by have := HJ2.out; first | omega | exact Nat.le_refl _⟩, ⟨by (with_reducible repeat (first | apply Kd.N_alloc | apply Kd.N_drewN | apply Kd.N_drew)); exact HO_0.out⟩, ⟨by repeat (first | (with_reducible first | exact HK.out | apply Kept.alloc | apply Kept.drewN | apply Kept.drew) | exact HK.out)⟩, ⟨by repeat (first | (with_reducible first | exact HB.out | apply bA | apply bN | apply bD) | exact HB.out)⟩⟩
     ·rw [if_neg c12] at H
      have c12b0 : ((l0.length : Int) == 1) = false := beq_eq_false_iff_ne.mpr c12
      have c12b1 : ((l0.length : Int) != 1) = true := bne_iff_ne.mpr c12
      (first | rw [c12b0] | (simp only [i64_w, i32_w]; rw [c12b0]) | skip)
      by_cases c14 : 0 ≤ a1
      ·rw [if_pos c14] at H
       have c14b0 : decide (0 ≤ a1) = true := decide_eq_true c14
       clear c14
       by_cases c15 : a1 < (l0.length : Int)
       ·rw [if_pos c15] at H
        have c15b0 : decide (a1 < (l0.length : Int)) = true := decide_eq_true c15
        clear c15
        have H' := ak H
        clear H
        obtain ⟨Ao16, co16, eo16⟩ := Kd.N_slice HO_0.out
        subst eo16
        have p375 : 0 ≤ (a1 : Int) := of_decide_eq_true (by assumption)
        have q375 : a1 < (l0.length : Int) := of_decide_eq_true (by assumption)
        obtain ⟨ad375, A375_0, c375_0, e375, hx375_0, hl375_0, hi375_0⟩ := at_T64 (Kd.N_reads' HO_0.out).2.2 a1 p375 q375
        cases e375
        obtain ⟨ce375, hce375, hMe375, hcc375⟩ := Kd.N_get HO_0.out z64 a1 p375 (by first | exact q375 | exact of_decide_eq_true (by assumption) | (have e_ := (Kd.N_reads' HO_0.out).1; omega))
        obtain ⟨ua375_0, uc375_0, rfl, ul375_0, ge375_0⟩ := k64_openF hMe375
        have hv375_0 := hcc375 0 _ rfl
        rw [Nat.add_zero, show (k64).sz = 1 from rfl, Nat.mul_one] at hv375_0
        replace hv375_0 := Option.some.inj (hv375_0.symm.trans hx375_0)
        injection hv375_0 with hva_ hvn_ hvc_
        rw [hva_] at ge375_0
        rw [hvc_] at ul375_0
        have HL375_0 := ak (show Kd.V k71 71 _ w0.heap.size _ _ ((rd_T64 l0 a1).f0) from Kd.V_mk ul375_0 ge375_0)
        clear hva_ hvn_ hvc_ ge375_0 ul375_0
        clear hcc375 hce375
        have HR375_0 := ak hi375_0
        have HC375_0 := ak hl375_0
        clear hi375_0 hl375_0
        replace p375 := eq_true p375
        replace q375 := eq_true q375
        go_wp2
        go_meet
        case rel => exact ⟨_, (decide ((((rd_T64 l0 a1).f0).length : Int) ≥ 2)), (by first | rfl | (simp; done) | (simp [bne]; done) | (simp [*]; done)), H', ⟨by have := HJ2.out; first | omega | exact Nat.le_refl _⟩, ⟨by (with_reducible repeat (first | apply Kd.N_alloc | apply Kd.N_drewN | apply Kd.N_drew)); exact HO_0.out⟩, ⟨by repeat (first | (with_reducible first | exact HK.out | apply Kept.alloc | apply Kept.drewN | apply Kept.drew) | exact HK.out)⟩, ⟨by repeat (first | (with_reducible first | exact HB.out | apply bA | apply bN | apply bD) | exact HB.out)⟩⟩
       ·rw [if_neg c15] at H
        exact absurd H (by simp)
      ·rw [if_neg c14] at H
       exact absurd H (by simp)
    case rest =>
     clear HC11
     try clear c1
     try clear p2
     try clear c3
     try clear p3
     try clear q3
     try clear hx3
     try clear qi3
     try clear c4
     try clear c4b0
     try clear c4b1
     try clear c5
     try clear c5b0
     try clear c5b1
     try clear c8
     try clear c12
     try clear c12b0
     try clear c12b1
     try clear c14
     try clear c14b0
     try clear c15
     try clear c15b0
     try clear hx371_0
     try clear hx375_0
     try clear p2
     try clear p3
     try clear p371
     try clear p375
     try clear q3
     try clear q371
     try clear q375
     obtain ⟨kq, x32_10, rfl, HA, HJ10, HO_0, HK, HB⟩ := hcut
     cases kq with
     | zero => exact absurd HA.out (by simp [spec_l6Mend.j1])
     | succ kj10 =>
      have H := HA.out
      clear HA
      simp only [spec_l6Mend.j1] at H
      by_cases c17 : x32_10 = true
      ·subst c17
       rw [if_pos rfl] at H
       obtain rfl := Option.some.inj H
       go_wp2
       go_ret
       exact ⟨_, by first | rfl | (simp only [u8_w_, w64_u8_] <;> rfl) | (simp [errW_none, errW_some] <;> rfl) | (simp [*, errW_none, errW_some] <;> rfl), by (with_reducible repeat (first | apply Kd.N_alloc | apply Kd.N_drewN | apply Kd.N_drew)); exact HO_0.out, by repeat (first | (with_reducible first | exact HB.out | apply bA | apply bN | apply bD) | exact HB.out), by repeat (first | (with_reducible first | exact HK.out | apply Kept.alloc | apply Kept.drewN | apply Kept.drew) | exact HK.out)⟩
      ·replace c17 := Bool.eq_false_iff.mpr c17
       subst c17
       rw [if_neg (show ¬ (false = true) by decide)] at H
       have HC18 := ak H
       clear H
       obtain ⟨Ao19, co19, eo19⟩ := Kd.N_slice HO_0.out
       subst eo19
       go_upto_if 39 with (fail)
       go_cut [5] (fun v5 wc => ∃ (kq : Nat) (x5_17 : Int), v5 = .int .i64 x5_17 ∧ Aside0 (spec_l6Mend.j2 kq l0 a1 x5_17 = some r) ∧ Aside0 (kq ≤ kj10) ∧ Aside0 (Kd.N k64 64 wc w0.heap.size (fun k_ => (P0_ k_ ∨ w.heap.size ≤ k_)) (.slice Ao19 l0.length co19) l0) ∧ Aside0 (Kept w wc (fun k_ => P0_ k_)) ∧ Aside0 (Below w0.heap.size w0 wc))
       case first =>
        have H := HC18.out
        clear HC18
        by_cases c20 : a1 = (wrap64 ((l0.length : Int) - 1))
        ·rw [if_pos c20] at H
         have c20b0 : (a1 == (wrap64 ((l0.length : Int) - 1))) = true := beq_iff_eq.mpr c20
         have c20b1 : (a1 != (wrap64 ((l0.length : Int) - 1))) = false := bne_eq_false_iff_eq.mpr c20
         clear c20
         (first | rw [c20b0] | (simp only [i64_w, i32_w]; rw [c20b0]) | skip)
         have H' := ak H
         clear H
         go_wp2
         go_meet
         case rel => exact ⟨_, (wrap64 (a1 - 1)), (by first | rfl | (simp; done) | (simp [bne]; done) | (simp [*]; done)), H', ⟨by have := HJ2.out; have := HJ10.out; first | omega | exact Nat.le_refl _⟩, ⟨by (with_reducible repeat (first | apply Kd.N_alloc | apply Kd.N_drewN | apply Kd.N_drew)); exact HO_0.out⟩, ⟨by repeat (first | (with_reducible first | exact HK.out | apply Kept.alloc | apply Kept.drewN | apply Kept.drew) | exact HK.out)⟩, ⟨by repeat (first | (with_reducible first | exact HB.out | apply bA | apply bN | apply bD) | exact HB.out)⟩⟩
        ·rw [if_neg c20] at H
         have c20b0 : (a1 == (wrap64 ((l0.length : Int) - 1))) = false := beq_eq_false_iff_ne.mpr c20
         have c20b1 : (a1 != (wrap64 ((l0.length : Int) - 1))) = true := bne_iff_ne.mpr c20
         (first | rw [c20b0] | (simp only [i64_w, i32_w]; rw [c20b0]) | skip)
         have H' := ak H
         clear H
         go_wp2
         go_meet
         case rel => exact ⟨_, (a1), (by first | rfl | (simp; done) | (simp [bne]; done) | (simp [*]; done)), H', ⟨by have := HJ2.out; have := HJ10.out; first | omega | exact Nat.le_refl _⟩, ⟨by (with_reducible repeat (first | apply Kd.N_alloc | apply Kd.N_drewN | apply Kd.N_drew)); exact HO_0.out⟩, ⟨by repeat (first | (with_reducible first | exact HK.out | apply Kept.alloc | apply Kept.drewN | apply Kept.drew) | exact HK.out)⟩, ⟨by repeat (first | (with_reducible first | exact HB.out | apply bA | apply bN | apply bD) | exact HB.out)⟩⟩
       case rest =>
        clear HC18
        try clear c1
        try clear c2
        try clear p2
        try clear c3
        try clear p3
        try clear q3
        try clear hx3
        try clear qi3
        try clear c4
        try clear c4b0
        try clear c4b1
        try clear c5
        try clear c5b0
        try clear c5b1
        try clear p6
        try clear c8
        try clear c12
        try clear c12b0
        try clear c12b1
        try clear c14
        try clear c14b0
        try clear c15
        try clear c15b0
        try clear c17
        try clear c20
        try clear c20b0
        try clear c20b1
        try clear hx371_0
        try clear hx375_0
        try clear p2
        try clear p3
        try clear p371
        try clear p375
        try clear q3
        try clear q371
        try clear q375
        obtain ⟨kq, x5_17, rfl, HA, HJ17, HO_0, HK, HB⟩ := hcut
        cases kq with
        | zero => exact absurd HA.out (by simp [spec_l6Mend.j2])
        | succ kj17 =>
         have H := HA.out
         clear HA
         simp only [spec_l6Mend.j2] at H
         obtain ⟨y376, hy376⟩ : ∃ y_ : List (S71), y_ = (([] : List (S71))) := ⟨_, rfl⟩
         replace H : (if 0 ≤ x5_17 then (if x5_17 < (l0.length : Int) then (if y376.length + ((rd_T64 l0 x5_17).f0).length < 5864062014805 then ((some (y376 ++ ((rd_T64 l0 x5_17).f0) : List (S71))).bind fun y380 => (if 0 ≤ (wrap64 (x5_17 + 1)) then (if (wrap64 (x5_17 + 1)) < (l0.length : Int) then (if y380.length + ((rd_T64 l0 (wrap64 (x5_17 + 1))).f0).length < 5864062014805 then ((some (y380 ++ ((rd_T64 l0 (wrap64 (x5_17 + 1))).f0) : List (S71))).bind fun y384 => (if (y384.length : Int) ≤ 4 then ((some (([] : List (S64)) : List (S64))).bind fun y387 => (if x5_17 ≤ (l0.length : Int) then ((some (l0.take (x5_17 : Int).toNat : List (S64))).bind fun y390 => (if y387.length + y390.length < 5864062014805 then ((some (y387 ++ y390 : List (S64))).bind fun y395 => (if y395.length < 5864062014805 then ((some (y395 ++ [(⟨y384⟩ : S64)] : List (S64))).bind fun y398 => (if 0 ≤ (wrap64 (x5_17 + 2)) then (if (wrap64 (x5_17 + 2)) ≤ (l0.length : Int) then ((some (l0.drop ((wrap64 (x5_17 + 2)) : Int).toNat : List (S64))).bind fun y401 => (if y398.length + y401.length < 5864062014805 then (some (y398 ++ y401)) else (none))) else (none)) else (none))) else (none))) else (none))) else (none))) else (if x5_17 = a1 then ((some (([] : List (S71)) : List (S71))).bind fun y409 => (if 2 ≤ (y384.length : Int) then ((some (y384.take 2 : List (S71))).bind fun y412 => (if y409.length + y412.length < 5864062014805 then ((some (([] : List (S71)) : List (S71))).bind fun y421 => ((some (y384.drop 2 : List (S71))).bind fun y424 => (if y421.length + y424.length < 5864062014805 then (some ((l0.set (x5_17 : Int).toNat (⟨(y409 ++ y412)⟩ : S64)).set ((wrap64 (x5_17 + 1)) : Int).toNat (⟨(y421 ++ y424)⟩ : S64))) else (none)))) else (none))) else (none))) else ((some (([] : List (S71)) : List (S71))).bind fun y433 => (if 0 ≤ (wrap64 ((y384.length : Int) - 2)) then (if (wrap64 ((y384.length : Int) - 2)) ≤ (y384.length : Int) then ((some (y384.take ((wrap64 ((y384.length : Int) - 2)) : Int).toNat : List (S71))).bind fun y436 => (if y433.length + y436.length < 5864062014805 then ((some (([] : List (S71)) : List (S71))).bind fun y445 => ((some (y384.drop ((wrap64 ((y384.length : Int) - 2)) : Int).toNat : List (S71))).bind fun y448 => (if y445.length + y448.length < 5864062014805 then (some ((l0.set (x5_17 : Int).toNat (⟨(y433 ++ y436)⟩ : S64)).set ((wrap64 (x5_17 + 1)) : Int).toNat (⟨(y445 ++ y448)⟩ : S64))) else (none)))) else (none))) else (none)) else (none)))))) else (none)) else (none)) else (none))) else (none)) else (none)) else (none)) = some r := by first | (rw [hy376]; exact H) | exact H
         have Ny376 := ak hy376
         clear hy376
         by_cases c21 : 0 ≤ x5_17
         ·rw [if_pos c21] at H
          have c21b0 : decide (0 ≤ x5_17) = true := decide_eq_true c21
          clear c21
          by_cases c22 : x5_17 < (l0.length : Int)
          ·rw [if_pos c22] at H
           have c22b0 : decide (x5_17 < (l0.length : Int)) = true := decide_eq_true c22
           clear c22
           by_cases c23 : y376.length + ((rd_T64 l0 x5_17).f0).length < 5864062014805
           ·rw [if_pos c23] at H
            have LMc23 := ak c23
            clear c23
            obtain ⟨y380, hy380⟩ : ∃ y_ : List (S71), y_ = (y376 ++ ((rd_T64 l0 x5_17).f0)) := ⟨_, rfl⟩
            replace H : (if 0 ≤ (wrap64 (x5_17 + 1)) then (if (wrap64 (x5_17 + 1)) < (l0.length : Int) then (if y380.length + ((rd_T64 l0 (wrap64 (x5_17 + 1))).f0).length < 5864062014805 then ((some (y380 ++ ((rd_T64 l0 (wrap64 (x5_17 + 1))).f0) : List (S71))).bind fun y384 => (if (y384.length : Int) ≤ 4 then ((some (([] : List (S64)) : List (S64))).bind fun y387 => (if x5_17 ≤ (l0.length : Int) then ((some (l0.take (x5_17 : Int).toNat : List (S64))).bind fun y390 => (if y387.length + y390.length < 5864062014805 then ((some (y387 ++ y390 : List (S64))).bind fun y395 => (if y395.length < 5864062014805 then ((some (y395 ++ [(⟨y384⟩ : S64)] : List (S64))).bind fun y398 => (if 0 ≤ (wrap64 (x5_17 + 2)) then (if (wrap64 (x5_17 + 2)) ≤ (l0.length : Int) then ((some (l0.drop ((wrap64 (x5_17 + 2)) : Int).toNat : List (S64))).bind fun y401 => (if y398.length + y401.length < 5864062014805 then (some (y398 ++ y401)) else (none))) else (none)) else (none))) else (none))) else (none))) else (none))) else (if x5_17 = a1 then ((some (([] : List (S71)) : List (S71))).bind fun y409 => (if 2 ≤ (y384.length : Int) then ((some (y384.take 2 : List (S71))).bind fun y412 => (if y409.length + y412.length < 5864062014805 then ((some (([] : List (S71)) : List (S71))).bind fun y421 => ((some (y384.drop 2 : List (S71))).bind fun y424 => (if y421.length + y424.length < 5864062014805 then (some ((l0.set (x5_17 : Int).toNat (⟨(y409 ++ y412)⟩ : S64)).set ((wrap64 (x5_17 + 1)) : Int).toNat (⟨(y421 ++ y424)⟩ : S64))) else (none)))) else (none))) else (none))) else ((some (([] : List (S71)) : List (S71))).bind fun y433 => (if 0 ≤ (wrap64 ((y384.length : Int) - 2)) then (if (wrap64 ((y384.length : Int) - 2)) ≤ (y384.length : Int) then ((some (y384.take ((wrap64 ((y384.length : Int) - 2)) : Int).toNat : List (S71))).bind fun y436 => (if y433.length + y436.length < 5864062014805 then ((some (([] : List (S71)) : List (S71))).bind fun y445 => ((some (y384.drop ((wrap64 ((y384.length : Int) - 2)) : Int).toNat : List (S71))).bind fun y448 => (if y445.length + y448.length < 5864062014805 then (some ((l0.set (x5_17 : Int).toNat (⟨(y433 ++ y436)⟩ : S64)).set ((wrap64 (x5_17 + 1)) : Int).toNat (⟨(y445 ++ y448)⟩ : S64))) else (none)))) else (none))) else (none)) else (none)))))) else (none)) else (none)) else (none)) = some r := by first | (rw [hy380]; exact H) | exact H
            have Ny380 := ak hy380
            clear hy380
            obtain ⟨ji24, hji24⟩ : ∃ j_ : Int, (wrap64 (x5_17 + 1)) = j_ := ⟨_, rfl⟩
            replace H : (if 0 ≤ (ji24) then (if (ji24) < (l0.length : Int) then (if y380.length + ((rd_T64 l0 (ji24)).f0).length < 5864062014805 then ((some (y380 ++ ((rd_T64 l0 (ji24)).f0) : List (S71))).bind fun y384 => (if (y384.length : Int) ≤ 4 then ((some (([] : List (S64)) : List (S64))).bind fun y387 => (if x5_17 ≤ (l0.length : Int) then ((some (l0.take (x5_17 : Int).toNat : List (S64))).bind fun y390 => (if y387.length + y390.length < 5864062014805 then ((some (y387 ++ y390 : List (S64))).bind fun y395 => (if y395.length < 5864062014805 then ((some (y395 ++ [(⟨y384⟩ : S64)] : List (S64))).bind fun y398 => (if 0 ≤ (wrap64 (x5_17 + 2)) then (if (wrap64 (x5_17 + 2)) ≤ (l0.length : Int) then ((some (l0.drop ((wrap64 (x5_17 + 2)) : Int).toNat : List (S64))).bind fun y401 => (if y398.length + y401.length < 5864062014805 then (some (y398 ++ y401)) else (none))) else (none)) else (none))) else (none))) else (none))) else (none))) else (if x5_17 = a1 then ((some (([] : List (S71)) : List (S71))).bind fun y409 => (if 2 ≤ (y384.length : Int) then ((some (y384.take 2 : List (S71))).bind fun y412 => (if y409.length + y412.length < 5864062014805 then ((some (([] : List (S71)) : List (S71))).bind fun y421 => ((some (y384.drop 2 : List (S71))).bind fun y424 => (if y421.length + y424.length < 5864062014805 then (some ((l0.set (x5_17 : Int).toNat (⟨(y409 ++ y412)⟩ : S64)).set ((ji24) : Int).toNat (⟨(y421 ++ y424)⟩ : S64))) else (none)))) else (none))) else (none))) else ((some (([] : List (S71)) : List (S71))).bind fun y433 => (if 0 ≤ (wrap64 ((y384.length : Int) - 2)) then (if (wrap64 ((y384.length : Int) - 2)) ≤ (y384.length : Int) then ((some (y384.take ((wrap64 ((y384.length : Int) - 2)) : Int).toNat : List (S71))).bind fun y436 => (if y433.length + y436.length < 5864062014805 then ((some (([] : List (S71)) : List (S71))).bind fun y445 => ((some (y384.drop ((wrap64 ((y384.length : Int) - 2)) : Int).toNat : List (S71))).bind fun y448 => (if y445.length + y448.length < 5864062014805 then (some ((l0.set (x5_17 : Int).toNat (⟨(y433 ++ y436)⟩ : S64)).set ((ji24) : Int).toNat (⟨(y445 ++ y448)⟩ : S64))) else (none)))) else (none))) else (none)) else (none)))))) else (none)) else (none)) else (none)) = some r := by first | (rw [hji24] at H; exact H) | (simp only [hji24] at H ⊢; exact H)
            have hji24w : (IntKind.i64.wrap (x5_17 + 1)) = ji24 := (i64_w _).trans hji24
            by_cases c25 : 0 ≤ (ji24)
            ·rw [if_pos c25] at H
             have c25b0 : decide (0 ≤ (ji24)) = true := decide_eq_true c25
             clear c25
             by_cases c26 : (ji24) < (l0.length : Int)
             ·rw [if_pos c26] at H
              have c26b0 : decide ((ji24) < (l0.length : Int)) = true := decide_eq_true c26
              clear c26
              by_cases c27 : y380.length + ((rd_T64 l0 (ji24)).f0).length < 5864062014805
              ·rw [if_pos c27] at H
               have LMc27 := ak c27
               clear c27
               obtain ⟨y384, hy384⟩ : ∃ y_ : List (S71), y_ = (y380 ++ ((rd_T64 l0 (ji24)).f0)) := ⟨_, rfl⟩
               replace H : (if (y384.length : Int) ≤ 4 then ((some (([] : List (S64)) : List (S64))).bind fun y387 => (if x5_17 ≤ (l0.length : Int) then ((some (l0.take (x5_17 : Int).toNat : List (S64))).bind fun y390 => (if y387.length + y390.length < 5864062014805 then ((some (y387 ++ y390 : List (S64))).bind fun y395 => (if y395.length < 5864062014805 then ((some (y395 ++ [(⟨y384⟩ : S64)] : List (S64))).bind fun y398 => (if 0 ≤ (wrap64 (x5_17 + 2)) then (if (wrap64 (x5_17 + 2)) ≤ (l0.length : Int) then ((some (l0.drop ((wrap64 (x5_17 + 2)) : Int).toNat : List (S64))).bind fun y401 => (if y398.length + y401.length < 5864062014805 then (some (y398 ++ y401)) else (none))) else (none)) else (none))) else (none))) else (none))) else (none))) else (if x5_17 = a1 then ((some (([] : List (S71)) : List (S71))).bind fun y409 => (if 2 ≤ (y384.length : Int) then ((some (y384.take 2 : List (S71))).bind fun y412 => (if y409.length + y412.length < 5864062014805 then ((some (([] : List (S71)) : List (S71))).bind fun y421 => ((some (y384.drop 2 : List (S71))).bind fun y424 => (if y421.length + y424.length < 5864062014805 then (some ((l0.set (x5_17 : Int).toNat (⟨(y409 ++ y412)⟩ : S64)).set ((ji24) : Int).toNat (⟨(y421 ++ y424)⟩ : S64))) else (none)))) else (none))) else (none))) else ((some (([] : List (S71)) : List (S71))).bind fun y433 => (if 0 ≤ (wrap64 ((y384.length : Int) - 2)) then (if (wrap64 ((y384.length : Int) - 2)) ≤ (y384.length : Int) then ((some (y384.take ((wrap64 ((y384.length : Int) - 2)) : Int).toNat : List (S71))).bind fun y436 => (if y433.length + y436.length < 5864062014805 then ((some (([] : List (S71)) : List (S71))).bind fun y445 => ((some (y384.drop ((wrap64 ((y384.length : Int) - 2)) : Int).toNat : List (S71))).bind fun y448 => (if y445.length + y448.length < 5864062014805 then (some ((l0.set (x5_17 : Int).toNat (⟨(y433 ++ y436)⟩ : S64)).set ((ji24) : Int).toNat (⟨(y445 ++ y448)⟩ : S64))) else (none)))) else (none))) else (none)) else (none))))) = some r := by first | (rw [hy384]; exact H) | exact H
               have Ny384 := ak hy384
               clear hy384
               by_cases c28 : (y384.length : Int) ≤ 4
               ·rw [if_pos c28] at H
                have c28b0 : decide ((y384.length : Int) ≤ 4) = true := decide_eq_true c28
                have c28b1 : decide (y384.length ≤ 4) = true := decide_eq_true (by omega)
                clear c28
                obtain ⟨y387, hy387⟩ : ∃ y_ : List (S64), y_ = (([] : List (S64))) := ⟨_, rfl⟩
                replace H : (if x5_17 ≤ (l0.length : Int) then ((some (l0.take (x5_17 : Int).toNat : List (S64))).bind fun y390 => (if y387.length + y390.length < 5864062014805 then ((some (y387 ++ y390 : List (S64))).bind fun y395 => (if y395.length < 5864062014805 then ((some (y395 ++ [(⟨y384⟩ : S64)] : List (S64))).bind fun y398 => (if 0 ≤ (wrap64 (x5_17 + 2)) then (if (wrap64 (x5_17 + 2)) ≤ (l0.length : Int) then ((some (l0.drop ((wrap64 (x5_17 + 2)) : Int).toNat : List (S64))).bind fun y401 => (if y398.length + y401.length < 5864062014805 then (some (y398 ++ y401)) else (none))) else (none)) else (none))) else (none))) else (none))) else (none)) = some r := by first | (rw [hy387]; exact H) | exact H
                have Ny387 := ak hy387
                clear hy387
                have c29b0 := eq_true (of_decide_eq_true (by assumption) : 0 ≤ x5_17)
                by_cases c30 : x5_17 ≤ (l0.length : Int)
                ·rw [if_pos c30] at H
                 have c30b0 := eq_true c30
                 have c30b1 : decide (x5_17 ≤ (l0.length : Int)) = true := decide_eq_true c30
                 clear c30
                 obtain ⟨y390, hy390⟩ : ∃ y_ : List (S64), y_ = (l0.take (x5_17 : Int).toNat) := ⟨_, rfl⟩
                 replace H : (if y387.length + y390.length < 5864062014805 then ((some (y387 ++ y390 : List (S64))).bind fun y395 => (if y395.length < 5864062014805 then ((some (y395 ++ [(⟨y384⟩ : S64)] : List (S64))).bind fun y398 => (if 0 ≤ (wrap64 (x5_17 + 2)) then (if (wrap64 (x5_17 + 2)) ≤ (l0.length : Int) then ((some (l0.drop ((wrap64 (x5_17 + 2)) : Int).toNat : List (S64))).bind fun y401 => (if y398.length + y401.length < 5864062014805 then (some (y398 ++ y401)) else (none))) else (none)) else (none))) else (none))) else (none)) = some r := by first | (rw [hy390]; exact H) | exact H
                 have Ny390 := ak hy390
                 clear hy390
                 by_cases c31 : y387.length + y390.length < 5864062014805
                 ·rw [if_pos c31] at H
                  have LMc31 := ak c31
                  clear c31
                  obtain ⟨y395, hy395⟩ : ∃ y_ : List (S64), y_ = (y387 ++ y390) := ⟨_, rfl⟩
                  replace H : (if y395.length < 5864062014805 then ((some (y395 ++ [(⟨y384⟩ : S64)] : List (S64))).bind fun y398 => (if 0 ≤ (wrap64 (x5_17 + 2)) then (if (wrap64 (x5_17 + 2)) ≤ (l0.length : Int) then ((some (l0.drop ((wrap64 (x5_17 + 2)) : Int).toNat : List (S64))).bind fun y401 => (if y398.length + y401.length < 5864062014805 then (some (y398 ++ y401)) else (none))) else (none)) else (none))) else (none)) = some r := by first | (rw [hy395]; exact H) | exact H
                  have Ny395 := ak hy395
                  clear hy395
                  by_cases c32 : y395.length < 5864062014805
                  ·rw [if_pos c32] at H
                   have LMc32 := ak c32
                   clear c32
                   obtain ⟨y398, hy398⟩ : ∃ y_ : List (S64), y_ = (y395 ++ [(⟨y384⟩ : S64)]) := ⟨_, rfl⟩
                   replace H : (if 0 ≤ (wrap64 (x5_17 + 2)) then (if (wrap64 (x5_17 + 2)) ≤ (l0.length : Int) then ((some (l0.drop ((wrap64 (x5_17 + 2)) : Int).toNat : List (S64))).bind fun y401 => (if y398.length + y401.length < 5864062014805 then (some (y398 ++ y401)) else (none))) else (none)) else (none)) = some r := by first | (rw [hy398]; exact H) | exact H
                   have Ny398 := ak hy398
                   clear hy398
                   obtain ⟨ji33, hji33⟩ : ∃ j_ : Int, (wrap64 (x5_17 + 2)) = j_ := ⟨_, rfl⟩
                   replace H : (if 0 ≤ (ji33) then (if (ji33) ≤ (l0.length : Int) then ((some (l0.drop ((ji33) : Int).toNat : List (S64))).bind fun y401 => (if y398.length + y401.length < 5864062014805 then (some (y398 ++ y401)) else (none))) else (none)) else (none)) = some r := by first | (rw [hji33] at H; exact H) | (simp only [hji33] at H ⊢; exact H)
                   have hji33w : (IntKind.i64.wrap (x5_17 + 2)) = ji33 := (i64_w _).trans hji33
                   by_cases c34 : 0 ≤ (ji33)
                   ·rw [if_pos c34] at H
                    have c34b0 := eq_true c34
                    have c34b1 : decide (0 ≤ (ji33)) = true := decide_eq_true c34
                    clear c34
                    by_cases c35 : (ji33) ≤ (l0.length : Int)
                    ·rw [if_pos c35] at H
                     have c35b0 := eq_true c35
                     have c35b1 : decide ((ji33) ≤ (l0.length : Int)) = true := decide_eq_true c35
                     clear c35
                     obtain ⟨y401, hy401⟩ : ∃ y_ : List (S64), y_ = (l0.drop ((ji33) : Int).toNat) := ⟨_, rfl⟩
                     replace H : (if y398.length + y401.length < 5864062014805 then (some (y398 ++ y401)) else (none)) = some r := by first | (rw [hy401]; exact H) | exact H
                     have Ny401 := ak hy401
                     clear hy401
                     by_cases c36 : y398.length + y401.length < 5864062014805
                     ·rw [if_pos c36] at H
                      have LMc36 := ak c36
                      clear c36
                      obtain ⟨y406, hy406⟩ : ∃ y_ : List (S64), y_ = (y398 ++ y401) := ⟨_, rfl⟩
                      replace H : (some y406) = some r := by first | (rw [hy406]; exact H) | exact H
                      have Ny406 := ak hy406
                      clear hy406
                      obtain rfl := Option.some.inj H
                      try go_wp2
                      replace HO_0 := ak (Kd.N_drew HO_0.out)
                      replace HK := ak (Kept.drew HK.out)
                      replace HB := ak (below_drew1 HB.out)
                      have p379 : 0 ≤ (x5_17 : Int) := of_decide_eq_true (by assumption)
                      have q379 : x5_17 < (l0.length : Int) := of_decide_eq_true (by assumption)
                      obtain ⟨ad379, A379_0, c379_0, e379, hx379_0, hl379_0, hi379_0⟩ := at_T64 (Kd.N_reads' HO_0.out).2.2 x5_17 p379 q379
                      cases e379
                      obtain ⟨ce379, hce379, hMe379, hcc379⟩ := Kd.N_get HO_0.out z64 x5_17 p379 (by first | exact q379 | exact of_decide_eq_true (by assumption) | (have e_ := (Kd.N_reads' HO_0.out).1; omega))
                      obtain ⟨ua379_0, uc379_0, rfl, ul379_0, ge379_0⟩ := k64_openF hMe379
                      have hv379_0 := hcc379 0 _ rfl
                      rw [Nat.add_zero, show (k64).sz = 1 from rfl, Nat.mul_one] at hv379_0
                      replace hv379_0 := Option.some.inj (hv379_0.symm.trans hx379_0)
                      injection hv379_0 with hva_ hvn_ hvc_
                      rw [hva_] at ge379_0
                      rw [hvc_] at ul379_0
                      have HL379_0 := ak (show Kd.V k71 71 _ w0.heap.size _ _ ((rd_T64 l0 x5_17).f0) from Kd.V_mk ul379_0 ge379_0)
                      clear hva_ hvn_ hvc_ ge379_0 ul379_0
                      clear hcc379 hce379
                      have HR379_0 := ak hi379_0
                      have HC379_0 := ak hl379_0
                      clear hi379_0 hl379_0
                      replace p379 := eq_true p379
                      replace q379 := eq_true q379
                      have p383 : 0 ≤ ((ji24) : Int) := of_decide_eq_true (by assumption)
                      have q383 : (ji24) < (l0.length : Int) := of_decide_eq_true (by assumption)
                      obtain ⟨ad383, A383_0, c383_0, e383, hx383_0, hl383_0, hi383_0⟩ := at_T64 (Kd.N_reads' HO_0.out).2.2 (ji24) p383 q383
                      obtain rfl : ad379 = ad383 := (by injection e383)
                      obtain ⟨ce383, hce383, hMe383, hcc383⟩ := Kd.N_get HO_0.out z64 (ji24) p383 (by first | exact q383 | exact of_decide_eq_true (by assumption) | (have e_ := (Kd.N_reads' HO_0.out).1; omega))
                      obtain ⟨ua383_0, uc383_0, rfl, ul383_0, ge383_0⟩ := k64_openF hMe383
                      have hv383_0 := hcc383 0 _ rfl
                      rw [Nat.add_zero, show (k64).sz = 1 from rfl, Nat.mul_one] at hv383_0
                      replace hv383_0 := Option.some.inj (hv383_0.symm.trans hx383_0)
                      injection hv383_0 with hva_ hvn_ hvc_
                      rw [hva_] at ge383_0
                      rw [hvc_] at ul383_0
                      have HL383_0 := ak (show Kd.V k71 71 _ w0.heap.size _ _ ((rd_T64 l0 (ji24)).f0) from Kd.V_mk ul383_0 ge383_0)
                      clear hva_ hvn_ hvc_ ge383_0 ul383_0
                      clear hcc383 hce383
                      have HR383_0 := ak hi383_0
                      have HC383_0 := ak hl383_0
                      clear hi383_0 hl383_0
                      replace p383 := eq_true p383
                      replace q383 := eq_true q383
                      refine start_ (n := 15) (S := fun w' => w'.cell? (ad379.add (x5_17).toNat) = some (.slice A379_0 ((rd_T64 l0 x5_17).f0).length c379_0) ∧ w'.cell? (ad379.add ((ji24)).toNat) = some (.slice A383_0 ((rd_T64 l0 (ji24)).f0).length c383_0)) (ds := []) #[U,U,U,U,U,U,U,U,U,U,U,U,U,U,U] (by kernel_rfl) rfl rfl ⟨hx379_0, hx383_0⟩ (fun hHeld => ?_); refine with_tabW spec_l6Mend.tab8 spec_l6Mend.bits8 (fun HT_ HW_ => ?_)
                      generalize wc.drew = w37 at HO_0 HK HB HL379_0 HL383_0 HR379_0 HR383_0 hx379_0 hx383_0 hHeld ⊢
                      refine pure_ (i := 1) (N := some 43) (v := ?_) (a' := ?_) #[U,T,U,U,U,U,U,U,U,U,U,U,U,U,U] rfl rfl (any_of HT_.out (by kernel_rfl)) (fun _ _ _ h => h) (Or.inl ⟨by rfl, ?_⟩) ?_ ?_
                      rotate_left
                      ·intro w'
                       go_simp
                       with_reducible rfl
                      rotate_left
                      ·simp only [Act.put, lT, lZ, lS, i64_w, i32_w]
                       rfl
                      refine pure_ (i := 2) (N := some 44) (v := ?_) (a' := ?_) #[U,T,T,U,U,U,U,U,U,U,U,U,U,U,U] rfl rfl (any_of HT_.out (by kernel_rfl)) (fun _ _ _ h => h) (Or.inl ⟨by rfl, ?_⟩) ?_ ?_
                      rotate_left
                      ·intro w'
                       go_simp
                       with_reducible rfl
                      rotate_left
                      ·simp only [Act.put, lT, lZ, lS, i64_w, i32_w]
                       rfl
                      refine pure_ (i := 3) (N := some 45) (v := ?_) (a' := ?_) #[U,T,T,T,U,U,U,U,U,U,U,U,U,U,U] rfl rfl (any_of HT_.out (by kernel_rfl)) (fun _ _ _ h => h) (Or.inl ⟨by rfl, ?_⟩) ?_ ?_
                      rotate_left
                      ·intro w'
                       go_simp
                       with_reducible rfl
                      rotate_left
                      ·simp only [Act.put, lT, lZ, lS, i64_w, i32_w]
                       rfl
                      refine pure_ (i := 4) (N := some 46) (v := ?_) (a' := ?_) #[U,T,T,T,T,U,U,U,U,U,U,U,U,U,U] rfl rfl (any_of HT_.out (by kernel_rfl)) (fun _ _ _ h => h) (Or.inl ⟨by rfl, ?_⟩) ?_ ?_
                      rotate_left
                      ·intro w'
                       go_simp
                       with_reducible rfl
                      rotate_left
                      ·simp only [Act.put, lT, lZ, lS, i64_w, i32_w]
                       rfl
                      refine pure_ (i := 7) (N := some 49) (v := ?_) (a' := ?_) #[U,T,T,T,T,U,U,T,U,U,U,U,U,U,U] rfl rfl (any_of HT_.out (by kernel_rfl)) (fun _ _ _ h => h) (Or.inl ⟨by rfl, ?_⟩) ?_ ?_
                      rotate_left
                      ·intro w'
                       go_simp
                       with_reducible rfl
                      rotate_left
                      ·simp only [Act.put, lT, lZ, lS, i64_w, i32_w]
                       rfl
                      refine pure_ (i := 8) (N := some 50) (v := ?_) (a' := ?_) #[U,T,T,T,T,U,U,T,T,U,U,U,U,U,U] rfl rfl (any_of HT_.out (by kernel_rfl)) (fun _ _ _ h => h) (Or.inl ⟨by rfl, ?_⟩) ?_ ?_
                      rotate_left
                      ·intro w'
                       go_simp
                       with_reducible rfl
                      rotate_left
                      ·simp only [Act.put, lT, lZ, lS, i64_w, i32_w]
                       rfl
                      refine pure_ (i := 9) (N := some 51) (v := ?_) (a' := ?_) #[U,T,T,T,T,U,U,T,T,T,U,U,U,U,U] rfl rfl (any_of HT_.out (by kernel_rfl)) (fun _ _ _ h => h) (Or.inl ⟨by rfl, ?_⟩) ?_ ?_
                      rotate_left
                      ·intro w'
                       go_simp
                       with_reducible rfl
                      rotate_left
                      ·simp only [Act.put, lT, lZ, lS, i64_w, i32_w]
                       rfl
                      refine pure_ (i := 10) (N := some 52) (v := ?_) (a' := ?_) #[U,T,T,T,T,U,U,T,T,T,T,U,U,U,U] rfl rfl (any_of HT_.out (by kernel_rfl)) (fun _ _ _ h => h) (Or.inl ⟨by rfl, ?_⟩) ?_ ?_
                      rotate_left
                      ·intro w'
                       go_simp
                       with_reducible rfl
                      rotate_left
                      ·simp only [Act.put, lT, lZ, lS, i64_w, i32_w]
                       rfl
                      refine pure_ (i := 11) (N := some 53) (v := ?_) (a' := ?_) #[U,T,T,T,T,U,U,T,T,T,T,T,U,U,U] rfl rfl (any_of HT_.out (by kernel_rfl)) (fun _ _ _ h => h) (Or.inl ⟨by rfl, ?_⟩) ?_ ?_
                      rotate_left
                      ·intro w'
                       go_simp
                       with_reducible rfl
                      rotate_left
                      ·simp only [Act.put, lT, lZ, lS, i64_w, i32_w]
                       rfl
                      refine take_ (i := 5) (N := some 47) (v := ?_) (a' := ?_) #[U,T,T,T,T,T,U,T,T,T,T,T,U,U,U] rfl rfl (take_ofW HT_.out HW_.out (by kernel_rfl)) (fun _ _ _ h => h) (Or.inl ⟨by rfl, ?_⟩) hHeld ?_ ?_
                      rotate_left
                      ·rintro w' ⟨s0, s1⟩
                       go_simp
                       with_reducible rfl
                      rotate_left
                      ·simp only [Act.put, lT, lZ, lS, i64_w, i32_w]
                       rfl
                      refine take_ (i := 12) (N := some 54) (v := ?_) (a' := ?_) #[U,T,T,T,T,T,U,T,T,T,T,T,T,U,U] rfl rfl (take_ofW HT_.out HW_.out (by kernel_rfl)) (fun _ _ _ h => h) (Or.inl ⟨by rfl, ?_⟩) hHeld ?_ ?_
                      rotate_left
                      ·rintro w' ⟨s0, s1⟩
                       go_simp
                       with_reducible rfl
                      rotate_left
                      ·simp only [Act.put, lT, lZ, lS, i64_w, i32_w]
                       rfl
                      refine one_ (i := 0) (N := some 42) #[T,T,T,T,T,T,U,T,T,T,T,T,T,U,U] rfl rfl (one_of HT_.out (by kernel_rfl)) (by decide) (fun K hK => ?_)
                      refine Kd.R_lit_step k71 _ 71 ?hg (N := 42) ?hd (xs := ([] : List (S71))) (inner := []) (ok := fun _ => True) (okp := fun _ => True) ?hr ?hp (fun _ hk => hk) trivial (Below.refl _ _) (Nat.le_refl _) (by simp) ?_; (case hd => rfl); (case hg => rfl); (case hr => first | (go_simp; done) | (go_simp; rfl)); (case hp => exact (Reps.none _ _))
                      intro v377 w38 ho39 hb hg_ hnew_
                      have HS0_ := (hb.cell (World.block_lt_of_cell? _ _ (hHeld.1))).trans (hHeld.1)
                      have HS1_ := (hb.cell (World.block_lt_of_cell? _ _ (hHeld.2))).trans (hHeld.2)
                      clear hg_ hnew_
                      (first | rw [← Ny376.out] at ho39 | (simp only [Int.reduceToNat] at ho39; rw [← Ny376.out] at ho39))
                      replace HO_0 := ak (Kd.N_elder' (by (with_reducible repeat (first | apply Kd.N_alloc | apply Kd.N_drewN | apply Kd.N_drew)); exact HO_0.out) (Kd.R_base ho39) hb)
                      replace HL379_0 := ak (Kd.V_elder' (by (with_reducible repeat (first | apply Kd.V_alloc | apply Kd.V_drewN | apply Kd.V_drew)); exact HL379_0.out) (Kd.R_base ho39) hb)
                      replace HL383_0 := ak (Kd.V_elder' (by (with_reducible repeat (first | apply Kd.V_alloc | apply Kd.V_drewN | apply Kd.V_drew)); exact HL383_0.out) (Kd.R_base ho39) hb)
                      have HO378 := ak (Kd.R_lower (Kd.R_newM (M := fun k_ => (P0_ k_ ∨ w.heap.size ≤ k_)) ho39 (by first | exact HK.out.1 | exact (show Kept w _ (fun k_ => P0_ k_) from by repeat (first | (with_reducible first | exact HK.out | apply Kept.alloc | apply Kept.drewN | apply Kept.drew) | exact HK.out)).1) (fun k_ h_ => .inr h_)) (below_size (by exact hopb HB.out)))
                      replace HR379_0 := ak (Kd.C_below (by repeat (first | (with_reducible exact HR379_0.out) | (with_reducible refine Kd.C_alloc ?_ _) | (with_reducible refine Kd.C_drewN ?_ _) | (with_reducible refine Kd.C_drew ?_) | exact HR379_0.out)) hb)
                      replace HR383_0 := ak (Kd.C_below (by repeat (first | (with_reducible exact HR383_0.out) | (with_reducible refine Kd.C_alloc ?_ _) | (with_reducible refine Kd.C_drewN ?_ _) | (with_reducible refine Kd.C_drew ?_) | exact HR383_0.out)) hb)
                      replace HK := ak (Kept.below (S := (fun k_ => P0_ k_)) (by repeat (first | (with_reducible first | exact HK.out | apply Kept.alloc | apply Kept.drewN | apply Kept.drew) | exact HK.out)) hb)
                      replace HB := ak (below_step (by exact hopb HB.out) hb)
                      clear hb ho39
                      refine hK.out _ _ ⟨HS0_, HS1_⟩ (fun hHeld => ?_)
                      clear hK K
                      refine norm_ (a' := ?_) ?_ ?_
                      rotate_left
                      ·show Act.put _ (some 42) _ = _
                       simp only [Act.put, lT, lZ, lS, i64_w, i32_w]
                       rfl
                      refine one_ (i := 6) (N := some 48) #[T,T,T,T,T,T,T,T,T,T,T,T,T,U,U] rfl rfl (one_of HT_.out (by kernel_rfl)) (by decide) (fun K hK => ?_)
                      refine Kd.R_append_rows_step k71 (w0 := w0) w0.heap.size (by rfl) (.tmp 42) (.tmp 47) 32 71 (.agg #[(.string ⟨#[]⟩), (.int .i64 0)]) 24 rfl Try.underlying32 info71 rfl (by decide) (by omega) v377 y376 ((rd_T64 l0 x5_17).f0) _ _ _ (fun k_ => (P0_ k_ ∨ w.heap.size ≤ k_)) (fun _ => False) rfl rfl ?aO ?aR (fun _ _ h => h) (fun _ h => h.elim) ?aF ?aB ?aS ?aL ?_
                      (case aR => repeat (first | exact (by repeat (first | (with_reducible exact HR379_0.out) | (with_reducible refine Kd.C_alloc ?_ _) | (with_reducible refine Kd.C_drewN ?_ _) | (with_reducible refine Kd.C_drew ?_) | exact HR379_0.out)) | (with_reducible refine Kd.C_alloc ?_ _) | (with_reducible refine Kd.C_drewN ?_ _) | (with_reducible refine Kd.C_drew ?_)))
                      (case aB => exact (by exact hopb HB.out))
                      (case aF => exact (fun k_ hk => (.inr (Nat.le_trans (by first | exact HK.out.1 | exact (show Kept w _ (fun k_ => P0_ k_) from by repeat (first | (with_reducible first | exact HK.out | apply Kept.alloc | apply Kept.drewN | apply Kept.drew) | exact HK.out)).1) hk))))
                      (case aO => exact (by (with_reducible repeat (first | apply Kd.R_alloc | apply Kd.R_drewN | apply Kd.R_drew)); exact Kd.R_mono HO378.out (fun _ hk => hk.1)))
                      (case aS => exact (below_size (by exact hopb HB.out)))
                      (case aL => have := LMc23.out; omega)
                      intro v381 w40 ho hb hg hat
                      have HS0_ := cell_grown hg (hHeld.1) (by first | (rw [add_block]; exact (HO_0.out.1 _ rfl).2) | (show some (Addr.add _ _).block ≠ _; rw [add_block]; exact (HO_0.out.1 _ rfl).2) | exact (HO_0.out.1 _ rfl).2)
                      have HS1_ := cell_grown hg (hHeld.2) (by first | (rw [add_block]; exact (HO_0.out.1 _ rfl).2) | (show some (Addr.add _ _).block ≠ _; rw [add_block]; exact (HO_0.out.1 _ rfl).2) | exact (HO_0.out.1 _ rfl).2)
                      rw [← Ny380.out] at ho
                      replace HO_0 := ak (Kd.N_afterv (ok := (fun k_ => (P0_ k_ ∨ w.heap.size ≤ k_))) (by (with_reducible repeat (first | apply Kd.N_alloc | apply Kd.N_drewN | apply Kd.N_drew)); exact HO_0.out) hg hat)
                      replace HL379_0 := ak (Kd.V_afterv (ok := (fun k_ => (P0_ k_ ∨ w.heap.size ≤ k_) ∧ some k_ ≠ (.slice (some ad379) l0.length co19 : Value).ownBlock)) (by (with_reducible repeat (first | apply Kd.V_alloc | apply Kd.V_drewN | apply Kd.V_drew)); exact HL379_0.out) hg hat)
                      replace HL383_0 := ak (Kd.V_afterv (ok := (fun k_ => (P0_ k_ ∨ w.heap.size ≤ k_) ∧ some k_ ≠ (.slice (some ad379) l0.length co19 : Value).ownBlock)) (by (with_reducible repeat (first | apply Kd.V_alloc | apply Kd.V_drewN | apply Kd.V_drew)); exact HL383_0.out) hg hat)
                      replace HB := ak (hb)
                      replace HK := ak (Kept.of_grown (S := (fun k_ => P0_ k_)) hg (by repeat (first | (with_reducible first | exact HK.out | apply Kept.alloc | apply Kept.drewN | apply Kept.drew) | exact HK.out)) (fun k_ e_ => (HO378.out.1 k_ e_).1))
                      have HO382 := ak (ho)
                      clear HO378
                      clear ho hb hg hat
                      refine hK.out _ _ ⟨HS0_, HS1_⟩ (fun hHeld => ?_)
                      clear hK K
                      refine norm_ (a' := ?_) ?_ ?_
                      rotate_left
                      ·show Act.put _ (some 48) _ = _
                       simp only [Act.put, lT, lZ, lS, i64_w, i32_w]
                       rfl
                      refine one_ (i := 13) (N := some 55) #[T,T,T,T,T,T,T,T,T,T,T,T,T,T,U] rfl rfl (one_of HT_.out (by kernel_rfl)) (by decide) (fun K hK => ?_)
                      refine Kd.R_append_rows_step k71 (w0 := w0) w0.heap.size (by rfl) (.tmp 48) (.tmp 54) 32 71 (.agg #[(.string ⟨#[]⟩), (.int .i64 0)]) 24 rfl Try.underlying32 info71 rfl (by decide) (by omega) v381 y380 ((rd_T64 l0 (ji24)).f0) _ _ _ (fun k_ => (P0_ k_ ∨ w.heap.size ≤ k_)) (fun _ => False) rfl rfl ?aO ?aR (fun _ _ h => h) (fun _ h => h.elim) ?aF ?aB ?aS ?aL ?_
                      (case aR => repeat (first | exact ((Kd.V_reads' (by (with_reducible repeat (first | apply Kd.V_alloc | apply Kd.V_drewN | apply Kd.V_drew)); exact HL383_0.out)).2.2) | (with_reducible refine Kd.C_alloc ?_ _) | (with_reducible refine Kd.C_drewN ?_ _) | (with_reducible refine Kd.C_drew ?_)))
                      (case aB => exact (by exact hopb HB.out))
                      (case aF => exact (fun k_ hk => (.inr (Nat.le_trans (by first | exact HK.out.1 | exact (show Kept w _ (fun k_ => P0_ k_) from by repeat (first | (with_reducible first | exact HK.out | apply Kept.alloc | apply Kept.drewN | apply Kept.drew) | exact HK.out)).1) hk))))
                      (case aO => exact (by (with_reducible repeat (first | apply Kd.R_alloc | apply Kd.R_drewN | apply Kd.R_drew)); exact HO382.out))
                      (case aS => exact (below_size (by exact hopb HB.out)))
                      (case aL => have := LMc27.out; omega)
                      intro v385 w41 ho hb hg hat
                      have HS0_ := cell_grown hg (hHeld.1) (by first | (rw [add_block]; exact (HO_0.out.1 _ rfl).2) | (show some (Addr.add _ _).block ≠ _; rw [add_block]; exact (HO_0.out.1 _ rfl).2) | exact (HO_0.out.1 _ rfl).2)
                      have HS1_ := cell_grown hg (hHeld.2) (by first | (rw [add_block]; exact (HO_0.out.1 _ rfl).2) | (show some (Addr.add _ _).block ≠ _; rw [add_block]; exact (HO_0.out.1 _ rfl).2) | exact (HO_0.out.1 _ rfl).2)
                      rw [← Ny384.out] at ho
                      replace HO_0 := ak (Kd.N_afterv (ok := (fun k_ => (P0_ k_ ∨ w.heap.size ≤ k_))) (by (with_reducible repeat (first | apply Kd.N_alloc | apply Kd.N_drewN | apply Kd.N_drew)); exact HO_0.out) hg hat)
                      replace HL379_0 := ak (Kd.V_afterv (ok := (fun k_ => (P0_ k_ ∨ w.heap.size ≤ k_) ∧ some k_ ≠ (.slice (some ad379) l0.length co19 : Value).ownBlock)) (by (with_reducible repeat (first | apply Kd.V_alloc | apply Kd.V_drewN | apply Kd.V_drew)); exact HL379_0.out) hg hat)
                      replace HL383_0 := ak (Kd.V_afterv (ok := (fun k_ => (P0_ k_ ∨ w.heap.size ≤ k_) ∧ some k_ ≠ (.slice (some ad379) l0.length co19 : Value).ownBlock)) (by (with_reducible repeat (first | apply Kd.V_alloc | apply Kd.V_drewN | apply Kd.V_drew)); exact HL383_0.out) hg hat)
                      replace HB := ak (hb)
                      replace HK := ak (Kept.of_grown (S := (fun k_ => P0_ k_)) hg (by repeat (first | (with_reducible first | exact HK.out | apply Kept.alloc | apply Kept.drewN | apply Kept.drew) | exact HK.out)) (fun k_ e_ => (HO382.out.1 k_ e_)))
                      have HO386 := ak (ho)
                      clear HO382
                      clear ho hb hg hat
                      refine hK.out _ _ ⟨HS0_, HS1_⟩ (fun hHeld => ?_)
                      clear hK K
                      refine norm_ (a' := ?_) ?_ ?_
                      rotate_left
                      ·show Act.put _ (some 55) _ = _
                       simp only [Act.put, lT, lZ, lS, i64_w, i32_w]
                       rfl
                      refine pure_ (i := 14) (N := some 6) (v := ?_) (a' := ?_) #[T,T,T,T,T,T,T,T,T,T,T,T,T,T,T] rfl rfl (any_of HT_.out (by kernel_rfl)) (fun _ _ _ h => h) (Or.inl ⟨by rfl, ?_⟩) ?_ ?_
                      rotate_left
                      ·intro w'
                       go_simp
                       with_reducible rfl
                      rotate_left
                      ·simp only [Act.put, lT, lZ, lS, i64_w, i32_w]
                       rfl
                      refine done_ (done_of HT_.out (by kernel_rfl)) ?_
                      obtain ⟨Ao42, co42, eo42⟩ := Kd.R_slice HO386.out
                      subst eo42
                      try go_wp2_with (first | ((with_reducible refine gate_dst (N := 59) rfl ?_); (try (refine gate_guard (by rfl) ?_; dsimp only)); refine Kd.N_lit k64 _ 64 ?hg (N' := 59) ?hd (xs := ([] : List (S64))) (inner := []) (ok := (fun k_ => (P0_ k_ ∨ w.heap.size ≤ k_) ∧ some k_ ≠ (.slice (some ad379) l0.length co19 : Value).ownBlock ∧ some k_ ≠ (.slice Ao42 y384.length co42 : Value).ownBlock)) (okp := (fun k_ => (P0_ k_ ∨ w.heap.size ≤ k_) ∧ some k_ ≠ (.slice (some ad379) l0.length co19 : Value).ownBlock ∧ some k_ ≠ (.slice Ao42 y384.length co42 : Value).ownBlock)) ?hr ?hp (fun _ hk => hk) ((show ∀ k_, w41.heap.size ≤ k_ → (fun k_ => (P0_ k_ ∨ w.heap.size ≤ k_) ∧ some k_ ≠ (.slice (some ad379) l0.length co19 : Value).ownBlock ∧ some k_ ≠ (.slice Ao42 y384.length co42 : Value).ownBlock) k_ from fun k_ hk => ⟨(.inr (Nat.le_trans (by first | exact HK.out.1 | exact (show Kept w _ (fun k_ => P0_ k_) from by repeat (first | (with_reducible first | exact HK.out | apply Kept.alloc | apply Kept.drewN | apply Kept.drew) | exact HK.out)).1) hk)), Kd.fresh' (Kd.N_lt (by (with_reducible repeat (first | apply Kd.N_alloc | apply Kd.N_drewN | apply Kd.N_drew)); exact HO_0.out)) k_ hk, Kd.fresh' (Kd.R_lt (by (with_reducible repeat (first | apply Kd.R_alloc | apply Kd.R_drewN | apply Kd.R_drew)); exact HO386.out)) k_ hk⟩) _ (Nat.le_refl _)) (Below.refl _ _) (Nat.le_refl _) (by simp) ?_; (case hd => rfl); (case hg => rfl); (case hr => first | (go_simp; done) | (go_simp; rfl)); (case hp => exact (Reps.none _ _)); intro v388 w43 ho44 hb hg_ hnew_; clear hg_ hnew_; (first | rw [← Ny387.out] at ho44 | (simp only [Int.reduceToNat] at ho44; rw [← Ny387.out] at ho44)); replace HO_0 := ak (Kd.N_elder' (by (with_reducible repeat (first | apply Kd.N_alloc | apply Kd.N_drewN | apply Kd.N_drew)); exact HO_0.out) (Kd.N_base ho44) hb); replace HL379_0 := ak (Kd.V_elder' (by (with_reducible repeat (first | apply Kd.V_alloc | apply Kd.V_drewN | apply Kd.V_drew)); exact HL379_0.out) (Kd.N_base ho44) hb); replace HL383_0 := ak (Kd.V_elder' (by (with_reducible repeat (first | apply Kd.V_alloc | apply Kd.V_drewN | apply Kd.V_drew)); exact HL383_0.out) (Kd.N_base ho44) hb); replace HO386 := ak (Kd.R_below (by (with_reducible repeat (first | apply Kd.R_alloc | apply Kd.R_drewN | apply Kd.R_drew)); exact HO386.out) hb); have HO389 := ak (Kd.N_lower ho44 (below_size (by exact hopb HB.out))); replace HK := ak (Kept.below (S := (fun k_ => P0_ k_)) (by repeat (first | (with_reducible first | exact HK.out | apply Kept.alloc | apply Kept.drewN | apply Kept.drew) | exact HK.out)) hb); replace HB := ak (below_step (by exact hopb HB.out) hb); clear hb ho44; have q45 : (x5_17 : Int) ≤ ((l0.length : Int) : Int) := of_decide_eq_true (by assumption); obtain ⟨i045, hi045, _, hsz45, _⟩ := info_parts info64; have hroom45 : l0.length ≤ co19 := (Kd.N_reads' HO_0.out).2.1; have hC45 : Kd.F k64 _ _ (some ad379) l0.length l0 := (Kd.V_at (base := w0.heap.size) (Kd.N_V HO_0.out)).2.2; have hcut45 := cut_to (P := Try.prog) 34 64 .i64 Try.underlying34 hi045 (some ad379) l0.length co19 x5_17 (of_decide_eq_true (by assumption)) q45 hroom45; have hr45 := Kd.F_take (m := (x5_17 : Int).toNat) hC45 (by omega); have hy45 : y390.length = (x5_17 : Int).toNat := (by rw [Ny390.out, List.length_take]; omega); rw [← Ny390.out] at hr45; rw [← hy45] at hcut45; have HO394 := ak (show Kd.V k64 64 _ w0.heap.size _ (.slice (some ad379) y390.length co19) y390 from Kd.V_mk (by omega) hr45); have HC394 := ak (show y390.length ≤ co19 from by omega); clear hr45 hC45 hroom45 hi045 hsz45; have KY45 := ak hy45; clear hy45; replace q45 := eq_true q45) | ((with_reducible refine gate_builtin (b := .append) (xs := #[.tmp 59, .tmp 62]) rfl ?_); (try (refine gate_guard (by rfl) ?_; dsimp only)); at_builtin; refine Kd.N_append_rows k64 (w0 := w0) w0.heap.size rfl (.tmp 59) (.tmp 62) 34 64 (.agg #[(.slice none 0 0)]) 24 rfl Try.underlying34 info64 rfl (by decide) (by omega) v388 y387 y390 _ _ _ (fun k_ => (P0_ k_ ∨ w.heap.size ≤ k_) ∧ some k_ ≠ (.slice Ao42 y384.length co42 : Value).ownBlock) (fun k_ => ((fun k_ => (P0_ k_ ∨ w.heap.size ≤ k_) ∧ some k_ ≠ (.slice Ao42 y384.length co42 : Value).ownBlock)) k_ ∧ some k_ ≠ (v388 : Value).ownBlock) rfl rfl ?aO ?aR (fun _ hk => hk) ?aF ?aB ?aS ?aL ?_; (case aR => exact (by skip; exact Kd.V_F (Kd.V_mono (ok' := (fun k_ => ((fun k_ => (P0_ k_ ∨ w.heap.size ≤ k_) ∧ some k_ ≠ (.slice Ao42 y384.length co42 : Value).ownBlock)) k_ ∧ some k_ ≠ (v388 : Value).ownBlock)) (HO394.out) (fun k_ hk => ⟨⟨hk.1.1, hk.1.2⟩, hk.2⟩)))); (case aB => exact (by exact hopb HB.out)); (case aF => exact (fun k_ hk => ⟨(.inr (Nat.le_trans (by first | exact HK.out.1 | exact (show Kept w _ (fun k_ => P0_ k_) from by repeat (first | (with_reducible first | exact HK.out | apply Kept.alloc | apply Kept.drewN | apply Kept.drew) | exact HK.out)).1) hk)), Kd.fresh' (Kd.R_lt (by (with_reducible repeat (first | apply Kd.R_alloc | apply Kd.R_drewN | apply Kd.R_drew)); exact HO386.out)) k_ hk⟩)); (case aO => exact (by (with_reducible repeat (first | apply Kd.N_alloc | apply Kd.N_drewN | apply Kd.N_drew)); exact Kd.N_mono HO389.out (fun _ hk => ⟨hk.1, hk.2.2⟩))); (case aS => exact (below_size (by exact hopb HB.out))); (case aL => have := LMc31.out; omega); intro v396 w46 ho hb hg hat; rw [← Ny395.out] at ho; replace HO_0 := ak (Kd.N_afterv (ok := (fun k_ => (P0_ k_ ∨ w.heap.size ≤ k_) ∧ some k_ ≠ (.slice Ao42 y384.length co42 : Value).ownBlock)) (by (with_reducible repeat (first | apply Kd.N_alloc | apply Kd.N_drewN | apply Kd.N_drew)); exact HO_0.out) hg hat); replace HL379_0 := ak (Kd.V_afterv (ok := (fun k_ => (P0_ k_ ∨ w.heap.size ≤ k_) ∧ some k_ ≠ (.slice (some ad379) l0.length co19 : Value).ownBlock ∧ some k_ ≠ (.slice Ao42 y384.length co42 : Value).ownBlock)) (by (with_reducible repeat (first | apply Kd.V_alloc | apply Kd.V_drewN | apply Kd.V_drew)); exact Kd.V_mono HL379_0.out (fun _ hk => ⟨⟨hk.1.1.1, ⟨hk.1.1.2, hk.1.2⟩⟩, hk.2⟩)) hg hat); replace HL383_0 := ak (Kd.V_afterv (ok := (fun k_ => (P0_ k_ ∨ w.heap.size ≤ k_) ∧ some k_ ≠ (.slice (some ad379) l0.length co19 : Value).ownBlock ∧ some k_ ≠ (.slice Ao42 y384.length co42 : Value).ownBlock)) (by (with_reducible repeat (first | apply Kd.V_alloc | apply Kd.V_drewN | apply Kd.V_drew)); exact Kd.V_mono HL383_0.out (fun _ hk => ⟨⟨hk.1.1.1, ⟨hk.1.1.2, hk.1.2⟩⟩, hk.2⟩)) hg hat); replace HO386 := ak (Kd.R_over' (by (with_reducible repeat (first | apply Kd.R_alloc | apply Kd.R_drewN | apply Kd.R_drew)); exact HO386.out) (Kd.N_typed (by (with_reducible repeat (first | apply Kd.N_alloc | apply Kd.N_drewN | apply Kd.N_drew)); exact HO389.out)) (by decide) hg); replace HO394 := ak (Kd.V_afterv (ok := (fun k_ => (P0_ k_ ∨ w.heap.size ≤ k_) ∧ some k_ ≠ (.slice Ao42 y384.length co42 : Value).ownBlock)) (by (with_reducible repeat (first | apply Kd.V_alloc | apply Kd.V_drewN | apply Kd.V_drew)); exact HO394.out) hg hat); replace HB := ak (hb); replace HK := ak (Kept.of_grown (S := (fun k_ => P0_ k_)) hg (by repeat (first | (with_reducible first | exact HK.out | apply Kept.alloc | apply Kept.drewN | apply Kept.drew) | exact HK.out)) (fun k_ e_ => (HO389.out.1 k_ e_).1)); have HO397 := ak (ho); clear HO389; clear ho hb hg hat) | ((with_reducible refine gate_builtin (b := .append) (xs := #[.tmp 64, .tmp 67]) rfl ?_); (try (refine gate_guard (by rfl) ?_; dsimp only)); at_builtin; refine Kd.N_append k64 (w0 := w0) w0.heap.size rfl (.tmp 64) (.tmp 67) 34 64 (.agg #[(.slice none 0 0)]) 24 rfl Try.underlying34 info64 rfl (by decide) (by omega) v396 y395 (⟨y384⟩ : S64) [.slice Ao42 y384.length co42] (fun k_ => (P0_ k_ ∨ w.heap.size ≤ k_)) (fun k_ => ((fun k_ => (P0_ k_ ∨ w.heap.size ≤ k_))) k_ ∧ some k_ ≠ (v396 : Value).ownBlock) rfl rfl ?aP (fun _ hk => hk) ?aF ?aO ?aB ?aS ?aL ?_; (case aP => exact (by have hmk_ := Kd.R_mono (ok' := (fun k_ => ((fun k_ => (P0_ k_ ∨ w.heap.size ≤ k_))) k_ ∧ some k_ ≠ (v396 : Value).ownBlock)) (Kd.R_apart' (HO386.out) (Kd.N_typed HO397.out) (by decide)) (fun k_ hk => ⟨hk.1, hk.2⟩); obtain ⟨Am_, cm_, em_⟩ := Kd.R_slice hmk_; rw [em_] at hmk_ ⊢; exact k64_mkF _ _ (⟨y384⟩ : S64) (Kd.R_reads' hmk_).2.1 (Kd.R_F hmk_))); (case aB => exact (by exact hopb HB.out)); (case aF => exact (fun k_ hk => (.inr (Nat.le_trans (by first | exact HK.out.1 | exact (show Kept w _ (fun k_ => P0_ k_) from by repeat (first | (with_reducible first | exact HK.out | apply Kept.alloc | apply Kept.drewN | apply Kept.drew) | exact HK.out)).1) hk)))); (case aO => exact (by (with_reducible repeat (first | apply Kd.N_alloc | apply Kd.N_drewN | apply Kd.N_drew)); exact Kd.N_mono HO397.out (fun _ hk => hk.1))); (case aS => exact (below_size (by exact hopb HB.out))); (case aL => have := LMc32.out; omega); intro v399 w47 ho hb hg hat; rw [← Ny398.out] at ho; replace HO_0 := ak (Kd.N_afterv (ok := (fun k_ => (P0_ k_ ∨ w.heap.size ≤ k_) ∧ some k_ ≠ (.slice Ao42 y384.length co42 : Value).ownBlock)) (by (with_reducible repeat (first | apply Kd.N_alloc | apply Kd.N_drewN | apply Kd.N_drew)); exact HO_0.out) hg hat); replace HL379_0 := ak (Kd.V_afterv (ok := (fun k_ => (P0_ k_ ∨ w.heap.size ≤ k_) ∧ some k_ ≠ (.slice (some ad379) l0.length co19 : Value).ownBlock ∧ some k_ ≠ (.slice Ao42 y384.length co42 : Value).ownBlock)) (by (with_reducible repeat (first | apply Kd.V_alloc | apply Kd.V_drewN | apply Kd.V_drew)); exact HL379_0.out) hg hat); replace HL383_0 := ak (Kd.V_afterv (ok := (fun k_ => (P0_ k_ ∨ w.heap.size ≤ k_) ∧ some k_ ≠ (.slice (some ad379) l0.length co19 : Value).ownBlock ∧ some k_ ≠ (.slice Ao42 y384.length co42 : Value).ownBlock)) (by (with_reducible repeat (first | apply Kd.V_alloc | apply Kd.V_drewN | apply Kd.V_drew)); exact HL383_0.out) hg hat); replace HO394 := ak (Kd.V_afterv (ok := (fun k_ => (P0_ k_ ∨ w.heap.size ≤ k_) ∧ some k_ ≠ (.slice Ao42 y384.length co42 : Value).ownBlock)) (by (with_reducible repeat (first | apply Kd.V_alloc | apply Kd.V_drewN | apply Kd.V_drew)); exact HO394.out) hg hat); replace HB := ak (hb); replace HK := ak (Kept.of_grown (S := (fun k_ => P0_ k_)) hg (by repeat (first | (with_reducible first | exact HK.out | apply Kept.alloc | apply Kept.drewN | apply Kept.drew) | exact HK.out)) (fun k_ e_ => (HO397.out.1 k_ e_).1)); have HO400 := ak (ho); clear HO397 HO386; clear ho hb hg hat; have q48 : ((ji33) : Int) ≤ ((l0.length : Int) : Int) := of_decide_eq_true (by assumption); obtain ⟨i048, hi048, _, hsz48, _⟩ := info_parts info64; have hroom48 : l0.length ≤ co19 := (Kd.N_reads' HO_0.out).2.1; have hC48 : Kd.F k64 _ _ (some ad379) l0.length l0 := (Kd.V_at (base := w0.heap.size) (Kd.N_V HO_0.out)).2.2; have q048 : (0 : Int) ≤ ((ji33) : Int) := of_decide_eq_true (by assumption); have hcut48 := cut_from (P := Try.prog) 34 64 .i64 Try.underlying34 hi048 1 hsz48 (some ad379) l0.length co19 (ji33) q048 q48; have hr48 := Kd.F_cut (m := ((ji33) : Int).toNat) (c := co19) hC48 (by omega) hroom48; obtain ⟨A48, hA48⟩ : ∃ A1, A1 = (if co19 = ((ji33) : Int).toNat then (some ad379) else ((some ad379) : Option Addr).map (·.add (((ji33) : Int).toNat * 1))) := ⟨_, rfl⟩; obtain ⟨c48, hc48⟩ : ∃ c1, c1 = co19 - ((ji33) : Int).toNat := ⟨_, rfl⟩; have hy48 : y401.length = l0.length - ((ji33) : Int).toNat := (by rw [Ny401.out, List.length_drop] <;> omega); rw [show (l0).drop ((ji33) : Int).toNat = y401 from Ny401.out.symm] at hr48; replace hr48 : Kd.F k64 _ _ A48 y401.length y401 := (by rw [hA48]; exact hr48); rw [← hy48, ← hA48, ← hc48] at hcut48; have HO405 := ak (show Kd.V k64 64 _ w0.heap.size _ (.slice A48 y401.length c48) y401 from Kd.V_mk (by rw [hy48, hc48]; exact Nat.sub_le_sub_right hroom48 _) hr48); have HC405 := ak (show y401.length ≤ c48 from by rw [hy48, hc48]; exact Nat.sub_le_sub_right hroom48 _); clear hr48 hC48 hroom48 hi048 hsz48 hc48; have KY48 := ak hy48; have KA48 := ak hA48; clear hy48 hA48; replace q48 := eq_true q48) | ((with_reducible refine gate_builtin (b := .append) (xs := #[.tmp 69, .tmp 73]) rfl ?_); (try (refine gate_guard (by rfl) ?_; dsimp only)); at_builtin; refine Kd.N_append_rows k64 (w0 := w0) w0.heap.size rfl (.tmp 69) (.tmp 73) 34 64 (.agg #[(.slice none 0 0)]) 24 rfl Try.underlying34 info64 rfl (by decide) (by omega) v399 y398 y401 _ _ _ (fun k_ => (P0_ k_ ∨ w.heap.size ≤ k_)) (fun k_ => ((fun k_ => (P0_ k_ ∨ w.heap.size ≤ k_))) k_ ∧ some k_ ≠ (v399 : Value).ownBlock) rfl rfl ?aO ?aR (fun _ hk => hk) ?aF ?aB ?aS ?aL ?_; (case aR => exact (by skip; exact Kd.V_F (Kd.V_mono (ok' := (fun k_ => ((fun k_ => (P0_ k_ ∨ w.heap.size ≤ k_))) k_ ∧ some k_ ≠ (v399 : Value).ownBlock)) (HO405.out) (fun k_ hk => ⟨hk.1.1, hk.2⟩)))); (case aB => exact (by exact hopb HB.out)); (case aF => exact (fun k_ hk => (.inr (Nat.le_trans (by first | exact HK.out.1 | exact (show Kept w _ (fun k_ => P0_ k_) from by repeat (first | (with_reducible first | exact HK.out | apply Kept.alloc | apply Kept.drewN | apply Kept.drew) | exact HK.out)).1) hk)))); (case aO => exact (by (with_reducible repeat (first | apply Kd.N_alloc | apply Kd.N_drewN | apply Kd.N_drew)); exact HO400.out)); (case aS => exact (below_size (by exact hopb HB.out))); (case aL => have := LMc36.out; omega); intro v407 w49 ho hb hg hat; rw [← Ny406.out] at ho; replace HO_0 := ak (Kd.N_afterv (ok := (fun k_ => (P0_ k_ ∨ w.heap.size ≤ k_))) (by (with_reducible repeat (first | apply Kd.N_alloc | apply Kd.N_drewN | apply Kd.N_drew)); exact Kd.N_mono HO_0.out (fun _ hk => ⟨hk.1.1, hk.2⟩)) hg hat); replace HL379_0 := ak (Kd.V_afterv (ok := (fun k_ => (P0_ k_ ∨ w.heap.size ≤ k_) ∧ some k_ ≠ (.slice (some ad379) l0.length co19 : Value).ownBlock)) (by (with_reducible repeat (first | apply Kd.V_alloc | apply Kd.V_drewN | apply Kd.V_drew)); exact Kd.V_mono HL379_0.out (fun _ hk => ⟨⟨hk.1.1, hk.1.2.1⟩, hk.2⟩)) hg hat); replace HL383_0 := ak (Kd.V_afterv (ok := (fun k_ => (P0_ k_ ∨ w.heap.size ≤ k_) ∧ some k_ ≠ (.slice (some ad379) l0.length co19 : Value).ownBlock)) (by (with_reducible repeat (first | apply Kd.V_alloc | apply Kd.V_drewN | apply Kd.V_drew)); exact Kd.V_mono HL383_0.out (fun _ hk => ⟨⟨hk.1.1, hk.1.2.1⟩, hk.2⟩)) hg hat); replace HO394 := ak (Kd.V_afterv (ok := (fun k_ => (P0_ k_ ∨ w.heap.size ≤ k_))) (by (with_reducible repeat (first | apply Kd.V_alloc | apply Kd.V_drewN | apply Kd.V_drew)); exact Kd.V_mono HO394.out (fun _ hk => ⟨hk.1.1, hk.2⟩)) hg hat); replace HO405 := ak (Kd.V_afterv (ok := (fun k_ => (P0_ k_ ∨ w.heap.size ≤ k_))) (by (with_reducible repeat (first | apply Kd.V_alloc | apply Kd.V_drewN | apply Kd.V_drew)); exact Kd.V_mono HO405.out (fun _ hk => ⟨hk.1.1, hk.2⟩)) hg hat); replace HB := ak (hb); replace HK := ak (Kept.of_grown (S := (fun k_ => P0_ k_)) hg (by repeat (first | (with_reducible first | exact HK.out | apply Kept.alloc | apply Kept.drewN | apply Kept.drew) | exact HK.out)) (fun k_ e_ => (HO400.out.1 k_ e_))); have HO408 := ak (ho); clear HO400; clear ho hb hg hat))
                      go_ret
                      exact ⟨_, by first | rfl | (simp only [u8_w_, w64_u8_] <;> rfl) | (simp [errW_none, errW_some] <;> rfl) | (simp only [← hji24, ← hji33]; first | rfl | (simp [errW_none, errW_some] <;> rfl)) | (simp [*, errW_none, errW_some] <;> rfl), by (with_reducible repeat (first | apply Kd.N_alloc | apply Kd.N_drewN | apply Kd.N_drew)); exact HO408.out, by repeat (first | (with_reducible first | exact HB.out | apply bA | apply bN | apply bD) | exact HB.out), by repeat (first | (with_reducible first | exact HK.out | apply Kept.alloc | apply Kept.drewN | apply Kept.drew) | exact HK.out)⟩
                     ·rw [if_neg c36] at H
                      exact absurd H (by simp)
                    ·rw [if_neg c35] at H
                     exact absurd H (by simp)
                   ·rw [if_neg c34] at H
                    exact absurd H (by simp)
                  ·rw [if_neg c32] at H
                   exact absurd H (by simp)
                 ·rw [if_neg c31] at H
                  exact absurd H (by simp)
                ·rw [if_neg c30] at H
                 exact absurd H (by simp)
               ·rw [if_neg c28] at H
                have c28b0 : decide ((y384.length : Int) ≤ 4) = false := decide_eq_false c28
                have c28b1 : decide (y384.length ≤ 4) = false := decide_eq_false (by omega)
                clear c28
                by_cases c50 : x5_17 = a1
                ·rw [if_pos c50] at H
                 have c50b0 : (x5_17 == a1) = true := beq_iff_eq.mpr c50
                 have c50b1 : (x5_17 != a1) = false := bne_eq_false_iff_eq.mpr c50
                 clear c50
                 obtain ⟨y409, hy409⟩ : ∃ y_ : List (S71), y_ = (([] : List (S71))) := ⟨_, rfl⟩
                 replace H : (if 2 ≤ (y384.length : Int) then ((some (y384.take 2 : List (S71))).bind fun y412 => (if y409.length + y412.length < 5864062014805 then ((some (([] : List (S71)) : List (S71))).bind fun y421 => ((some (y384.drop 2 : List (S71))).bind fun y424 => (if y421.length + y424.length < 5864062014805 then (some ((l0.set (x5_17 : Int).toNat (⟨(y409 ++ y412)⟩ : S64)).set ((ji24) : Int).toNat (⟨(y421 ++ y424)⟩ : S64))) else (none)))) else (none))) else (none)) = some r := by first | (rw [hy409]; exact H) | exact H
                 have Ny409 := ak hy409
                 clear hy409
                 by_cases c51 : 2 ≤ (y384.length : Int)
                 ·rw [if_pos c51] at H
                  have c51b0 := eq_true c51
                  have c51b1 : decide (2 ≤ (y384.length : Int)) = true := decide_eq_true c51
                  clear c51
                  obtain ⟨y412, hy412⟩ : ∃ y_ : List (S71), y_ = (y384.take 2) := ⟨_, rfl⟩
                  replace H : (if y409.length + y412.length < 5864062014805 then ((some (([] : List (S71)) : List (S71))).bind fun y421 => ((some (y384.drop 2 : List (S71))).bind fun y424 => (if y421.length + y424.length < 5864062014805 then (some ((l0.set (x5_17 : Int).toNat (⟨(y409 ++ y412)⟩ : S64)).set ((ji24) : Int).toNat (⟨(y421 ++ y424)⟩ : S64))) else (none)))) else (none)) = some r := by first | (rw [hy412]; exact H) | exact H
                  have Ny412 := ak hy412
                  clear hy412
                  by_cases c52 : y409.length + y412.length < 5864062014805
                  ·rw [if_pos c52] at H
                   have LMc52 := ak c52
                   clear c52
                   obtain ⟨y417, hy417⟩ : ∃ y_ : List (S71), y_ = (y409 ++ y412) := ⟨_, rfl⟩
                   replace H : ((some (([] : List (S71)) : List (S71))).bind fun y421 => ((some (y384.drop 2 : List (S71))).bind fun y424 => (if y421.length + y424.length < 5864062014805 then (some ((l0.set (x5_17 : Int).toNat (⟨y417⟩ : S64)).set ((ji24) : Int).toNat (⟨(y421 ++ y424)⟩ : S64))) else (none)))) = some r := by first | (rw [hy417]; exact H) | exact H
                   have Ny417 := ak hy417
                   clear hy417
                   obtain ⟨y420, hy420⟩ : ∃ y_ : List (S64), y_ = (l0.set (x5_17 : Int).toNat (⟨y417⟩ : S64)) := ⟨_, rfl⟩
                   replace H : ((some (([] : List (S71)) : List (S71))).bind fun y421 => ((some (y384.drop 2 : List (S71))).bind fun y424 => (if y421.length + y424.length < 5864062014805 then (some (y420.set ((ji24) : Int).toNat (⟨(y421 ++ y424)⟩ : S64))) else (none)))) = some r := by first | (rw [hy420]; exact H) | exact H
                   have Ny420 := ak hy420
                   clear hy420
                   obtain ⟨y421, hy421⟩ : ∃ y_ : List (S71), y_ = (([] : List (S71))) := ⟨_, rfl⟩
                   replace H : ((some (y384.drop 2 : List (S71))).bind fun y424 => (if y421.length + y424.length < 5864062014805 then (some (y420.set ((ji24) : Int).toNat (⟨(y421 ++ y424)⟩ : S64))) else (none))) = some r := by first | (rw [hy421]; exact H) | exact H
                   have Ny421 := ak hy421
                   clear hy421
                   have c54b0 := eq_true (of_decide_eq_true (by assumption) : 2 ≤ (y384.length : Int))
                   obtain ⟨y424, hy424⟩ : ∃ y_ : List (S71), y_ = (y384.drop 2) := ⟨_, rfl⟩
                   replace H : (if y421.length + y424.length < 5864062014805 then (some (y420.set ((ji24) : Int).toNat (⟨(y421 ++ y424)⟩ : S64))) else (none)) = some r := by first | (rw [hy424]; exact H) | exact H
                   have Ny424 := ak hy424
                   clear hy424
                   by_cases c55 : y421.length + y424.length < 5864062014805
                   ·rw [if_pos c55] at H
                    have LMc55 := ak c55
                    clear c55
                    obtain ⟨y429, hy429⟩ : ∃ y_ : List (S71), y_ = (y421 ++ y424) := ⟨_, rfl⟩
                    replace H : (some (y420.set ((ji24) : Int).toNat (⟨y429⟩ : S64))) = some r := by first | (rw [hy429]; exact H) | exact H
                    have Ny429 := ak hy429
                    clear hy429
                    obtain ⟨y432, hy432⟩ : ∃ y_ : List (S64), y_ = (y420.set ((ji24) : Int).toNat (⟨y429⟩ : S64)) := ⟨_, rfl⟩
                    replace H : (some y432) = some r := by first | (rw [hy432]; exact H) | exact H
                    have Ny432 := ak hy432
                    clear hy432
                    obtain rfl := Option.some.inj H
                    try go_wp2
                    replace HO_0 := ak (Kd.N_drew HO_0.out)
                    replace HK := ak (Kept.drew HK.out)
                    replace HB := ak (below_drew1 HB.out)
                    have p379 : 0 ≤ (x5_17 : Int) := of_decide_eq_true (by assumption)
                    have q379 : x5_17 < (l0.length : Int) := of_decide_eq_true (by assumption)
                    obtain ⟨ad379, A379_0, c379_0, e379, hx379_0, hl379_0, hi379_0⟩ := at_T64 (Kd.N_reads' HO_0.out).2.2 x5_17 p379 q379
                    cases e379
                    obtain ⟨ce379, hce379, hMe379, hcc379⟩ := Kd.N_get HO_0.out z64 x5_17 p379 (by first | exact q379 | exact of_decide_eq_true (by assumption) | (have e_ := (Kd.N_reads' HO_0.out).1; omega))
                    obtain ⟨ua379_0, uc379_0, rfl, ul379_0, ge379_0⟩ := k64_openF hMe379
                    have hv379_0 := hcc379 0 _ rfl
                    rw [Nat.add_zero, show (k64).sz = 1 from rfl, Nat.mul_one] at hv379_0
                    replace hv379_0 := Option.some.inj (hv379_0.symm.trans hx379_0)
                    injection hv379_0 with hva_ hvn_ hvc_
                    rw [hva_] at ge379_0
                    rw [hvc_] at ul379_0
                    have HL379_0 := ak (show Kd.V k71 71 _ w0.heap.size _ _ ((rd_T64 l0 x5_17).f0) from Kd.V_mk ul379_0 ge379_0)
                    clear hva_ hvn_ hvc_ ge379_0 ul379_0
                    clear hcc379 hce379
                    have HR379_0 := ak hi379_0
                    have HC379_0 := ak hl379_0
                    clear hi379_0 hl379_0
                    replace p379 := eq_true p379
                    replace q379 := eq_true q379
                    have p383 : 0 ≤ ((ji24) : Int) := of_decide_eq_true (by assumption)
                    have q383 : (ji24) < (l0.length : Int) := of_decide_eq_true (by assumption)
                    obtain ⟨ad383, A383_0, c383_0, e383, hx383_0, hl383_0, hi383_0⟩ := at_T64 (Kd.N_reads' HO_0.out).2.2 (ji24) p383 q383
                    obtain rfl : ad379 = ad383 := (by injection e383)
                    obtain ⟨ce383, hce383, hMe383, hcc383⟩ := Kd.N_get HO_0.out z64 (ji24) p383 (by first | exact q383 | exact of_decide_eq_true (by assumption) | (have e_ := (Kd.N_reads' HO_0.out).1; omega))
                    obtain ⟨ua383_0, uc383_0, rfl, ul383_0, ge383_0⟩ := k64_openF hMe383
                    have hv383_0 := hcc383 0 _ rfl
                    rw [Nat.add_zero, show (k64).sz = 1 from rfl, Nat.mul_one] at hv383_0
                    replace hv383_0 := Option.some.inj (hv383_0.symm.trans hx383_0)
                    injection hv383_0 with hva_ hvn_ hvc_
                    rw [hva_] at ge383_0
                    rw [hvc_] at ul383_0
                    have HL383_0 := ak (show Kd.V k71 71 _ w0.heap.size _ _ ((rd_T64 l0 (ji24)).f0) from Kd.V_mk ul383_0 ge383_0)
                    clear hva_ hvn_ hvc_ ge383_0 ul383_0
                    clear hcc383 hce383
                    have HR383_0 := ak hi383_0
                    have HC383_0 := ak hl383_0
                    clear hi383_0 hl383_0
                    replace p383 := eq_true p383
                    replace q383 := eq_true q383
                    refine start_ (n := 15) (S := fun w' => w'.cell? (ad379.add (x5_17).toNat) = some (.slice A379_0 ((rd_T64 l0 x5_17).f0).length c379_0) ∧ w'.cell? (ad379.add ((ji24)).toNat) = some (.slice A383_0 ((rd_T64 l0 (ji24)).f0).length c383_0)) (ds := []) #[U,U,U,U,U,U,U,U,U,U,U,U,U,U,U] (by kernel_rfl) rfl rfl ⟨hx379_0, hx383_0⟩ (fun hHeld => ?_); refine with_tabW spec_l6Mend.tab8 spec_l6Mend.bits8 (fun HT_ HW_ => ?_)
                    generalize wc.drew = w57 at HO_0 HK HB HL379_0 HL383_0 HR379_0 HR383_0 hx379_0 hx383_0 hHeld ⊢
                    refine pure_ (i := 1) (N := some 43) (v := ?_) (a' := ?_) #[U,T,U,U,U,U,U,U,U,U,U,U,U,U,U] rfl rfl (any_of HT_.out (by kernel_rfl)) (fun _ _ _ h => h) (Or.inl ⟨by rfl, ?_⟩) ?_ ?_
                    rotate_left
                    ·intro w'
                     go_simp
                     with_reducible rfl
                    rotate_left
                    ·simp only [Act.put, lT, lZ, lS, i64_w, i32_w]
                     rfl
                    refine pure_ (i := 2) (N := some 44) (v := ?_) (a' := ?_) #[U,T,T,U,U,U,U,U,U,U,U,U,U,U,U] rfl rfl (any_of HT_.out (by kernel_rfl)) (fun _ _ _ h => h) (Or.inl ⟨by rfl, ?_⟩) ?_ ?_
                    rotate_left
                    ·intro w'
                     go_simp
                     with_reducible rfl
                    rotate_left
                    ·simp only [Act.put, lT, lZ, lS, i64_w, i32_w]
                     rfl
                    refine pure_ (i := 3) (N := some 45) (v := ?_) (a' := ?_) #[U,T,T,T,U,U,U,U,U,U,U,U,U,U,U] rfl rfl (any_of HT_.out (by kernel_rfl)) (fun _ _ _ h => h) (Or.inl ⟨by rfl, ?_⟩) ?_ ?_
                    rotate_left
                    ·intro w'
                     go_simp
                     with_reducible rfl
                    rotate_left
                    ·simp only [Act.put, lT, lZ, lS, i64_w, i32_w]
                     rfl
                    refine pure_ (i := 4) (N := some 46) (v := ?_) (a' := ?_) #[U,T,T,T,T,U,U,U,U,U,U,U,U,U,U] rfl rfl (any_of HT_.out (by kernel_rfl)) (fun _ _ _ h => h) (Or.inl ⟨by rfl, ?_⟩) ?_ ?_
                    rotate_left
                    ·intro w'
                     go_simp
                     with_reducible rfl
                    rotate_left
                    ·simp only [Act.put, lT, lZ, lS, i64_w, i32_w]
                     rfl
                    refine pure_ (i := 7) (N := some 49) (v := ?_) (a' := ?_) #[U,T,T,T,T,U,U,T,U,U,U,U,U,U,U] rfl rfl (any_of HT_.out (by kernel_rfl)) (fun _ _ _ h => h) (Or.inl ⟨by rfl, ?_⟩) ?_ ?_
                    rotate_left
                    ·intro w'
                     go_simp
                     with_reducible rfl
                    rotate_left
                    ·simp only [Act.put, lT, lZ, lS, i64_w, i32_w]
                     rfl
                    refine pure_ (i := 8) (N := some 50) (v := ?_) (a' := ?_) #[U,T,T,T,T,U,U,T,T,U,U,U,U,U,U] rfl rfl (any_of HT_.out (by kernel_rfl)) (fun _ _ _ h => h) (Or.inl ⟨by rfl, ?_⟩) ?_ ?_
                    rotate_left
                    ·intro w'
                     go_simp
                     with_reducible rfl
                    rotate_left
                    ·simp only [Act.put, lT, lZ, lS, i64_w, i32_w]
                     rfl
                    refine pure_ (i := 9) (N := some 51) (v := ?_) (a' := ?_) #[U,T,T,T,T,U,U,T,T,T,U,U,U,U,U] rfl rfl (any_of HT_.out (by kernel_rfl)) (fun _ _ _ h => h) (Or.inl ⟨by rfl, ?_⟩) ?_ ?_
                    rotate_left
                    ·intro w'
                     go_simp
                     with_reducible rfl
                    rotate_left
                    ·simp only [Act.put, lT, lZ, lS, i64_w, i32_w]
                     rfl
                    refine pure_ (i := 10) (N := some 52) (v := ?_) (a' := ?_) #[U,T,T,T,T,U,U,T,T,T,T,U,U,U,U] rfl rfl (any_of HT_.out (by kernel_rfl)) (fun _ _ _ h => h) (Or.inl ⟨by rfl, ?_⟩) ?_ ?_
                    rotate_left
                    ·intro w'
                     go_simp
                     with_reducible rfl
                    rotate_left
                    ·simp only [Act.put, lT, lZ, lS, i64_w, i32_w]
                     rfl
                    refine pure_ (i := 11) (N := some 53) (v := ?_) (a' := ?_) #[U,T,T,T,T,U,U,T,T,T,T,T,U,U,U] rfl rfl (any_of HT_.out (by kernel_rfl)) (fun _ _ _ h => h) (Or.inl ⟨by rfl, ?_⟩) ?_ ?_
                    rotate_left
                    ·intro w'
                     go_simp
                     with_reducible rfl
                    rotate_left
                    ·simp only [Act.put, lT, lZ, lS, i64_w, i32_w]
                     rfl
                    refine take_ (i := 5) (N := some 47) (v := ?_) (a' := ?_) #[U,T,T,T,T,T,U,T,T,T,T,T,U,U,U] rfl rfl (take_ofW HT_.out HW_.out (by kernel_rfl)) (fun _ _ _ h => h) (Or.inl ⟨by rfl, ?_⟩) hHeld ?_ ?_
                    rotate_left
                    ·rintro w' ⟨s0, s1⟩
                     go_simp
                     with_reducible rfl
                    rotate_left
                    ·simp only [Act.put, lT, lZ, lS, i64_w, i32_w]
                     rfl
                    refine take_ (i := 12) (N := some 54) (v := ?_) (a' := ?_) #[U,T,T,T,T,T,U,T,T,T,T,T,T,U,U] rfl rfl (take_ofW HT_.out HW_.out (by kernel_rfl)) (fun _ _ _ h => h) (Or.inl ⟨by rfl, ?_⟩) hHeld ?_ ?_
                    rotate_left
                    ·rintro w' ⟨s0, s1⟩
                     go_simp
                     with_reducible rfl
                    rotate_left
                    ·simp only [Act.put, lT, lZ, lS, i64_w, i32_w]
                     rfl
                    refine one_ (i := 0) (N := some 42) #[T,T,T,T,T,T,U,T,T,T,T,T,T,U,U] rfl rfl (one_of HT_.out (by kernel_rfl)) (by decide) (fun K hK => ?_)
                    refine Kd.R_lit_step k71 _ 71 ?hg (N := 42) ?hd (xs := ([] : List (S71))) (inner := []) (ok := fun _ => True) (okp := fun _ => True) ?hr ?hp (fun _ hk => hk) trivial (Below.refl _ _) (Nat.le_refl _) (by simp) ?_; (case hd => rfl); (case hg => rfl); (case hr => first | (go_simp; done) | (go_simp; rfl)); (case hp => exact (Reps.none _ _))
                    intro v377 w58 ho59 hb hg_ hnew_
                    have HS0_ := (hb.cell (World.block_lt_of_cell? _ _ (hHeld.1))).trans (hHeld.1)
                    have HS1_ := (hb.cell (World.block_lt_of_cell? _ _ (hHeld.2))).trans (hHeld.2)
                    clear hg_ hnew_
                    (first | rw [← Ny376.out] at ho59 | (simp only [Int.reduceToNat] at ho59; rw [← Ny376.out] at ho59))
                    replace HO_0 := ak (Kd.N_elder' (by (with_reducible repeat (first | apply Kd.N_alloc | apply Kd.N_drewN | apply Kd.N_drew)); exact HO_0.out) (Kd.R_base ho59) hb)
                    replace HL379_0 := ak (Kd.V_elder' (by (with_reducible repeat (first | apply Kd.V_alloc | apply Kd.V_drewN | apply Kd.V_drew)); exact HL379_0.out) (Kd.R_base ho59) hb)
                    replace HL383_0 := ak (Kd.V_elder' (by (with_reducible repeat (first | apply Kd.V_alloc | apply Kd.V_drewN | apply Kd.V_drew)); exact HL383_0.out) (Kd.R_base ho59) hb)
                    have HO378 := ak (Kd.R_lower (Kd.R_newM (M := fun k_ => (P0_ k_ ∨ w.heap.size ≤ k_)) ho59 (by first | exact HK.out.1 | exact (show Kept w _ (fun k_ => P0_ k_) from by repeat (first | (with_reducible first | exact HK.out | apply Kept.alloc | apply Kept.drewN | apply Kept.drew) | exact HK.out)).1) (fun k_ h_ => .inr h_)) (below_size (by exact hopb HB.out)))
                    replace HR379_0 := ak (Kd.C_below (by repeat (first | (with_reducible exact HR379_0.out) | (with_reducible refine Kd.C_alloc ?_ _) | (with_reducible refine Kd.C_drewN ?_ _) | (with_reducible refine Kd.C_drew ?_) | exact HR379_0.out)) hb)
                    replace HR383_0 := ak (Kd.C_below (by repeat (first | (with_reducible exact HR383_0.out) | (with_reducible refine Kd.C_alloc ?_ _) | (with_reducible refine Kd.C_drewN ?_ _) | (with_reducible refine Kd.C_drew ?_) | exact HR383_0.out)) hb)
                    replace HK := ak (Kept.below (S := (fun k_ => P0_ k_)) (by repeat (first | (with_reducible first | exact HK.out | apply Kept.alloc | apply Kept.drewN | apply Kept.drew) | exact HK.out)) hb)
                    replace HB := ak (below_step (by exact hopb HB.out) hb)
                    clear hb ho59
                    refine hK.out _ _ ⟨HS0_, HS1_⟩ (fun hHeld => ?_)
                    clear hK K
                    refine norm_ (a' := ?_) ?_ ?_
                    rotate_left
                    ·show Act.put _ (some 42) _ = _
                     simp only [Act.put, lT, lZ, lS, i64_w, i32_w]
                     rfl
                    refine one_ (i := 6) (N := some 48) #[T,T,T,T,T,T,T,T,T,T,T,T,T,U,U] rfl rfl (one_of HT_.out (by kernel_rfl)) (by decide) (fun K hK => ?_)
                    refine Kd.R_append_rows_step k71 (w0 := w0) w0.heap.size (by rfl) (.tmp 42) (.tmp 47) 32 71 (.agg #[(.string ⟨#[]⟩), (.int .i64 0)]) 24 rfl Try.underlying32 info71 rfl (by decide) (by omega) v377 y376 ((rd_T64 l0 x5_17).f0) _ _ _ (fun k_ => (P0_ k_ ∨ w.heap.size ≤ k_)) (fun _ => False) rfl rfl ?aO ?aR (fun _ _ h => h) (fun _ h => h.elim) ?aF ?aB ?aS ?aL ?_
                    (case aR => repeat (first | exact (by repeat (first | (with_reducible exact HR379_0.out) | (with_reducible refine Kd.C_alloc ?_ _) | (with_reducible refine Kd.C_drewN ?_ _) | (with_reducible refine Kd.C_drew ?_) | exact HR379_0.out)) | (with_reducible refine Kd.C_alloc ?_ _) | (with_reducible refine Kd.C_drewN ?_ _) | (with_reducible refine Kd.C_drew ?_)))
                    (case aB => exact (by exact hopb HB.out))
                    (case aF => exact (fun k_ hk => (.inr (Nat.le_trans (by first | exact HK.out.1 | exact (show Kept w _ (fun k_ => P0_ k_) from by repeat (first | (with_reducible first | exact HK.out | apply Kept.alloc | apply Kept.drewN | apply Kept.drew) | exact HK.out)).1) hk))))
                    (case aO => exact (by (with_reducible repeat (first | apply Kd.R_alloc | apply Kd.R_drewN | apply Kd.R_drew)); exact Kd.R_mono HO378.out (fun _ hk => hk.1)))
                    (case aS => exact (below_size (by exact hopb HB.out)))
                    (case aL => have := LMc23.out; omega)
                    intro v381 w60 ho hb hg hat
                    have HS0_ := cell_grown hg (hHeld.1) (by first | (rw [add_block]; exact (HO_0.out.1 _ rfl).2) | (show some (Addr.add _ _).block ≠ _; rw [add_block]; exact (HO_0.out.1 _ rfl).2) | exact (HO_0.out.1 _ rfl).2)
                    have HS1_ := cell_grown hg (hHeld.2) (by first | (rw [add_block]; exact (HO_0.out.1 _ rfl).2) | (show some (Addr.add _ _).block ≠ _; rw [add_block]; exact (HO_0.out.1 _ rfl).2) | exact (HO_0.out.1 _ rfl).2)
                    rw [← Ny380.out] at ho
                    replace HO_0 := ak (Kd.N_afterv (ok := (fun k_ => (P0_ k_ ∨ w.heap.size ≤ k_))) (by (with_reducible repeat (first | apply Kd.N_alloc | apply Kd.N_drewN | apply Kd.N_drew)); exact HO_0.out) hg hat)
                    replace HL379_0 := ak (Kd.V_afterv (ok := (fun k_ => (P0_ k_ ∨ w.heap.size ≤ k_) ∧ some k_ ≠ (.slice (some ad379) l0.length co19 : Value).ownBlock)) (by (with_reducible repeat (first | apply Kd.V_alloc | apply Kd.V_drewN | apply Kd.V_drew)); exact HL379_0.out) hg hat)
                    replace HL383_0 := ak (Kd.V_afterv (ok := (fun k_ => (P0_ k_ ∨ w.heap.size ≤ k_) ∧ some k_ ≠ (.slice (some ad379) l0.length co19 : Value).ownBlock)) (by (with_reducible repeat (first | apply Kd.V_alloc | apply Kd.V_drewN | apply Kd.V_drew)); exact HL383_0.out) hg hat)
                    replace HB := ak (hb)
                    replace HK := ak (Kept.of_grown (S := (fun k_ => P0_ k_)) hg (by repeat (first | (with_reducible first | exact HK.out | apply Kept.alloc | apply Kept.drewN | apply Kept.drew) | exact HK.out)) (fun k_ e_ => (HO378.out.1 k_ e_).1))
                    have HO382 := ak (ho)
                    clear HO378
                    clear ho hb hg hat
                    refine hK.out _ _ ⟨HS0_, HS1_⟩ (fun hHeld => ?_)
                    clear hK K
                    refine norm_ (a' := ?_) ?_ ?_
                    rotate_left
                    ·show Act.put _ (some 48) _ = _
                     simp only [Act.put, lT, lZ, lS, i64_w, i32_w]
                     rfl
                    refine one_ (i := 13) (N := some 55) #[T,T,T,T,T,T,T,T,T,T,T,T,T,T,U] rfl rfl (one_of HT_.out (by kernel_rfl)) (by decide) (fun K hK => ?_)
                    refine Kd.R_append_rows_step k71 (w0 := w0) w0.heap.size (by rfl) (.tmp 48) (.tmp 54) 32 71 (.agg #[(.string ⟨#[]⟩), (.int .i64 0)]) 24 rfl Try.underlying32 info71 rfl (by decide) (by omega) v381 y380 ((rd_T64 l0 (ji24)).f0) _ _ _ (fun k_ => (P0_ k_ ∨ w.heap.size ≤ k_)) (fun _ => False) rfl rfl ?aO ?aR (fun _ _ h => h) (fun _ h => h.elim) ?aF ?aB ?aS ?aL ?_
                    (case aR => repeat (first | exact ((Kd.V_reads' (by (with_reducible repeat (first | apply Kd.V_alloc | apply Kd.V_drewN | apply Kd.V_drew)); exact HL383_0.out)).2.2) | (with_reducible refine Kd.C_alloc ?_ _) | (with_reducible refine Kd.C_drewN ?_ _) | (with_reducible refine Kd.C_drew ?_)))
                    (case aB => exact (by exact hopb HB.out))
                    (case aF => exact (fun k_ hk => (.inr (Nat.le_trans (by first | exact HK.out.1 | exact (show Kept w _ (fun k_ => P0_ k_) from by repeat (first | (with_reducible first | exact HK.out | apply Kept.alloc | apply Kept.drewN | apply Kept.drew) | exact HK.out)).1) hk))))
                    (case aO => exact (by (with_reducible repeat (first | apply Kd.R_alloc | apply Kd.R_drewN | apply Kd.R_drew)); exact HO382.out))
                    (case aS => exact (below_size (by exact hopb HB.out)))
                    (case aL => have := LMc27.out; omega)
                    intro v385 w61 ho hb hg hat
                    have HS0_ := cell_grown hg (hHeld.1) (by first | (rw [add_block]; exact (HO_0.out.1 _ rfl).2) | (show some (Addr.add _ _).block ≠ _; rw [add_block]; exact (HO_0.out.1 _ rfl).2) | exact (HO_0.out.1 _ rfl).2)
                    have HS1_ := cell_grown hg (hHeld.2) (by first | (rw [add_block]; exact (HO_0.out.1 _ rfl).2) | (show some (Addr.add _ _).block ≠ _; rw [add_block]; exact (HO_0.out.1 _ rfl).2) | exact (HO_0.out.1 _ rfl).2)
                    rw [← Ny384.out] at ho
                    replace HO_0 := ak (Kd.N_afterv (ok := (fun k_ => (P0_ k_ ∨ w.heap.size ≤ k_))) (by (with_reducible repeat (first | apply Kd.N_alloc | apply Kd.N_drewN | apply Kd.N_drew)); exact HO_0.out) hg hat)
                    replace HL379_0 := ak (Kd.V_afterv (ok := (fun k_ => (P0_ k_ ∨ w.heap.size ≤ k_) ∧ some k_ ≠ (.slice (some ad379) l0.length co19 : Value).ownBlock)) (by (with_reducible repeat (first | apply Kd.V_alloc | apply Kd.V_drewN | apply Kd.V_drew)); exact HL379_0.out) hg hat)
                    replace HL383_0 := ak (Kd.V_afterv (ok := (fun k_ => (P0_ k_ ∨ w.heap.size ≤ k_) ∧ some k_ ≠ (.slice (some ad379) l0.length co19 : Value).ownBlock)) (by (with_reducible repeat (first | apply Kd.V_alloc | apply Kd.V_drewN | apply Kd.V_drew)); exact HL383_0.out) hg hat)
                    replace HB := ak (hb)
                    replace HK := ak (Kept.of_grown (S := (fun k_ => P0_ k_)) hg (by repeat (first | (with_reducible first | exact HK.out | apply Kept.alloc | apply Kept.drewN | apply Kept.drew) | exact HK.out)) (fun k_ e_ => (HO382.out.1 k_ e_)))
                    have HO386 := ak (ho)
                    clear HO382
                    clear ho hb hg hat
                    refine hK.out _ _ ⟨HS0_, HS1_⟩ (fun hHeld => ?_)
                    clear hK K
                    refine norm_ (a' := ?_) ?_ ?_
                    rotate_left
                    ·show Act.put _ (some 55) _ = _
                     simp only [Act.put, lT, lZ, lS, i64_w, i32_w]
                     rfl
                    refine pure_ (i := 14) (N := some 6) (v := ?_) (a' := ?_) #[T,T,T,T,T,T,T,T,T,T,T,T,T,T,T] rfl rfl (any_of HT_.out (by kernel_rfl)) (fun _ _ _ h => h) (Or.inl ⟨by rfl, ?_⟩) ?_ ?_
                    rotate_left
                    ·intro w'
                     go_simp
                     with_reducible rfl
                    rotate_left
                    ·simp only [Act.put, lT, lZ, lS, i64_w, i32_w]
                     rfl
                    refine done_ (done_of HT_.out (by kernel_rfl)) ?_
                    obtain ⟨Ao62, co62, eo62⟩ := Kd.R_slice HO386.out
                    subst eo62
                    try go_wp2_with (first | ((with_reducible refine gate_dst (N := 83) rfl ?_); (try (refine gate_guard (by rfl) ?_; dsimp only)); refine Kd.R_lit k71 _ 71 ?hg (N := 83) ?hd (xs := ([] : List (S71))) (inner := []) (ok := fun _ => True) (okp := fun _ => True) ?hr ?hp (fun _ hk => hk) trivial (Below.refl _ _) (Nat.le_refl _) (by simp) ?_; (case hd => rfl); (case hg => rfl); (case hr => first | (go_simp; done) | (go_simp; rfl)); (case hp => exact (Reps.none _ _)); intro v410 w63 ho64 hb hg_ hnew_; clear hg_ hnew_; (first | rw [← Ny409.out] at ho64 | (simp only [Int.reduceToNat] at ho64; rw [← Ny409.out] at ho64)); replace HO_0 := ak (Kd.N_elder' (by (with_reducible repeat (first | apply Kd.N_alloc | apply Kd.N_drewN | apply Kd.N_drew)); exact HO_0.out) (Kd.R_base ho64) hb); replace HL379_0 := ak (Kd.V_elder' (by (with_reducible repeat (first | apply Kd.V_alloc | apply Kd.V_drewN | apply Kd.V_drew)); exact HL379_0.out) (Kd.R_base ho64) hb); replace HL383_0 := ak (Kd.V_elder' (by (with_reducible repeat (first | apply Kd.V_alloc | apply Kd.V_drewN | apply Kd.V_drew)); exact HL383_0.out) (Kd.R_base ho64) hb); have HO411 := ak (Kd.R_lower (Kd.R_new' (Kd.R_newM (M := fun k_ => (P0_ k_ ∨ w.heap.size ≤ k_)) ho64 (by first | exact HK.out.1 | exact (show Kept w _ (fun k_ => P0_ k_) from by repeat (first | (with_reducible first | exact HK.out | apply Kept.alloc | apply Kept.drewN | apply Kept.drew) | exact HK.out)).1) (fun k_ h_ => .inr h_)) (Kd.R_lt (by (with_reducible repeat (first | apply Kd.R_alloc | apply Kd.R_drewN | apply Kd.R_drew)); exact HO386.out))) (below_size (by exact hopb HB.out))); replace HO386 := ak (Kd.R_elder' (by (with_reducible repeat (first | apply Kd.R_alloc | apply Kd.R_drewN | apply Kd.R_drew)); exact HO386.out) (Kd.R_base ho64) hb); replace HK := ak (Kept.below (S := (fun k_ => P0_ k_)) (by repeat (first | (with_reducible first | exact HK.out | apply Kept.alloc | apply Kept.drewN | apply Kept.drew) | exact HK.out)) hb); replace HB := ak (below_step (by exact hopb HB.out) hb); clear hb ho64; have q65 : (2 : Int) ≤ ((y384.length : Int) : Int) := of_decide_eq_true (by assumption); obtain ⟨i065, hi065, _, hsz65, _⟩ := info_parts info71; have hroom65 : y384.length ≤ co62 := (Kd.R_reads' HO386.out).2.1; have hC65 : Kd.F k71 _ _ Ao62 y384.length y384 := (Kd.V_at (base := w0.heap.size) (Kd.R_V (Kd.R_apart' (HO386.out) (Kd.N_typed HO_0.out) (by decide)))).2.2; have hcut65 := cut_to (P := Try.prog) 32 71 .i64 Try.underlying32 hi065 Ao62 y384.length co62 2 (by omega) q65 hroom65; have hr65 := Kd.F_take (m := 2) hC65 (by omega); have hy65 : y412.length = (2 : Int).toNat := (by rw [Ny412.out, List.length_take]; omega); rw [← Ny412.out] at hr65; rw [← hy65] at hcut65; have HO416 := ak (show Kd.V k71 71 _ w0.heap.size _ (.slice Ao62 y412.length co62) y412 from Kd.V_mk (by omega) hr65); have HC416 := ak (show y412.length ≤ co62 from by omega); clear hr65 hC65 hroom65 hi065 hsz65; have KY65 := ak hy65; clear hy65; replace q65 := eq_true q65) | ((with_reducible refine gate_builtin (b := .append) (xs := #[.tmp 83, .tmp 86]) rfl ?_); (try (refine gate_guard (by rfl) ?_; dsimp only)); at_builtin; refine Kd.R_append_rows k71 (w0 := w0) w0.heap.size rfl (.tmp 83) (.tmp 86) 32 71 (.agg #[(.string ⟨#[]⟩), (.int .i64 0)]) 24 rfl Try.underlying32 info71 rfl (by decide) (by omega) v410 y409 y412 _ _ _ (fun k_ => (P0_ k_ ∨ w.heap.size ≤ k_) ∧ some k_ ≠ (.slice Ao62 y384.length co62 : Value).ownBlock) (fun _ => False) rfl rfl ?aO ?aR (fun _ _ h => h) (fun _ h => h.elim) ?aF ?aB ?aS ?aL ?_; (case aR => repeat (first | exact (Kd.V_reads' HO416.out).2.2 | (with_reducible refine Kd.C_alloc ?_ _) | (with_reducible refine Kd.C_drewN ?_ _) | (with_reducible refine Kd.C_drew ?_))); (case aB => exact (by exact hopb HB.out)); (case aF => exact (fun k_ hk => ⟨(.inr (Nat.le_trans (by first | exact HK.out.1 | exact (show Kept w _ (fun k_ => P0_ k_) from by repeat (first | (with_reducible first | exact HK.out | apply Kept.alloc | apply Kept.drewN | apply Kept.drew) | exact HK.out)).1) hk)), Kd.fresh' (Kd.R_lt (by (with_reducible repeat (first | apply Kd.R_alloc | apply Kd.R_drewN | apply Kd.R_drew)); exact HO386.out)) k_ hk⟩)); (case aO => exact (by (with_reducible repeat (first | apply Kd.R_alloc | apply Kd.R_drewN | apply Kd.R_drew)); exact Kd.R_mono HO411.out (fun _ hk => ⟨hk.1.1, hk.2⟩))); (case aS => exact (below_size (by exact hopb HB.out))); (case aL => have := LMc52.out; omega); intro v418 w66 ho hb hg hat; rw [← Ny417.out] at ho; replace HO_0 := ak (Kd.N_afterv (ok := (fun k_ => (P0_ k_ ∨ w.heap.size ≤ k_) ∧ some k_ ≠ (.slice Ao62 y384.length co62 : Value).ownBlock)) (by (with_reducible repeat (first | apply Kd.N_alloc | apply Kd.N_drewN | apply Kd.N_drew)); exact HO_0.out) hg hat); replace HL379_0 := ak (Kd.V_afterv (ok := (fun k_ => (P0_ k_ ∨ w.heap.size ≤ k_) ∧ some k_ ≠ (.slice (some ad379) l0.length co19 : Value).ownBlock ∧ some k_ ≠ (.slice Ao62 y384.length co62 : Value).ownBlock)) (by (with_reducible repeat (first | apply Kd.V_alloc | apply Kd.V_drewN | apply Kd.V_drew)); exact Kd.V_mono HL379_0.out (fun _ hk => ⟨⟨hk.1.1.1, ⟨hk.1.1.2, hk.1.2⟩⟩, hk.2⟩)) hg hat); replace HL383_0 := ak (Kd.V_afterv (ok := (fun k_ => (P0_ k_ ∨ w.heap.size ≤ k_) ∧ some k_ ≠ (.slice (some ad379) l0.length co19 : Value).ownBlock ∧ some k_ ≠ (.slice Ao62 y384.length co62 : Value).ownBlock)) (by (with_reducible repeat (first | apply Kd.V_alloc | apply Kd.V_drewN | apply Kd.V_drew)); exact Kd.V_mono HL383_0.out (fun _ hk => ⟨⟨hk.1.1.1, ⟨hk.1.1.2, hk.1.2⟩⟩, hk.2⟩)) hg hat); replace HO386 := ak (Kd.R_after (ok := (fun k_ => (P0_ k_ ∨ w.heap.size ≤ k_))) (by (with_reducible repeat (first | apply Kd.R_alloc | apply Kd.R_drewN | apply Kd.R_drew)); exact HO386.out) hg hat); replace HO416 := ak (Kd.V_afterv (ok := (fun k_ => (P0_ k_ ∨ w.heap.size ≤ k_) ∧ some k_ ≠ (.slice (some ad379) l0.length co19 : Value).ownBlock)) (by (with_reducible repeat (first | apply Kd.V_alloc | apply Kd.V_drewN | apply Kd.V_drew)); exact Kd.V_mono HO416.out (fun _ hk => ⟨⟨hk.1.1, hk.2⟩, hk.1.2⟩)) hg hat); replace HB := ak (hb); replace HK := ak (Kept.of_grown (S := (fun k_ => P0_ k_)) hg (by repeat (first | (with_reducible first | exact HK.out | apply Kept.alloc | apply Kept.drewN | apply Kept.drew) | exact HK.out)) (fun k_ e_ => (HO411.out.1 k_ e_).1.1)); have HO419 := ak (ho); clear HO411; clear ho hb hg hat; have p53 : 0 ≤ (x5_17 : Int) := of_decide_eq_true (by assumption); have q53 : (x5_17 : Int) < ((l0.length : Int) : Int) := of_decide_eq_true (by assumption); obtain ⟨go53, co53, eo53, gb53, gl53, cl53, HG53⟩ := Kd.N_form HO_0.out (by omega); (first | cases eo53 | (injection eo53 with ea_ en_ ec_; (first | subst ea_ | (injection ea_ with ea_; subst ea_)); subst ec_; clear en_)); have GB53 := ak gb53; have GG53 := ak HG53; clear gb53 gl53 HG53; have HMgo53 := ak (show (P0_ go53 ∨ w.heap.size ≤ go53) from (HO_0.out.1 _ rfl).1.1); (first | simp only [add_plain] at hx379_0 | skip); (first | simp only [add_plain] at hx383_0 | skip); obtain ⟨ce53, hcl53, hM53, hcc53, hfr53⟩ := Kd.N_elem HO_0.out z64 (x5_17 : Int) p53 q53; obtain ⟨ua53_0, uc53_0, rfl, ul53_0, ge53_0⟩ := k64_openF hM53; have hx53_0 := hcc53 0 _ rfl; have hf53_0 := hfr53 0; (try simp only [show (k64).sz = 1 from rfl, Nat.mul_one, Nat.add_zero] at hx53_0); (try simp only [show (k64).sz = 1 from rfl, Nat.mul_one, Nat.add_zero] at hf53_0); clear hcl53 hcc53 hfr53 hM53; replace p53 := eq_true p53; replace q53 := eq_true q53; have n_ := ak (Kd.N_mono (ok' := (fun k_ => (P0_ k_ ∨ w.heap.size ≤ k_) ∧ some k_ ≠ (.slice Ao62 y384.length co62 : Value).ownBlock ∧ some k_ ≠ (v418 : Value).ownBlock)) HO_0.out (fun k_ hk => ⟨hk.1.1, ⟨hk.1.2, hk.2⟩⟩)); clear HO_0; have HO_0 := n_; clear n_; have HX67 := ak (show Kd.N k64 64 w66 w0.heap.size (fun k_ => (P0_ k_ ∨ w.heap.size ≤ k_) ∧ some k_ ≠ (.slice Ao62 y384.length co62 : Value).ownBlock) (.slice (some ⟨go53, 0, none⟩) l0.length co19) l0 from (by (with_reducible repeat (first | apply Kd.N_alloc | apply Kd.N_drewN | apply Kd.N_drew)); exact Kd.N_mono HO_0.out (fun _ hk => ⟨hk.1, hk.2.1⟩))); obtain ⟨ce67, hcl67, hM67, hcc67, hfr67⟩ := Kd.N_elem HX67.out z64 (x5_17 : Int) (of_decide_eq_true (by assumption)) (by have h_ : (x5_17 : Int) < ((l0.length : Int) : Int) := of_decide_eq_true (by assumption); first | exact h_ | (have e_ := (Kd.N_reads' HO_0.out).1; omega) | simpa using h_); obtain ⟨ua67_0, uc67_0, rfl, ul67_0, ge67_0⟩ := k64_openF hM67; have HP67 := Kd.N_seg HX67.out (x5_17 : Int) (of_decide_eq_true (by assumption)) (by have h_ : (x5_17 : Int) < ((l0.length : Int) : Int) := of_decide_eq_true (by assumption); first | exact h_ | (have e_ := (Kd.N_reads' HO_0.out).1; omega) | simpa using h_) (seg := [v418]) (j := 0) hcl67 hcc67 (show 1 ≤ 1 from by decide) (x' := (⟨y417⟩ : S64)) (by have hmk_ := Kd.R_mono (ok' := (fun k_ => ((fun k_ => (P0_ k_ ∨ w.heap.size ≤ k_) ∧ some k_ ≠ (.slice Ao62 y384.length co62 : Value).ownBlock)) k_ ∧ k_ ≠ go53)) (Kd.R_apart' (HO419.out) (Kd.N_typed HO_0.out) (by decide)) (fun k_ hk => ⟨⟨hk.1.1, hk.1.2⟩, fun e_ => (hk.2) (by rw [e_]; rfl)⟩); obtain ⟨Am_, cm_, em_⟩ := Kd.R_slice hmk_; rw [em_] at hmk_ ⊢; exact k64_mkF _ _ (⟨y417⟩ : S64) (Kd.R_reads' hmk_).2.1 (Kd.R_F hmk_)) (fun _ hk => hk); have hx67_0 := hcc67 0 _ rfl; (try simp only [show (k64).sz = 1 from rfl, Nat.mul_one, Nat.add_zero] at hx67_0); have hf67_0 := hfr67 0; (try simp only [show (k64).sz = 1 from rfl, Nat.mul_one, Nat.add_zero] at hf67_0); clear hcl67 hcc67 hfr67 hM67; (try simp only [show (k64).sz = 1 from rfl, Nat.mul_one, Nat.add_zero] at HP67); (try simp only [show (k64).sz = 1 from rfl, Nat.mul_one, Nat.add_zero] at HP67)) | ((with_reducible refine gate_store (t := 32) (p := 89) rfl ?_); refine store_event (t := 32) (p := 89) (v := ?vo_w68) (w1 := (w66.setCell ⟨go53, (x5_17 : Int).toNat, none⟩ (v418))) ?hg ?ho ?hn ?hr ?_; (case ho => rfl); (case hg => rfl); (case hn => rfl); (case hr => first | (go_simp; done) | (go_simp; rfl) | (obtain ⟨A_, c_, e_⟩ := Kd.R_slice (‹Aside0 (Kd.R _ _ _ _ _ v418 _)›).out; rw [e_]; first | (go_simp; done) | (go_simp; rfl)) | (have one_ : Value.oneCell' v418 = true := (by (first | obtain ⟨A_, c_, e_⟩ := Kd.R_slice (‹Aside0 (Kd.R _ _ _ _ _ v418 _)›).out | obtain ⟨A_, c_, e_⟩ := Kd.N_slice (‹Aside0 (Kd.N _ _ _ _ _ v418 _)›).out | obtain ⟨A_, c_, e_⟩ := Kd.S_slice (‹Aside0 (Kd.S _ _ _ _ _ v418 _)›).out); rw [e_]; rfl); have sto_ := fun (a_ : Addr) m_ (w_ : World) => run_store Try.prog w_ a_ v418 m_ one_; first | (go_simp; done) | (go_simp; rfl))); intro w68 hw; have hg : w66.grownBy w68 (some go53) := (by rw [hw]; exact HP67.2); have hp_ : Kd.N k64 64 w68 w0.heap.size (fun k_ => (P0_ k_ ∨ w.heap.size ≤ k_) ∧ some k_ ≠ (.slice Ao62 y384.length co62 : Value).ownBlock) (.slice (some ⟨go53, 0, none⟩) l0.length co19) y420 := (by rw [hw, Ny420.out]; exact HP67.1); clear HP67; replace HL379_0 := ak (Kd.V_afterv (v := (.slice (some ⟨go53, 0, none⟩) l0.length co19)) (v1 := (.slice (some ⟨go53, 0, none⟩) l0.length co19)) (ok := (fun k_ => (P0_ k_ ∨ w.heap.size ≤ k_) ∧ some k_ ≠ (.slice Ao62 y384.length co62 : Value).ownBlock ∧ some k_ ≠ (v418 : Value).ownBlock)) (by (with_reducible repeat (first | apply Kd.V_alloc | apply Kd.V_drewN | apply Kd.V_drew)); exact Kd.V_mono HL379_0.out (fun _ hk => ⟨⟨hk.1.1, ⟨hk.1.2.2, hk.2⟩⟩, hk.1.2.1⟩)) hg (.inl rfl)); replace HL383_0 := ak (Kd.V_afterv (v := (.slice (some ⟨go53, 0, none⟩) l0.length co19)) (v1 := (.slice (some ⟨go53, 0, none⟩) l0.length co19)) (ok := (fun k_ => (P0_ k_ ∨ w.heap.size ≤ k_) ∧ some k_ ≠ (.slice Ao62 y384.length co62 : Value).ownBlock ∧ some k_ ≠ (v418 : Value).ownBlock)) (by (with_reducible repeat (first | apply Kd.V_alloc | apply Kd.V_drewN | apply Kd.V_drew)); exact Kd.V_mono HL383_0.out (fun _ hk => ⟨⟨hk.1.1, ⟨hk.1.2.2, hk.2⟩⟩, hk.1.2.1⟩)) hg (.inl rfl)); replace HO386 := ak (Kd.R_over' (v := (.slice (some ⟨go53, 0, none⟩) l0.length co19)) (by (with_reducible repeat (first | apply Kd.R_alloc | apply Kd.R_drewN | apply Kd.R_drew)); exact HO386.out) (Kd.N_typed HO_0.out) (by decide) hg); replace HO416 := ak (Kd.V_afterv (v := (.slice (some ⟨go53, 0, none⟩) l0.length co19)) (v1 := (.slice (some ⟨go53, 0, none⟩) l0.length co19)) (ok := (fun k_ => (P0_ k_ ∨ w.heap.size ≤ k_) ∧ some k_ ≠ (v418 : Value).ownBlock)) (by (with_reducible repeat (first | apply Kd.V_alloc | apply Kd.V_drewN | apply Kd.V_drew)); exact Kd.V_mono HO416.out (fun _ hk => ⟨⟨hk.1.1, hk.2⟩, hk.1.2⟩)) hg (.inl rfl)); replace HB := ak ((by rw [hw]; exact below_set (HB.out) GB53.out : Below w0.heap.size w0 w68)); replace HK := ak (Kept.of_grown (S := (fun k_ => P0_ k_)) hg (by repeat (first | (with_reducible first | exact HK.out | apply Kept.alloc | apply Kept.drewN | apply Kept.drew) | exact HK.out)) (fun k_ e_ => (HO_0.out.1 k_ e_).1)); replace HO_0 := ak (hp_); clear HO419; clear hg hw hp_) | ((with_reducible refine gate_dst (N := 93) rfl ?_); (try (refine gate_guard (by rfl) ?_; dsimp only)); refine Kd.R_lit k71 _ 71 ?hg (N := 93) ?hd (xs := ([] : List (S71))) (inner := []) (ok := fun _ => True) (okp := fun _ => True) ?hr ?hp (fun _ hk => hk) trivial (Below.refl _ _) (Nat.le_refl _) (by simp) ?_; (case hd => rfl); (case hg => rfl); (case hr => first | (go_simp; done) | (go_simp; rfl)); (case hp => exact (Reps.none _ _)); intro v422 w69 ho70 hb hg_ hnew_; clear hg_ hnew_; (first | rw [← Ny421.out] at ho70 | (simp only [Int.reduceToNat] at ho70; rw [← Ny421.out] at ho70)); replace HO_0 := ak (Kd.N_elder' (by (with_reducible repeat (first | apply Kd.N_alloc | apply Kd.N_drewN | apply Kd.N_drew)); exact HO_0.out) (Kd.R_base ho70) hb); replace HL379_0 := ak (Kd.V_elder' (by (with_reducible repeat (first | apply Kd.V_alloc | apply Kd.V_drewN | apply Kd.V_drew)); exact HL379_0.out) (Kd.R_base ho70) hb); replace HL383_0 := ak (Kd.V_elder' (by (with_reducible repeat (first | apply Kd.V_alloc | apply Kd.V_drewN | apply Kd.V_drew)); exact HL383_0.out) (Kd.R_base ho70) hb); replace HO416 := ak (Kd.V_elder' (by (with_reducible repeat (first | apply Kd.V_alloc | apply Kd.V_drewN | apply Kd.V_drew)); exact HO416.out) (Kd.R_base ho70) hb); have HO423 := ak (Kd.R_lower (Kd.R_new' (Kd.R_newM (M := fun k_ => (P0_ k_ ∨ w.heap.size ≤ k_)) ho70 (by first | exact HK.out.1 | exact (show Kept w _ (fun k_ => P0_ k_) from by repeat (first | (with_reducible first | exact HK.out | apply Kept.alloc | apply Kept.drewN | apply Kept.drew) | exact HK.out)).1) (fun k_ h_ => .inr h_)) (Kd.R_lt (by (with_reducible repeat (first | apply Kd.R_alloc | apply Kd.R_drewN | apply Kd.R_drew)); exact HO386.out))) (below_size (by exact hopb HB.out))); replace HO386 := ak (Kd.R_elder' (by (with_reducible repeat (first | apply Kd.R_alloc | apply Kd.R_drewN | apply Kd.R_drew)); exact HO386.out) (Kd.R_base ho70) hb); replace HK := ak (Kept.below (S := (fun k_ => P0_ k_)) (by repeat (first | (with_reducible first | exact HK.out | apply Kept.alloc | apply Kept.drewN | apply Kept.drew) | exact HK.out)) hb); replace HB := ak (below_step (by exact hopb HB.out) hb); clear hb ho70; have q71 : (2 : Int) ≤ ((y384.length : Int) : Int) := of_decide_eq_true (by assumption); obtain ⟨i071, hi071, _, hsz71, _⟩ := info_parts info71; have hroom71 : y384.length ≤ co62 := (Kd.R_reads' HO386.out).2.1; have hC71 : Kd.F k71 _ _ Ao62 y384.length y384 := (Kd.V_at (base := w0.heap.size) (Kd.R_V (Kd.R_apart' (HO386.out) (Kd.N_typed HO_0.out) (by decide)))).2.2; have hcut71 := cut_from (P := Try.prog) 32 71 .i64 Try.underlying32 hi071 2 hsz71 Ao62 y384.length co62 2 (by omega) q71; have hr71 := Kd.F_cut (m := (2 : Int).toNat) (c := co62) hC71 (by omega) hroom71; obtain ⟨A71, hA71⟩ : ∃ A1, A1 = (if co62 = (2 : Int).toNat then Ao62 else (Ao62 : Option Addr).map (·.add ((2 : Int).toNat * 2))) := ⟨_, rfl⟩; obtain ⟨c71, hc71⟩ : ∃ c1, c1 = co62 - (2 : Int).toNat := ⟨_, rfl⟩; have hy71 : y424.length = y384.length - (2 : Int).toNat := (by rw [Ny424.out, List.length_drop] <;> omega); rw [show (y384).drop (2 : Int).toNat = y424 from Ny424.out.symm] at hr71; replace hr71 : Kd.F k71 _ _ A71 y424.length y424 := (by rw [hA71]; exact hr71); rw [← hy71, ← hA71, ← hc71] at hcut71; have HO428 := ak (show Kd.V k71 71 _ w0.heap.size _ (.slice A71 y424.length c71) y424 from Kd.V_mk (by rw [hy71, hc71]; exact Nat.sub_le_sub_right hroom71 _) hr71); have HC428 := ak (show y424.length ≤ c71 from by rw [hy71, hc71]; exact Nat.sub_le_sub_right hroom71 _); clear hr71 hC71 hroom71 hi071 hsz71 hc71; have KY71 := ak hy71; have KA71 := ak hA71; clear hy71 hA71; replace q71 := eq_true q71) | ((with_reducible refine gate_builtin (b := .append) (xs := #[.tmp 93, .tmp 96]) rfl ?_); (try (refine gate_guard (by rfl) ?_; dsimp only)); at_builtin; refine Kd.R_append_rows k71 (w0 := w0) w0.heap.size rfl (.tmp 93) (.tmp 96) 32 71 (.agg #[(.string ⟨#[]⟩), (.int .i64 0)]) 24 rfl Try.underlying32 info71 rfl (by decide) (by omega) v422 y421 y424 _ _ _ (fun k_ => (P0_ k_ ∨ w.heap.size ≤ k_) ∧ some k_ ≠ (.slice Ao62 y384.length co62 : Value).ownBlock) (fun _ => False) rfl rfl ?aO ?aR (fun _ _ h => h) (fun _ h => h.elim) ?aF ?aB ?aS ?aL ?_; (case aR => repeat (first | exact (Kd.V_reads' HO428.out).2.2 | (with_reducible refine Kd.C_alloc ?_ _) | (with_reducible refine Kd.C_drewN ?_ _) | (with_reducible refine Kd.C_drew ?_))); (case aB => exact (by exact hopb HB.out)); (case aF => exact (fun k_ hk => ⟨(.inr (Nat.le_trans (by first | exact HK.out.1 | exact (show Kept w _ (fun k_ => P0_ k_) from by repeat (first | (with_reducible first | exact HK.out | apply Kept.alloc | apply Kept.drewN | apply Kept.drew) | exact HK.out)).1) hk)), Kd.fresh' (Kd.R_lt (by (with_reducible repeat (first | apply Kd.R_alloc | apply Kd.R_drewN | apply Kd.R_drew)); exact HO386.out)) k_ hk⟩)); (case aO => exact (by (with_reducible repeat (first | apply Kd.R_alloc | apply Kd.R_drewN | apply Kd.R_drew)); exact Kd.R_mono HO423.out (fun _ hk => ⟨hk.1.1, hk.2⟩))); (case aS => exact (below_size (by exact hopb HB.out))); (case aL => have := LMc55.out; omega); intro v430 w72 ho hb hg hat; rw [← Ny429.out] at ho; replace HO_0 := ak (Kd.N_afterv (ok := (fun k_ => (P0_ k_ ∨ w.heap.size ≤ k_) ∧ some k_ ≠ (.slice Ao62 y384.length co62 : Value).ownBlock)) (by (with_reducible repeat (first | apply Kd.N_alloc | apply Kd.N_drewN | apply Kd.N_drew)); exact HO_0.out) hg hat); replace HL379_0 := ak (Kd.V_afterv (ok := (fun k_ => (P0_ k_ ∨ w.heap.size ≤ k_) ∧ some k_ ≠ (.slice (some ⟨go53, 0, none⟩) l0.length co19 : Value).ownBlock ∧ some k_ ≠ (.slice Ao62 y384.length co62 : Value).ownBlock)) (by (with_reducible repeat (first | apply Kd.V_alloc | apply Kd.V_drewN | apply Kd.V_drew)); exact Kd.V_mono HL379_0.out (fun _ hk => ⟨⟨hk.1.1.1, ⟨hk.1.2, hk.1.1.2.1⟩⟩, hk.2⟩)) hg hat); replace HL383_0 := ak (Kd.V_afterv (ok := (fun k_ => (P0_ k_ ∨ w.heap.size ≤ k_) ∧ some k_ ≠ (.slice (some ⟨go53, 0, none⟩) l0.length co19 : Value).ownBlock ∧ some k_ ≠ (.slice Ao62 y384.length co62 : Value).ownBlock)) (by (with_reducible repeat (first | apply Kd.V_alloc | apply Kd.V_drewN | apply Kd.V_drew)); exact Kd.V_mono HL383_0.out (fun _ hk => ⟨⟨hk.1.1.1, ⟨hk.1.2, hk.1.1.2.1⟩⟩, hk.2⟩)) hg hat); replace HO386 := ak (Kd.R_after (ok := (fun k_ => (P0_ k_ ∨ w.heap.size ≤ k_))) (by (with_reducible repeat (first | apply Kd.R_alloc | apply Kd.R_drewN | apply Kd.R_drew)); exact Kd.R_mono HO386.out (fun _ hk => ⟨hk.1.1, hk.2⟩)) hg hat); replace HO416 := ak (Kd.V_afterv (ok := (fun k_ => (P0_ k_ ∨ w.heap.size ≤ k_) ∧ some k_ ≠ (.slice (some ⟨go53, 0, none⟩) l0.length co19 : Value).ownBlock)) (by (with_reducible repeat (first | apply Kd.V_alloc | apply Kd.V_drewN | apply Kd.V_drew)); exact Kd.V_mono HO416.out (fun _ hk => ⟨⟨hk.1.1.1, hk.1.2⟩, hk.2⟩)) hg hat); replace HO428 := ak (Kd.V_afterv (ok := (fun k_ => (P0_ k_ ∨ w.heap.size ≤ k_) ∧ some k_ ≠ (.slice (some ⟨go53, 0, none⟩) l0.length co19 : Value).ownBlock)) (by (with_reducible repeat (first | apply Kd.V_alloc | apply Kd.V_drewN | apply Kd.V_drew)); exact Kd.V_mono HO428.out (fun _ hk => ⟨⟨hk.1.1.1, hk.2⟩, hk.1.2⟩)) hg hat); replace HB := ak (hb); replace HK := ak (Kept.of_grown (S := (fun k_ => P0_ k_)) hg (by repeat (first | (with_reducible first | exact HK.out | apply Kept.alloc | apply Kept.drewN | apply Kept.drew) | exact HK.out)) (fun k_ e_ => (HO423.out.1 k_ e_).1.1)); have HO431 := ak (ho); clear HO423; clear ho hb hg hat; have p56 : 0 ≤ ((ji24) : Int) := of_decide_eq_true (by assumption); have q56 : ((ji24) : Int) < ((l0.length : Int) : Int) := of_decide_eq_true (by assumption); obtain ⟨ce56, hcl56, hM56, hcc56, hfr56⟩ := Kd.N_elem HO_0.out z64 ((ji24) : Int) p56 q56; obtain ⟨ua56_0, uc56_0, rfl, ul56_0, ge56_0⟩ := k64_openF hM56; have hx56_0 := hcc56 0 _ rfl; have hf56_0 := hfr56 0; (try simp only [show (k64).sz = 1 from rfl, Nat.mul_one, Nat.add_zero] at hx56_0); (try simp only [show (k64).sz = 1 from rfl, Nat.mul_one, Nat.add_zero] at hf56_0); clear hcl56 hcc56 hfr56 hM56; replace p56 := eq_true p56; replace q56 := eq_true q56; have n_ := ak (Kd.N_mono (ok' := (fun k_ => (P0_ k_ ∨ w.heap.size ≤ k_) ∧ some k_ ≠ (.slice Ao62 y384.length co62 : Value).ownBlock ∧ some k_ ≠ (v430 : Value).ownBlock)) HO_0.out (fun k_ hk => ⟨hk.1.1, ⟨hk.1.2, hk.2⟩⟩)); clear HO_0; have HO_0 := n_; clear n_; have HX73 := ak (show Kd.N k64 64 w72 w0.heap.size (fun k_ => (P0_ k_ ∨ w.heap.size ≤ k_) ∧ some k_ ≠ (.slice Ao62 y384.length co62 : Value).ownBlock) (.slice (some ⟨go53, 0, none⟩) l0.length co19) y420 from (by (with_reducible repeat (first | apply Kd.N_alloc | apply Kd.N_drewN | apply Kd.N_drew)); exact Kd.N_mono HO_0.out (fun _ hk => ⟨hk.1, hk.2.1⟩))); obtain ⟨ce73, hcl73, hM73, hcc73, hfr73⟩ := Kd.N_elem HX73.out z64 ((ji24) : Int) (of_decide_eq_true (by assumption)) (by have h_ : ((ji24) : Int) < ((l0.length : Int) : Int) := of_decide_eq_true (by assumption); first | exact h_ | (have e_ := (Kd.N_reads' HO_0.out).1; omega) | simpa using h_); obtain ⟨ua73_0, uc73_0, rfl, ul73_0, ge73_0⟩ := k64_openF hM73; have HP73 := Kd.N_seg HX73.out ((ji24) : Int) (of_decide_eq_true (by assumption)) (by have h_ : ((ji24) : Int) < ((l0.length : Int) : Int) := of_decide_eq_true (by assumption); first | exact h_ | (have e_ := (Kd.N_reads' HO_0.out).1; omega) | simpa using h_) (seg := [v430]) (j := 0) hcl73 hcc73 (show 1 ≤ 1 from by decide) (x' := (⟨y429⟩ : S64)) (by have hmk_ := Kd.R_mono (ok' := (fun k_ => ((fun k_ => (P0_ k_ ∨ w.heap.size ≤ k_) ∧ some k_ ≠ (.slice Ao62 y384.length co62 : Value).ownBlock)) k_ ∧ k_ ≠ go53)) (Kd.R_apart' (HO431.out) (Kd.N_typed HO_0.out) (by decide)) (fun k_ hk => ⟨⟨hk.1.1, hk.1.2⟩, fun e_ => (hk.2) (by rw [e_]; rfl)⟩); obtain ⟨Am_, cm_, em_⟩ := Kd.R_slice hmk_; rw [em_] at hmk_ ⊢; exact k64_mkF _ _ (⟨y429⟩ : S64) (Kd.R_reads' hmk_).2.1 (Kd.R_F hmk_)) (fun _ hk => hk); have hx73_0 := hcc73 0 _ rfl; (try simp only [show (k64).sz = 1 from rfl, Nat.mul_one, Nat.add_zero] at hx73_0); have hf73_0 := hfr73 0; (try simp only [show (k64).sz = 1 from rfl, Nat.mul_one, Nat.add_zero] at hf73_0); clear hcl73 hcc73 hfr73 hM73; (try simp only [show (k64).sz = 1 from rfl, Nat.mul_one, Nat.add_zero] at HP73); (try simp only [show (k64).sz = 1 from rfl, Nat.mul_one, Nat.add_zero] at HP73)) | ((with_reducible refine gate_store (t := 32) (p := 99) rfl ?_); refine store_event (t := 32) (p := 99) (v := ?vo_w74) (w1 := (w72.setCell ⟨go53, ((ji24) : Int).toNat, none⟩ (v430))) ?hg ?ho ?hn ?hr ?_; (case ho => rfl); (case hg => rfl); (case hn => rfl); (case hr => first | (go_simp; done) | (go_simp; rfl) | (obtain ⟨A_, c_, e_⟩ := Kd.R_slice (‹Aside0 (Kd.R _ _ _ _ _ v430 _)›).out; rw [e_]; first | (go_simp; done) | (go_simp; rfl)) | (have one_ : Value.oneCell' v430 = true := (by (first | obtain ⟨A_, c_, e_⟩ := Kd.R_slice (‹Aside0 (Kd.R _ _ _ _ _ v430 _)›).out | obtain ⟨A_, c_, e_⟩ := Kd.N_slice (‹Aside0 (Kd.N _ _ _ _ _ v430 _)›).out | obtain ⟨A_, c_, e_⟩ := Kd.S_slice (‹Aside0 (Kd.S _ _ _ _ _ v430 _)›).out); rw [e_]; rfl); have sto_ := fun (a_ : Addr) m_ (w_ : World) => run_store Try.prog w_ a_ v430 m_ one_; first | (go_simp; done) | (go_simp; rfl))); intro w74 hw; have hg : w72.grownBy w74 (some go53) := (by rw [hw]; exact HP73.2); have hp_ : Kd.N k64 64 w74 w0.heap.size (fun k_ => (P0_ k_ ∨ w.heap.size ≤ k_) ∧ some k_ ≠ (.slice Ao62 y384.length co62 : Value).ownBlock) (.slice (some ⟨go53, 0, none⟩) l0.length co19) y432 := (by rw [hw, Ny432.out]; exact HP73.1); clear HP73; replace HL379_0 := ak (Kd.V_afterv (v := (.slice (some ⟨go53, 0, none⟩) l0.length co19)) (v1 := (.slice (some ⟨go53, 0, none⟩) l0.length co19)) (ok := (fun k_ => (P0_ k_ ∨ w.heap.size ≤ k_) ∧ some k_ ≠ (.slice Ao62 y384.length co62 : Value).ownBlock ∧ some k_ ≠ (v430 : Value).ownBlock)) (by (with_reducible repeat (first | apply Kd.V_alloc | apply Kd.V_drewN | apply Kd.V_drew)); exact Kd.V_mono HL379_0.out (fun _ hk => ⟨⟨hk.1.1, ⟨hk.1.2.2, hk.2⟩⟩, hk.1.2.1⟩)) hg (.inl rfl)); replace HL383_0 := ak (Kd.V_afterv (v := (.slice (some ⟨go53, 0, none⟩) l0.length co19)) (v1 := (.slice (some ⟨go53, 0, none⟩) l0.length co19)) (ok := (fun k_ => (P0_ k_ ∨ w.heap.size ≤ k_) ∧ some k_ ≠ (.slice Ao62 y384.length co62 : Value).ownBlock ∧ some k_ ≠ (v430 : Value).ownBlock)) (by (with_reducible repeat (first | apply Kd.V_alloc | apply Kd.V_drewN | apply Kd.V_drew)); exact Kd.V_mono HL383_0.out (fun _ hk => ⟨⟨hk.1.1, ⟨hk.1.2.2, hk.2⟩⟩, hk.1.2.1⟩)) hg (.inl rfl)); replace HO386 := ak (Kd.R_over' (v := (.slice (some ⟨go53, 0, none⟩) l0.length co19)) (by (with_reducible repeat (first | apply Kd.R_alloc | apply Kd.R_drewN | apply Kd.R_drew)); exact HO386.out) (Kd.N_typed HO_0.out) (by decide) hg); replace HO416 := ak (Kd.V_afterv (v := (.slice (some ⟨go53, 0, none⟩) l0.length co19)) (v1 := (.slice (some ⟨go53, 0, none⟩) l0.length co19)) (ok := (fun k_ => (P0_ k_ ∨ w.heap.size ≤ k_) ∧ some k_ ≠ (v430 : Value).ownBlock)) (by (with_reducible repeat (first | apply Kd.V_alloc | apply Kd.V_drewN | apply Kd.V_drew)); exact Kd.V_mono HO416.out (fun _ hk => ⟨⟨hk.1.1, hk.2⟩, hk.1.2⟩)) hg (.inl rfl)); replace HO428 := ak (Kd.V_afterv (v := (.slice (some ⟨go53, 0, none⟩) l0.length co19)) (v1 := (.slice (some ⟨go53, 0, none⟩) l0.length co19)) (ok := (fun k_ => (P0_ k_ ∨ w.heap.size ≤ k_) ∧ some k_ ≠ (v430 : Value).ownBlock)) (by (with_reducible repeat (first | apply Kd.V_alloc | apply Kd.V_drewN | apply Kd.V_drew)); exact Kd.V_mono HO428.out (fun _ hk => ⟨⟨hk.1.1, hk.2⟩, hk.1.2⟩)) hg (.inl rfl)); replace HB := ak ((by rw [hw]; exact below_set (HB.out) GB53.out : Below w0.heap.size w0 w74)); replace HK := ak (Kept.of_grown (S := (fun k_ => P0_ k_)) hg (by repeat (first | (with_reducible first | exact HK.out | apply Kept.alloc | apply Kept.drewN | apply Kept.drew) | exact HK.out)) (fun k_ e_ => (HO_0.out.1 k_ e_).1)); replace HO_0 := ak (hp_); clear HO431; clear hg hw hp_))
                    go_ret
                    exact ⟨_, by first | rfl | (simp only [u8_w_, w64_u8_] <;> rfl) | (simp [errW_none, errW_some] <;> rfl) | (simp only [← hji24]; first | rfl | (simp [errW_none, errW_some] <;> rfl)) | (simp [*, errW_none, errW_some] <;> rfl), by (with_reducible repeat (first | apply Kd.N_alloc | apply Kd.N_drewN | apply Kd.N_drew)); exact Kd.N_mono HO_0.out (fun _ hk => hk.1), by repeat (first | (with_reducible first | exact HB.out | apply bA | apply bN | apply bD) | exact HB.out), by repeat (first | (with_reducible first | exact HK.out | apply Kept.alloc | apply Kept.drewN | apply Kept.drew) | exact HK.out)⟩
                   ·rw [if_neg c55] at H
                    exact absurd H (by simp)
                  ·rw [if_neg c52] at H
                   exact absurd H (by simp)
                 ·rw [if_neg c51] at H
                  exact absurd H (by simp)
                ·rw [if_neg c50] at H
                 have c50b0 : (x5_17 == a1) = false := beq_eq_false_iff_ne.mpr c50
                 have c50b1 : (x5_17 != a1) = true := bne_iff_ne.mpr c50
                 obtain ⟨y433, hy433⟩ : ∃ y_ : List (S71), y_ = (([] : List (S71))) := ⟨_, rfl⟩
                 replace H : (if 0 ≤ (wrap64 ((y384.length : Int) - 2)) then (if (wrap64 ((y384.length : Int) - 2)) ≤ (y384.length : Int) then ((some (y384.take ((wrap64 ((y384.length : Int) - 2)) : Int).toNat : List (S71))).bind fun y436 => (if y433.length + y436.length < 5864062014805 then ((some (([] : List (S71)) : List (S71))).bind fun y445 => ((some (y384.drop ((wrap64 ((y384.length : Int) - 2)) : Int).toNat : List (S71))).bind fun y448 => (if y445.length + y448.length < 5864062014805 then (some ((l0.set (x5_17 : Int).toNat (⟨(y433 ++ y436)⟩ : S64)).set ((ji24) : Int).toNat (⟨(y445 ++ y448)⟩ : S64))) else (none)))) else (none))) else (none)) else (none)) = some r := by first | (rw [hy433]; exact H) | exact H
                 have Ny433 := ak hy433
                 clear hy433
                 obtain ⟨ji75, hji75⟩ : ∃ j_ : Int, (wrap64 ((y384.length : Int) - 2)) = j_ := ⟨_, rfl⟩
                 replace H : (if 0 ≤ (ji75) then (if (ji75) ≤ (y384.length : Int) then ((some (y384.take ((ji75) : Int).toNat : List (S71))).bind fun y436 => (if y433.length + y436.length < 5864062014805 then ((some (([] : List (S71)) : List (S71))).bind fun y445 => ((some (y384.drop ((ji75) : Int).toNat : List (S71))).bind fun y448 => (if y445.length + y448.length < 5864062014805 then (some ((l0.set (x5_17 : Int).toNat (⟨(y433 ++ y436)⟩ : S64)).set ((ji24) : Int).toNat (⟨(y445 ++ y448)⟩ : S64))) else (none)))) else (none))) else (none)) else (none)) = some r := by first | (rw [hji75] at H; exact H) | (simp only [hji75] at H ⊢; exact H)
                 have hji75w : (IntKind.i64.wrap ((y384.length : Int) - 2)) = ji75 := (i64_w _).trans hji75
                 by_cases c76 : 0 ≤ (ji75)
                 ·rw [if_pos c76] at H
                  have c76b0 := eq_true c76
                  have c76b1 : decide (0 ≤ (ji75)) = true := decide_eq_true c76
                  clear c76
                  by_cases c77 : (ji75) ≤ (y384.length : Int)
                  ·rw [if_pos c77] at H
                   have c77b0 := eq_true c77
                   have c77b1 : decide ((ji75) ≤ (y384.length : Int)) = true := decide_eq_true c77
                   clear c77
                   obtain ⟨y436, hy436⟩ : ∃ y_ : List (S71), y_ = (y384.take ((ji75) : Int).toNat) := ⟨_, rfl⟩
                   replace H : (if y433.length + y436.length < 5864062014805 then ((some (([] : List (S71)) : List (S71))).bind fun y445 => ((some (y384.drop ((ji75) : Int).toNat : List (S71))).bind fun y448 => (if y445.length + y448.length < 5864062014805 then (some ((l0.set (x5_17 : Int).toNat (⟨(y433 ++ y436)⟩ : S64)).set ((ji24) : Int).toNat (⟨(y445 ++ y448)⟩ : S64))) else (none)))) else (none)) = some r := by first | (rw [hy436]; exact H) | exact H
                   have Ny436 := ak hy436
                   clear hy436
                   by_cases c78 : y433.length + y436.length < 5864062014805
                   ·rw [if_pos c78] at H
                    have LMc78 := ak c78
                    clear c78
                    obtain ⟨y441, hy441⟩ : ∃ y_ : List (S71), y_ = (y433 ++ y436) := ⟨_, rfl⟩
                    replace H : ((some (([] : List (S71)) : List (S71))).bind fun y445 => ((some (y384.drop ((ji75) : Int).toNat : List (S71))).bind fun y448 => (if y445.length + y448.length < 5864062014805 then (some ((l0.set (x5_17 : Int).toNat (⟨y441⟩ : S64)).set ((ji24) : Int).toNat (⟨(y445 ++ y448)⟩ : S64))) else (none)))) = some r := by first | (rw [hy441]; exact H) | exact H
                    have Ny441 := ak hy441
                    clear hy441
                    obtain ⟨y444, hy444⟩ : ∃ y_ : List (S64), y_ = (l0.set (x5_17 : Int).toNat (⟨y441⟩ : S64)) := ⟨_, rfl⟩
                    replace H : ((some (([] : List (S71)) : List (S71))).bind fun y445 => ((some (y384.drop ((ji75) : Int).toNat : List (S71))).bind fun y448 => (if y445.length + y448.length < 5864062014805 then (some (y444.set ((ji24) : Int).toNat (⟨(y445 ++ y448)⟩ : S64))) else (none)))) = some r := by first | (rw [hy444]; exact H) | exact H
                    have Ny444 := ak hy444
                    clear hy444
                    obtain ⟨y445, hy445⟩ : ∃ y_ : List (S71), y_ = (([] : List (S71))) := ⟨_, rfl⟩
                    replace H : ((some (y384.drop ((ji75) : Int).toNat : List (S71))).bind fun y448 => (if y445.length + y448.length < 5864062014805 then (some (y444.set ((ji24) : Int).toNat (⟨(y445 ++ y448)⟩ : S64))) else (none))) = some r := by first | (rw [hy445]; exact H) | exact H
                    have Ny445 := ak hy445
                    clear hy445
                    have c80b0 := eq_true (of_decide_eq_true (by assumption) : 0 ≤ (ji75))
                    have c81b0 := eq_true (of_decide_eq_true (by assumption) : (ji75) ≤ (y384.length : Int))
                    obtain ⟨y448, hy448⟩ : ∃ y_ : List (S71), y_ = (y384.drop ((ji75) : Int).toNat) := ⟨_, rfl⟩
                    replace H : (if y445.length + y448.length < 5864062014805 then (some (y444.set ((ji24) : Int).toNat (⟨(y445 ++ y448)⟩ : S64))) else (none)) = some r := by first | (rw [hy448]; exact H) | exact H
                    have Ny448 := ak hy448
                    clear hy448
                    by_cases c82 : y445.length + y448.length < 5864062014805
                    ·rw [if_pos c82] at H
                     have LMc82 := ak c82
                     clear c82
                     obtain ⟨y453, hy453⟩ : ∃ y_ : List (S71), y_ = (y445 ++ y448) := ⟨_, rfl⟩
                     replace H : (some (y444.set ((ji24) : Int).toNat (⟨y453⟩ : S64))) = some r := by first | (rw [hy453]; exact H) | exact H
                     have Ny453 := ak hy453
                     clear hy453
                     obtain ⟨y456, hy456⟩ : ∃ y_ : List (S64), y_ = (y444.set ((ji24) : Int).toNat (⟨y453⟩ : S64)) := ⟨_, rfl⟩
                     replace H : (some y456) = some r := by first | (rw [hy456]; exact H) | exact H
                     have Ny456 := ak hy456
                     clear hy456
                     obtain rfl := Option.some.inj H
                     try go_wp2
                     replace HO_0 := ak (Kd.N_drew HO_0.out)
                     replace HK := ak (Kept.drew HK.out)
                     replace HB := ak (below_drew1 HB.out)
                     have p379 : 0 ≤ (x5_17 : Int) := of_decide_eq_true (by assumption)
                     have q379 : x5_17 < (l0.length : Int) := of_decide_eq_true (by assumption)
                     obtain ⟨ad379, A379_0, c379_0, e379, hx379_0, hl379_0, hi379_0⟩ := at_T64 (Kd.N_reads' HO_0.out).2.2 x5_17 p379 q379
                     cases e379
                     obtain ⟨ce379, hce379, hMe379, hcc379⟩ := Kd.N_get HO_0.out z64 x5_17 p379 (by first | exact q379 | exact of_decide_eq_true (by assumption) | (have e_ := (Kd.N_reads' HO_0.out).1; omega))
                     obtain ⟨ua379_0, uc379_0, rfl, ul379_0, ge379_0⟩ := k64_openF hMe379
                     have hv379_0 := hcc379 0 _ rfl
                     rw [Nat.add_zero, show (k64).sz = 1 from rfl, Nat.mul_one] at hv379_0
                     replace hv379_0 := Option.some.inj (hv379_0.symm.trans hx379_0)
                     injection hv379_0 with hva_ hvn_ hvc_
                     rw [hva_] at ge379_0
                     rw [hvc_] at ul379_0
                     have HL379_0 := ak (show Kd.V k71 71 _ w0.heap.size _ _ ((rd_T64 l0 x5_17).f0) from Kd.V_mk ul379_0 ge379_0)
                     clear hva_ hvn_ hvc_ ge379_0 ul379_0
                     clear hcc379 hce379
                     have HR379_0 := ak hi379_0
                     have HC379_0 := ak hl379_0
                     clear hi379_0 hl379_0
                     replace p379 := eq_true p379
                     replace q379 := eq_true q379
                     have p383 : 0 ≤ ((ji24) : Int) := of_decide_eq_true (by assumption)
                     have q383 : (ji24) < (l0.length : Int) := of_decide_eq_true (by assumption)
                     obtain ⟨ad383, A383_0, c383_0, e383, hx383_0, hl383_0, hi383_0⟩ := at_T64 (Kd.N_reads' HO_0.out).2.2 (ji24) p383 q383
                     obtain rfl : ad379 = ad383 := (by injection e383)
                     obtain ⟨ce383, hce383, hMe383, hcc383⟩ := Kd.N_get HO_0.out z64 (ji24) p383 (by first | exact q383 | exact of_decide_eq_true (by assumption) | (have e_ := (Kd.N_reads' HO_0.out).1; omega))
                     obtain ⟨ua383_0, uc383_0, rfl, ul383_0, ge383_0⟩ := k64_openF hMe383
                     have hv383_0 := hcc383 0 _ rfl
                     rw [Nat.add_zero, show (k64).sz = 1 from rfl, Nat.mul_one] at hv383_0
                     replace hv383_0 := Option.some.inj (hv383_0.symm.trans hx383_0)
                     injection hv383_0 with hva_ hvn_ hvc_
                     rw [hva_] at ge383_0
                     rw [hvc_] at ul383_0
                     have HL383_0 := ak (show Kd.V k71 71 _ w0.heap.size _ _ ((rd_T64 l0 (ji24)).f0) from Kd.V_mk ul383_0 ge383_0)
                     clear hva_ hvn_ hvc_ ge383_0 ul383_0
                     clear hcc383 hce383
                     have HR383_0 := ak hi383_0
                     have HC383_0 := ak hl383_0
                     clear hi383_0 hl383_0
                     replace p383 := eq_true p383
                     replace q383 := eq_true q383
                     refine start_ (n := 15) (S := fun w' => w'.cell? (ad379.add (x5_17).toNat) = some (.slice A379_0 ((rd_T64 l0 x5_17).f0).length c379_0) ∧ w'.cell? (ad379.add ((ji24)).toNat) = some (.slice A383_0 ((rd_T64 l0 (ji24)).f0).length c383_0)) (ds := []) #[U,U,U,U,U,U,U,U,U,U,U,U,U,U,U] (by kernel_rfl) rfl rfl ⟨hx379_0, hx383_0⟩ (fun hHeld => ?_); refine with_tabW spec_l6Mend.tab8 spec_l6Mend.bits8 (fun HT_ HW_ => ?_)
                     generalize wc.drew = w84 at HO_0 HK HB HL379_0 HL383_0 HR379_0 HR383_0 hx379_0 hx383_0 hHeld ⊢
                     refine pure_ (i := 1) (N := some 43) (v := ?_) (a' := ?_) #[U,T,U,U,U,U,U,U,U,U,U,U,U,U,U] rfl rfl (any_of HT_.out (by kernel_rfl)) (fun _ _ _ h => h) (Or.inl ⟨by rfl, ?_⟩) ?_ ?_
                     rotate_left
                     ·intro w'
                      go_simp
                      with_reducible rfl
                     rotate_left
                     ·simp only [Act.put, lT, lZ, lS, i64_w, i32_w]
                      rfl
                     refine pure_ (i := 2) (N := some 44) (v := ?_) (a' := ?_) #[U,T,T,U,U,U,U,U,U,U,U,U,U,U,U] rfl rfl (any_of HT_.out (by kernel_rfl)) (fun _ _ _ h => h) (Or.inl ⟨by rfl, ?_⟩) ?_ ?_
                     rotate_left
                     ·intro w'
                      go_simp
                      with_reducible rfl
                     rotate_left
                     ·simp only [Act.put, lT, lZ, lS, i64_w, i32_w]
                      rfl
                     refine pure_ (i := 3) (N := some 45) (v := ?_) (a' := ?_) #[U,T,T,T,U,U,U,U,U,U,U,U,U,U,U] rfl rfl (any_of HT_.out (by kernel_rfl)) (fun _ _ _ h => h) (Or.inl ⟨by rfl, ?_⟩) ?_ ?_
                     rotate_left
                     ·intro w'
                      go_simp
                      with_reducible rfl
                     rotate_left
                     ·simp only [Act.put, lT, lZ, lS, i64_w, i32_w]
                      rfl
                     refine pure_ (i := 4) (N := some 46) (v := ?_) (a' := ?_) #[U,T,T,T,T,U,U,U,U,U,U,U,U,U,U] rfl rfl (any_of HT_.out (by kernel_rfl)) (fun _ _ _ h => h) (Or.inl ⟨by rfl, ?_⟩) ?_ ?_
                     rotate_left
                     ·intro w'
                      go_simp
                      with_reducible rfl
                     rotate_left
                     ·simp only [Act.put, lT, lZ, lS, i64_w, i32_w]
                      rfl
                     refine pure_ (i := 7) (N := some 49) (v := ?_) (a' := ?_) #[U,T,T,T,T,U,U,T,U,U,U,U,U,U,U] rfl rfl (any_of HT_.out (by kernel_rfl)) (fun _ _ _ h => h) (Or.inl ⟨by rfl, ?_⟩) ?_ ?_
                     rotate_left
                     ·intro w'
                      go_simp
                      with_reducible rfl
                     rotate_left
                     ·simp only [Act.put, lT, lZ, lS, i64_w, i32_w]
                      rfl
                     refine pure_ (i := 8) (N := some 50) (v := ?_) (a' := ?_) #[U,T,T,T,T,U,U,T,T,U,U,U,U,U,U] rfl rfl (any_of HT_.out (by kernel_rfl)) (fun _ _ _ h => h) (Or.inl ⟨by rfl, ?_⟩) ?_ ?_
                     rotate_left
                     ·intro w'
                      go_simp
                      with_reducible rfl
                     rotate_left
                     ·simp only [Act.put, lT, lZ, lS, i64_w, i32_w]
                      rfl
                     refine pure_ (i := 9) (N := some 51) (v := ?_) (a' := ?_) #[U,T,T,T,T,U,U,T,T,T,U,U,U,U,U] rfl rfl (any_of HT_.out (by kernel_rfl)) (fun _ _ _ h => h) (Or.inl ⟨by rfl, ?_⟩) ?_ ?_
                     rotate_left
                     ·intro w'
                      go_simp
                      with_reducible rfl
                     rotate_left
                     ·simp only [Act.put, lT, lZ, lS, i64_w, i32_w]
                      rfl
                     refine pure_ (i := 10) (N := some 52) (v := ?_) (a' := ?_) #[U,T,T,T,T,U,U,T,T,T,T,U,U,U,U] rfl rfl (any_of HT_.out (by kernel_rfl)) (fun _ _ _ h => h) (Or.inl ⟨by rfl, ?_⟩) ?_ ?_
                     rotate_left
                     ·intro w'
                      go_simp
                      with_reducible rfl
                     rotate_left
                     ·simp only [Act.put, lT, lZ, lS, i64_w, i32_w]
                      rfl
                     refine pure_ (i := 11) (N := some 53) (v := ?_) (a' := ?_) #[U,T,T,T,T,U,U,T,T,T,T,T,U,U,U] rfl rfl (any_of HT_.out (by kernel_rfl)) (fun _ _ _ h => h) (Or.inl ⟨by rfl, ?_⟩) ?_ ?_
                     rotate_left
                     ·intro w'
                      go_simp
                      with_reducible rfl
                     rotate_left
                     ·simp only [Act.put, lT, lZ, lS, i64_w, i32_w]
                      rfl
                     refine take_ (i := 5) (N := some 47) (v := ?_) (a' := ?_) #[U,T,T,T,T,T,U,T,T,T,T,T,U,U,U] rfl rfl (take_ofW HT_.out HW_.out (by kernel_rfl)) (fun _ _ _ h => h) (Or.inl ⟨by rfl, ?_⟩) hHeld ?_ ?_
                     rotate_left
                     ·rintro w' ⟨s0, s1⟩
                      go_simp
                      with_reducible rfl
                     rotate_left
                     ·simp only [Act.put, lT, lZ, lS, i64_w, i32_w]
                      rfl
                     refine take_ (i := 12) (N := some 54) (v := ?_) (a' := ?_) #[U,T,T,T,T,T,U,T,T,T,T,T,T,U,U] rfl rfl (take_ofW HT_.out HW_.out (by kernel_rfl)) (fun _ _ _ h => h) (Or.inl ⟨by rfl, ?_⟩) hHeld ?_ ?_
                     rotate_left
                     ·rintro w' ⟨s0, s1⟩
                      go_simp
                      with_reducible rfl
                     rotate_left
                     ·simp only [Act.put, lT, lZ, lS, i64_w, i32_w]
                      rfl
                     refine one_ (i := 0) (N := some 42) #[T,T,T,T,T,T,U,T,T,T,T,T,T,U,U] rfl rfl (one_of HT_.out (by kernel_rfl)) (by decide) (fun K hK => ?_)
                     refine Kd.R_lit_step k71 _ 71 ?hg (N := 42) ?hd (xs := ([] : List (S71))) (inner := []) (ok := fun _ => True) (okp := fun _ => True) ?hr ?hp (fun _ hk => hk) trivial (Below.refl _ _) (Nat.le_refl _) (by simp) ?_; (case hd => rfl); (case hg => rfl); (case hr => first | (go_simp; done) | (go_simp; rfl)); (case hp => exact (Reps.none _ _))
                     intro v377 w85 ho86 hb hg_ hnew_
                     have HS0_ := (hb.cell (World.block_lt_of_cell? _ _ (hHeld.1))).trans (hHeld.1)
                     have HS1_ := (hb.cell (World.block_lt_of_cell? _ _ (hHeld.2))).trans (hHeld.2)
                     clear hg_ hnew_
                     (first | rw [← Ny376.out] at ho86 | (simp only [Int.reduceToNat] at ho86; rw [← Ny376.out] at ho86))
                     replace HO_0 := ak (Kd.N_elder' (by (with_reducible repeat (first | apply Kd.N_alloc | apply Kd.N_drewN | apply Kd.N_drew)); exact HO_0.out) (Kd.R_base ho86) hb)
                     replace HL379_0 := ak (Kd.V_elder' (by (with_reducible repeat (first | apply Kd.V_alloc | apply Kd.V_drewN | apply Kd.V_drew)); exact HL379_0.out) (Kd.R_base ho86) hb)
                     replace HL383_0 := ak (Kd.V_elder' (by (with_reducible repeat (first | apply Kd.V_alloc | apply Kd.V_drewN | apply Kd.V_drew)); exact HL383_0.out) (Kd.R_base ho86) hb)
                     have HO378 := ak (Kd.R_lower (Kd.R_newM (M := fun k_ => (P0_ k_ ∨ w.heap.size ≤ k_)) ho86 (by first | exact HK.out.1 | exact (show Kept w _ (fun k_ => P0_ k_) from by repeat (first | (with_reducible first | exact HK.out | apply Kept.alloc | apply Kept.drewN | apply Kept.drew) | exact HK.out)).1) (fun k_ h_ => .inr h_)) (below_size (by exact hopb HB.out)))
                     replace HR379_0 := ak (Kd.C_below (by repeat (first | (with_reducible exact HR379_0.out) | (with_reducible refine Kd.C_alloc ?_ _) | (with_reducible refine Kd.C_drewN ?_ _) | (with_reducible refine Kd.C_drew ?_) | exact HR379_0.out)) hb)
                     replace HR383_0 := ak (Kd.C_below (by repeat (first | (with_reducible exact HR383_0.out) | (with_reducible refine Kd.C_alloc ?_ _) | (with_reducible refine Kd.C_drewN ?_ _) | (with_reducible refine Kd.C_drew ?_) | exact HR383_0.out)) hb)
                     replace HK := ak (Kept.below (S := (fun k_ => P0_ k_)) (by repeat (first | (with_reducible first | exact HK.out | apply Kept.alloc | apply Kept.drewN | apply Kept.drew) | exact HK.out)) hb)
                     replace HB := ak (below_step (by exact hopb HB.out) hb)
                     clear hb ho86
                     refine hK.out _ _ ⟨HS0_, HS1_⟩ (fun hHeld => ?_)
                     clear hK K
                     refine norm_ (a' := ?_) ?_ ?_
                     rotate_left
                     ·show Act.put _ (some 42) _ = _
                      simp only [Act.put, lT, lZ, lS, i64_w, i32_w]
                      rfl
                     refine one_ (i := 6) (N := some 48) #[T,T,T,T,T,T,T,T,T,T,T,T,T,U,U] rfl rfl (one_of HT_.out (by kernel_rfl)) (by decide) (fun K hK => ?_)
                     refine Kd.R_append_rows_step k71 (w0 := w0) w0.heap.size (by rfl) (.tmp 42) (.tmp 47) 32 71 (.agg #[(.string ⟨#[]⟩), (.int .i64 0)]) 24 rfl Try.underlying32 info71 rfl (by decide) (by omega) v377 y376 ((rd_T64 l0 x5_17).f0) _ _ _ (fun k_ => (P0_ k_ ∨ w.heap.size ≤ k_)) (fun _ => False) rfl rfl ?aO ?aR (fun _ _ h => h) (fun _ h => h.elim) ?aF ?aB ?aS ?aL ?_
                     (case aR => repeat (first | exact (by repeat (first | (with_reducible exact HR379_0.out) | (with_reducible refine Kd.C_alloc ?_ _) | (with_reducible refine Kd.C_drewN ?_ _) | (with_reducible refine Kd.C_drew ?_) | exact HR379_0.out)) | (with_reducible refine Kd.C_alloc ?_ _) | (with_reducible refine Kd.C_drewN ?_ _) | (with_reducible refine Kd.C_drew ?_)))
                     (case aB => exact (by exact hopb HB.out))
                     (case aF => exact (fun k_ hk => (.inr (Nat.le_trans (by first | exact HK.out.1 | exact (show Kept w _ (fun k_ => P0_ k_) from by repeat (first | (with_reducible first | exact HK.out | apply Kept.alloc | apply Kept.drewN | apply Kept.drew) | exact HK.out)).1) hk))))
                     (case aO => exact (by (with_reducible repeat (first | apply Kd.R_alloc | apply Kd.R_drewN | apply Kd.R_drew)); exact Kd.R_mono HO378.out (fun _ hk => hk.1)))
                     (case aS => exact (below_size (by exact hopb HB.out)))
                     (case aL => have := LMc23.out; omega)
                     intro v381 w87 ho hb hg hat
                     have HS0_ := cell_grown hg (hHeld.1) (by first | (rw [add_block]; exact (HO_0.out.1 _ rfl).2) | (show some (Addr.add _ _).block ≠ _; rw [add_block]; exact (HO_0.out.1 _ rfl).2) | exact (HO_0.out.1 _ rfl).2)
                     have HS1_ := cell_grown hg (hHeld.2) (by first | (rw [add_block]; exact (HO_0.out.1 _ rfl).2) | (show some (Addr.add _ _).block ≠ _; rw [add_block]; exact (HO_0.out.1 _ rfl).2) | exact (HO_0.out.1 _ rfl).2)
                     rw [← Ny380.out] at ho
                     replace HO_0 := ak (Kd.N_afterv (ok := (fun k_ => (P0_ k_ ∨ w.heap.size ≤ k_))) (by (with_reducible repeat (first | apply Kd.N_alloc | apply Kd.N_drewN | apply Kd.N_drew)); exact HO_0.out) hg hat)
                     replace HL379_0 := ak (Kd.V_afterv (ok := (fun k_ => (P0_ k_ ∨ w.heap.size ≤ k_) ∧ some k_ ≠ (.slice (some ad379) l0.length co19 : Value).ownBlock)) (by (with_reducible repeat (first | apply Kd.V_alloc | apply Kd.V_drewN | apply Kd.V_drew)); exact HL379_0.out) hg hat)
                     replace HL383_0 := ak (Kd.V_afterv (ok := (fun k_ => (P0_ k_ ∨ w.heap.size ≤ k_) ∧ some k_ ≠ (.slice (some ad379) l0.length co19 : Value).ownBlock)) (by (with_reducible repeat (first | apply Kd.V_alloc | apply Kd.V_drewN | apply Kd.V_drew)); exact HL383_0.out) hg hat)
                     replace HB := ak (hb)
                     replace HK := ak (Kept.of_grown (S := (fun k_ => P0_ k_)) hg (by repeat (first | (with_reducible first | exact HK.out | apply Kept.alloc | apply Kept.drewN | apply Kept.drew) | exact HK.out)) (fun k_ e_ => (HO378.out.1 k_ e_).1))
                     have HO382 := ak (ho)
                     clear HO378
                     clear ho hb hg hat
                     refine hK.out _ _ ⟨HS0_, HS1_⟩ (fun hHeld => ?_)
                     clear hK K
                     refine norm_ (a' := ?_) ?_ ?_
                     rotate_left
                     ·show Act.put _ (some 48) _ = _
                      simp only [Act.put, lT, lZ, lS, i64_w, i32_w]
                      rfl
                     refine one_ (i := 13) (N := some 55) #[T,T,T,T,T,T,T,T,T,T,T,T,T,T,U] rfl rfl (one_of HT_.out (by kernel_rfl)) (by decide) (fun K hK => ?_)
                     refine Kd.R_append_rows_step k71 (w0 := w0) w0.heap.size (by rfl) (.tmp 48) (.tmp 54) 32 71 (.agg #[(.string ⟨#[]⟩), (.int .i64 0)]) 24 rfl Try.underlying32 info71 rfl (by decide) (by omega) v381 y380 ((rd_T64 l0 (ji24)).f0) _ _ _ (fun k_ => (P0_ k_ ∨ w.heap.size ≤ k_)) (fun _ => False) rfl rfl ?aO ?aR (fun _ _ h => h) (fun _ h => h.elim) ?aF ?aB ?aS ?aL ?_
                     (case aR => repeat (first | exact ((Kd.V_reads' (by (with_reducible repeat (first | apply Kd.V_alloc | apply Kd.V_drewN | apply Kd.V_drew)); exact HL383_0.out)).2.2) | (with_reducible refine Kd.C_alloc ?_ _) | (with_reducible refine Kd.C_drewN ?_ _) | (with_reducible refine Kd.C_drew ?_)))
                     (case aB => exact (by exact hopb HB.out))
                     (case aF => exact (fun k_ hk => (.inr (Nat.le_trans (by first | exact HK.out.1 | exact (show Kept w _ (fun k_ => P0_ k_) from by repeat (first | (with_reducible first | exact HK.out | apply Kept.alloc | apply Kept.drewN | apply Kept.drew) | exact HK.out)).1) hk))))
                     (case aO => exact (by (with_reducible repeat (first | apply Kd.R_alloc | apply Kd.R_drewN | apply Kd.R_drew)); exact HO382.out))
                     (case aS => exact (below_size (by exact hopb HB.out)))
                     (case aL => have := LMc27.out; omega)
                     intro v385 w88 ho hb hg hat
                     have HS0_ := cell_grown hg (hHeld.1) (by first | (rw [add_block]; exact (HO_0.out.1 _ rfl).2) | (show some (Addr.add _ _).block ≠ _; rw [add_block]; exact (HO_0.out.1 _ rfl).2) | exact (HO_0.out.1 _ rfl).2)
                     have HS1_ := cell_grown hg (hHeld.2) (by first | (rw [add_block]; exact (HO_0.out.1 _ rfl).2) | (show some (Addr.add _ _).block ≠ _; rw [add_block]; exact (HO_0.out.1 _ rfl).2) | exact (HO_0.out.1 _ rfl).2)
                     rw [← Ny384.out] at ho
                     replace HO_0 := ak (Kd.N_afterv (ok := (fun k_ => (P0_ k_ ∨ w.heap.size ≤ k_))) (by (with_reducible repeat (first | apply Kd.N_alloc | apply Kd.N_drewN | apply Kd.N_drew)); exact HO_0.out) hg hat)
                     replace HL379_0 := ak (Kd.V_afterv (ok := (fun k_ => (P0_ k_ ∨ w.heap.size ≤ k_) ∧ some k_ ≠ (.slice (some ad379) l0.length co19 : Value).ownBlock)) (by (with_reducible repeat (first | apply Kd.V_alloc | apply Kd.V_drewN | apply Kd.V_drew)); exact HL379_0.out) hg hat)
                     replace HL383_0 := ak (Kd.V_afterv (ok := (fun k_ => (P0_ k_ ∨ w.heap.size ≤ k_) ∧ some k_ ≠ (.slice (some ad379) l0.length co19 : Value).ownBlock)) (by (with_reducible repeat (first | apply Kd.V_alloc | apply Kd.V_drewN | apply Kd.V_drew)); exact HL383_0.out) hg hat)
                     replace HB := ak (hb)
                     replace HK := ak (Kept.of_grown (S := (fun k_ => P0_ k_)) hg (by repeat (first | (with_reducible first | exact HK.out | apply Kept.alloc | apply Kept.drewN | apply Kept.drew) | exact HK.out)) (fun k_ e_ => (HO382.out.1 k_ e_)))
                     have HO386 := ak (ho)
                     clear HO382
                     clear ho hb hg hat
                     refine hK.out _ _ ⟨HS0_, HS1_⟩ (fun hHeld => ?_)
                     clear hK K
                     refine norm_ (a' := ?_) ?_ ?_
                     rotate_left
                     ·show Act.put _ (some 55) _ = _
                      simp only [Act.put, lT, lZ, lS, i64_w, i32_w]
                      rfl
                     refine pure_ (i := 14) (N := some 6) (v := ?_) (a' := ?_) #[T,T,T,T,T,T,T,T,T,T,T,T,T,T,T] rfl rfl (any_of HT_.out (by kernel_rfl)) (fun _ _ _ h => h) (Or.inl ⟨by rfl, ?_⟩) ?_ ?_
                     rotate_left
                     ·intro w'
                      go_simp
                      with_reducible rfl
                     rotate_left
                     ·simp only [Act.put, lT, lZ, lS, i64_w, i32_w]
                      rfl
                     refine done_ (done_of HT_.out (by kernel_rfl)) ?_
                     obtain ⟨Ao89, co89, eo89⟩ := Kd.R_slice HO386.out
                     subst eo89
                     try go_wp2_with (first | ((with_reducible refine gate_dst (N := 83) rfl ?_); (try (refine gate_guard (by rfl) ?_; dsimp only)); refine Kd.R_lit k71 _ 71 ?hg (N := 83) ?hd (xs := ([] : List (S71))) (inner := []) (ok := fun _ => True) (okp := fun _ => True) ?hr ?hp (fun _ hk => hk) trivial (Below.refl _ _) (Nat.le_refl _) (by simp) ?_; (case hd => rfl); (case hg => rfl); (case hr => first | (go_simp; done) | (go_simp; rfl)); (case hp => exact (Reps.none _ _)); intro v434 w90 ho91 hb hg_ hnew_; clear hg_ hnew_; (first | rw [← Ny433.out] at ho91 | (simp only [Int.reduceToNat] at ho91; rw [← Ny433.out] at ho91)); replace HO_0 := ak (Kd.N_elder' (by (with_reducible repeat (first | apply Kd.N_alloc | apply Kd.N_drewN | apply Kd.N_drew)); exact HO_0.out) (Kd.R_base ho91) hb); replace HL379_0 := ak (Kd.V_elder' (by (with_reducible repeat (first | apply Kd.V_alloc | apply Kd.V_drewN | apply Kd.V_drew)); exact HL379_0.out) (Kd.R_base ho91) hb); replace HL383_0 := ak (Kd.V_elder' (by (with_reducible repeat (first | apply Kd.V_alloc | apply Kd.V_drewN | apply Kd.V_drew)); exact HL383_0.out) (Kd.R_base ho91) hb); have HO435 := ak (Kd.R_lower (Kd.R_new' (Kd.R_newM (M := fun k_ => (P0_ k_ ∨ w.heap.size ≤ k_)) ho91 (by first | exact HK.out.1 | exact (show Kept w _ (fun k_ => P0_ k_) from by repeat (first | (with_reducible first | exact HK.out | apply Kept.alloc | apply Kept.drewN | apply Kept.drew) | exact HK.out)).1) (fun k_ h_ => .inr h_)) (Kd.R_lt (by (with_reducible repeat (first | apply Kd.R_alloc | apply Kd.R_drewN | apply Kd.R_drew)); exact HO386.out))) (below_size (by exact hopb HB.out))); replace HO386 := ak (Kd.R_elder' (by (with_reducible repeat (first | apply Kd.R_alloc | apply Kd.R_drewN | apply Kd.R_drew)); exact HO386.out) (Kd.R_base ho91) hb); replace HK := ak (Kept.below (S := (fun k_ => P0_ k_)) (by repeat (first | (with_reducible first | exact HK.out | apply Kept.alloc | apply Kept.drewN | apply Kept.drew) | exact HK.out)) hb); replace HB := ak (below_step (by exact hopb HB.out) hb); clear hb ho91; have q92 : ((ji75) : Int) ≤ ((y384.length : Int) : Int) := of_decide_eq_true (by assumption); obtain ⟨i092, hi092, _, hsz92, _⟩ := info_parts info71; have hroom92 : y384.length ≤ co89 := (Kd.R_reads' HO386.out).2.1; have hC92 : Kd.F k71 _ _ Ao89 y384.length y384 := (Kd.V_at (base := w0.heap.size) (Kd.R_V (Kd.R_apart' (HO386.out) (Kd.N_typed HO_0.out) (by decide)))).2.2; have hcut92 := cut_to (P := Try.prog) 32 71 .i64 Try.underlying32 hi092 Ao89 y384.length co89 (ji75) (of_decide_eq_true (by assumption)) q92 hroom92; have hr92 := Kd.F_take (m := ((ji75) : Int).toNat) hC92 (by omega); have hy92 : y436.length = ((ji75) : Int).toNat := (by rw [Ny436.out, List.length_take]; omega); rw [← Ny436.out] at hr92; rw [← hy92] at hcut92; have HO440 := ak (show Kd.V k71 71 _ w0.heap.size _ (.slice Ao89 y436.length co89) y436 from Kd.V_mk (by omega) hr92); have HC440 := ak (show y436.length ≤ co89 from by omega); clear hr92 hC92 hroom92 hi092 hsz92; have KY92 := ak hy92; clear hy92; replace q92 := eq_true q92) | ((with_reducible refine gate_builtin (b := .append) (xs := #[.tmp 83, .tmp 86]) rfl ?_); (try (refine gate_guard (by rfl) ?_; dsimp only)); at_builtin; refine Kd.R_append_rows k71 (w0 := w0) w0.heap.size rfl (.tmp 83) (.tmp 86) 32 71 (.agg #[(.string ⟨#[]⟩), (.int .i64 0)]) 24 rfl Try.underlying32 info71 rfl (by decide) (by omega) v434 y433 y436 _ _ _ (fun k_ => (P0_ k_ ∨ w.heap.size ≤ k_) ∧ some k_ ≠ (.slice Ao89 y384.length co89 : Value).ownBlock) (fun _ => False) rfl rfl ?aO ?aR (fun _ _ h => h) (fun _ h => h.elim) ?aF ?aB ?aS ?aL ?_; (case aR => repeat (first | exact (Kd.V_reads' HO440.out).2.2 | (with_reducible refine Kd.C_alloc ?_ _) | (with_reducible refine Kd.C_drewN ?_ _) | (with_reducible refine Kd.C_drew ?_))); (case aB => exact (by exact hopb HB.out)); (case aF => exact (fun k_ hk => ⟨(.inr (Nat.le_trans (by first | exact HK.out.1 | exact (show Kept w _ (fun k_ => P0_ k_) from by repeat (first | (with_reducible first | exact HK.out | apply Kept.alloc | apply Kept.drewN | apply Kept.drew) | exact HK.out)).1) hk)), Kd.fresh' (Kd.R_lt (by (with_reducible repeat (first | apply Kd.R_alloc | apply Kd.R_drewN | apply Kd.R_drew)); exact HO386.out)) k_ hk⟩)); (case aO => exact (by (with_reducible repeat (first | apply Kd.R_alloc | apply Kd.R_drewN | apply Kd.R_drew)); exact Kd.R_mono HO435.out (fun _ hk => ⟨hk.1.1, hk.2⟩))); (case aS => exact (below_size (by exact hopb HB.out))); (case aL => have := LMc78.out; omega); intro v442 w93 ho hb hg hat; rw [← Ny441.out] at ho; replace HO_0 := ak (Kd.N_afterv (ok := (fun k_ => (P0_ k_ ∨ w.heap.size ≤ k_) ∧ some k_ ≠ (.slice Ao89 y384.length co89 : Value).ownBlock)) (by (with_reducible repeat (first | apply Kd.N_alloc | apply Kd.N_drewN | apply Kd.N_drew)); exact HO_0.out) hg hat); replace HL379_0 := ak (Kd.V_afterv (ok := (fun k_ => (P0_ k_ ∨ w.heap.size ≤ k_) ∧ some k_ ≠ (.slice (some ad379) l0.length co19 : Value).ownBlock ∧ some k_ ≠ (.slice Ao89 y384.length co89 : Value).ownBlock)) (by (with_reducible repeat (first | apply Kd.V_alloc | apply Kd.V_drewN | apply Kd.V_drew)); exact Kd.V_mono HL379_0.out (fun _ hk => ⟨⟨hk.1.1.1, ⟨hk.1.1.2, hk.1.2⟩⟩, hk.2⟩)) hg hat); replace HL383_0 := ak (Kd.V_afterv (ok := (fun k_ => (P0_ k_ ∨ w.heap.size ≤ k_) ∧ some k_ ≠ (.slice (some ad379) l0.length co19 : Value).ownBlock ∧ some k_ ≠ (.slice Ao89 y384.length co89 : Value).ownBlock)) (by (with_reducible repeat (first | apply Kd.V_alloc | apply Kd.V_drewN | apply Kd.V_drew)); exact Kd.V_mono HL383_0.out (fun _ hk => ⟨⟨hk.1.1.1, ⟨hk.1.1.2, hk.1.2⟩⟩, hk.2⟩)) hg hat); replace HO386 := ak (Kd.R_after (ok := (fun k_ => (P0_ k_ ∨ w.heap.size ≤ k_))) (by (with_reducible repeat (first | apply Kd.R_alloc | apply Kd.R_drewN | apply Kd.R_drew)); exact HO386.out) hg hat); replace HO440 := ak (Kd.V_afterv (ok := (fun k_ => (P0_ k_ ∨ w.heap.size ≤ k_) ∧ some k_ ≠ (.slice (some ad379) l0.length co19 : Value).ownBlock)) (by (with_reducible repeat (first | apply Kd.V_alloc | apply Kd.V_drewN | apply Kd.V_drew)); exact Kd.V_mono HO440.out (fun _ hk => ⟨⟨hk.1.1, hk.2⟩, hk.1.2⟩)) hg hat); replace HB := ak (hb); replace HK := ak (Kept.of_grown (S := (fun k_ => P0_ k_)) hg (by repeat (first | (with_reducible first | exact HK.out | apply Kept.alloc | apply Kept.drewN | apply Kept.drew) | exact HK.out)) (fun k_ e_ => (HO435.out.1 k_ e_).1.1)); have HO443 := ak (ho); clear HO435; clear ho hb hg hat; have p79 : 0 ≤ (x5_17 : Int) := of_decide_eq_true (by assumption); have q79 : (x5_17 : Int) < ((l0.length : Int) : Int) := of_decide_eq_true (by assumption); obtain ⟨go79, co79, eo79, gb79, gl79, cl79, HG79⟩ := Kd.N_form HO_0.out (by omega); (first | cases eo79 | (injection eo79 with ea_ en_ ec_; (first | subst ea_ | (injection ea_ with ea_; subst ea_)); subst ec_; clear en_)); have GB79 := ak gb79; have GG79 := ak HG79; clear gb79 gl79 HG79; have HMgo79 := ak (show (P0_ go79 ∨ w.heap.size ≤ go79) from (HO_0.out.1 _ rfl).1.1); (first | simp only [add_plain] at hx379_0 | skip); (first | simp only [add_plain] at hx383_0 | skip); obtain ⟨ce79, hcl79, hM79, hcc79, hfr79⟩ := Kd.N_elem HO_0.out z64 (x5_17 : Int) p79 q79; obtain ⟨ua79_0, uc79_0, rfl, ul79_0, ge79_0⟩ := k64_openF hM79; have hx79_0 := hcc79 0 _ rfl; have hf79_0 := hfr79 0; (try simp only [show (k64).sz = 1 from rfl, Nat.mul_one, Nat.add_zero] at hx79_0); (try simp only [show (k64).sz = 1 from rfl, Nat.mul_one, Nat.add_zero] at hf79_0); clear hcl79 hcc79 hfr79 hM79; replace p79 := eq_true p79; replace q79 := eq_true q79; have n_ := ak (Kd.N_mono (ok' := (fun k_ => (P0_ k_ ∨ w.heap.size ≤ k_) ∧ some k_ ≠ (.slice Ao89 y384.length co89 : Value).ownBlock ∧ some k_ ≠ (v442 : Value).ownBlock)) HO_0.out (fun k_ hk => ⟨hk.1.1, ⟨hk.1.2, hk.2⟩⟩)); clear HO_0; have HO_0 := n_; clear n_; have HX94 := ak (show Kd.N k64 64 w93 w0.heap.size (fun k_ => (P0_ k_ ∨ w.heap.size ≤ k_) ∧ some k_ ≠ (.slice Ao89 y384.length co89 : Value).ownBlock) (.slice (some ⟨go79, 0, none⟩) l0.length co19) l0 from (by (with_reducible repeat (first | apply Kd.N_alloc | apply Kd.N_drewN | apply Kd.N_drew)); exact Kd.N_mono HO_0.out (fun _ hk => ⟨hk.1, hk.2.1⟩))); obtain ⟨ce94, hcl94, hM94, hcc94, hfr94⟩ := Kd.N_elem HX94.out z64 (x5_17 : Int) (of_decide_eq_true (by assumption)) (by have h_ : (x5_17 : Int) < ((l0.length : Int) : Int) := of_decide_eq_true (by assumption); first | exact h_ | (have e_ := (Kd.N_reads' HO_0.out).1; omega) | simpa using h_); obtain ⟨ua94_0, uc94_0, rfl, ul94_0, ge94_0⟩ := k64_openF hM94; have HP94 := Kd.N_seg HX94.out (x5_17 : Int) (of_decide_eq_true (by assumption)) (by have h_ : (x5_17 : Int) < ((l0.length : Int) : Int) := of_decide_eq_true (by assumption); first | exact h_ | (have e_ := (Kd.N_reads' HO_0.out).1; omega) | simpa using h_) (seg := [v442]) (j := 0) hcl94 hcc94 (show 1 ≤ 1 from by decide) (x' := (⟨y441⟩ : S64)) (by have hmk_ := Kd.R_mono (ok' := (fun k_ => ((fun k_ => (P0_ k_ ∨ w.heap.size ≤ k_) ∧ some k_ ≠ (.slice Ao89 y384.length co89 : Value).ownBlock)) k_ ∧ k_ ≠ go79)) (Kd.R_apart' (HO443.out) (Kd.N_typed HO_0.out) (by decide)) (fun k_ hk => ⟨⟨hk.1.1, hk.1.2⟩, fun e_ => (hk.2) (by rw [e_]; rfl)⟩); obtain ⟨Am_, cm_, em_⟩ := Kd.R_slice hmk_; rw [em_] at hmk_ ⊢; exact k64_mkF _ _ (⟨y441⟩ : S64) (Kd.R_reads' hmk_).2.1 (Kd.R_F hmk_)) (fun _ hk => hk); have hx94_0 := hcc94 0 _ rfl; (try simp only [show (k64).sz = 1 from rfl, Nat.mul_one, Nat.add_zero] at hx94_0); have hf94_0 := hfr94 0; (try simp only [show (k64).sz = 1 from rfl, Nat.mul_one, Nat.add_zero] at hf94_0); clear hcl94 hcc94 hfr94 hM94; (try simp only [show (k64).sz = 1 from rfl, Nat.mul_one, Nat.add_zero] at HP94); (try simp only [show (k64).sz = 1 from rfl, Nat.mul_one, Nat.add_zero] at HP94)) | ((with_reducible refine gate_store (t := 32) (p := 89) rfl ?_); refine store_event (t := 32) (p := 89) (v := ?vo_w95) (w1 := (w93.setCell ⟨go79, (x5_17 : Int).toNat, none⟩ (v442))) ?hg ?ho ?hn ?hr ?_; (case ho => rfl); (case hg => rfl); (case hn => rfl); (case hr => first | (go_simp; done) | (go_simp; rfl) | (obtain ⟨A_, c_, e_⟩ := Kd.R_slice (‹Aside0 (Kd.R _ _ _ _ _ v442 _)›).out; rw [e_]; first | (go_simp; done) | (go_simp; rfl)) | (have one_ : Value.oneCell' v442 = true := (by (first | obtain ⟨A_, c_, e_⟩ := Kd.R_slice (‹Aside0 (Kd.R _ _ _ _ _ v442 _)›).out | obtain ⟨A_, c_, e_⟩ := Kd.N_slice (‹Aside0 (Kd.N _ _ _ _ _ v442 _)›).out | obtain ⟨A_, c_, e_⟩ := Kd.S_slice (‹Aside0 (Kd.S _ _ _ _ _ v442 _)›).out); rw [e_]; rfl); have sto_ := fun (a_ : Addr) m_ (w_ : World) => run_store Try.prog w_ a_ v442 m_ one_; first | (go_simp; done) | (go_simp; rfl))); intro w95 hw; have hg : w93.grownBy w95 (some go79) := (by rw [hw]; exact HP94.2); have hp_ : Kd.N k64 64 w95 w0.heap.size (fun k_ => (P0_ k_ ∨ w.heap.size ≤ k_) ∧ some k_ ≠ (.slice Ao89 y384.length co89 : Value).ownBlock) (.slice (some ⟨go79, 0, none⟩) l0.length co19) y444 := (by rw [hw, Ny444.out]; exact HP94.1); clear HP94; replace HL379_0 := ak (Kd.V_afterv (v := (.slice (some ⟨go79, 0, none⟩) l0.length co19)) (v1 := (.slice (some ⟨go79, 0, none⟩) l0.length co19)) (ok := (fun k_ => (P0_ k_ ∨ w.heap.size ≤ k_) ∧ some k_ ≠ (.slice Ao89 y384.length co89 : Value).ownBlock ∧ some k_ ≠ (v442 : Value).ownBlock)) (by (with_reducible repeat (first | apply Kd.V_alloc | apply Kd.V_drewN | apply Kd.V_drew)); exact Kd.V_mono HL379_0.out (fun _ hk => ⟨⟨hk.1.1, ⟨hk.1.2.2, hk.2⟩⟩, hk.1.2.1⟩)) hg (.inl rfl)); replace HL383_0 := ak (Kd.V_afterv (v := (.slice (some ⟨go79, 0, none⟩) l0.length co19)) (v1 := (.slice (some ⟨go79, 0, none⟩) l0.length co19)) (ok := (fun k_ => (P0_ k_ ∨ w.heap.size ≤ k_) ∧ some k_ ≠ (.slice Ao89 y384.length co89 : Value).ownBlock ∧ some k_ ≠ (v442 : Value).ownBlock)) (by (with_reducible repeat (first | apply Kd.V_alloc | apply Kd.V_drewN | apply Kd.V_drew)); exact Kd.V_mono HL383_0.out (fun _ hk => ⟨⟨hk.1.1, ⟨hk.1.2.2, hk.2⟩⟩, hk.1.2.1⟩)) hg (.inl rfl)); replace HO386 := ak (Kd.R_over' (v := (.slice (some ⟨go79, 0, none⟩) l0.length co19)) (by (with_reducible repeat (first | apply Kd.R_alloc | apply Kd.R_drewN | apply Kd.R_drew)); exact HO386.out) (Kd.N_typed HO_0.out) (by decide) hg); replace HO440 := ak (Kd.V_afterv (v := (.slice (some ⟨go79, 0, none⟩) l0.length co19)) (v1 := (.slice (some ⟨go79, 0, none⟩) l0.length co19)) (ok := (fun k_ => (P0_ k_ ∨ w.heap.size ≤ k_) ∧ some k_ ≠ (v442 : Value).ownBlock)) (by (with_reducible repeat (first | apply Kd.V_alloc | apply Kd.V_drewN | apply Kd.V_drew)); exact Kd.V_mono HO440.out (fun _ hk => ⟨⟨hk.1.1, hk.2⟩, hk.1.2⟩)) hg (.inl rfl)); replace HB := ak ((by rw [hw]; exact below_set (HB.out) GB79.out : Below w0.heap.size w0 w95)); replace HK := ak (Kept.of_grown (S := (fun k_ => P0_ k_)) hg (by repeat (first | (with_reducible first | exact HK.out | apply Kept.alloc | apply Kept.drewN | apply Kept.drew) | exact HK.out)) (fun k_ e_ => (HO_0.out.1 k_ e_).1)); replace HO_0 := ak (hp_); clear HO443; clear hg hw hp_) | ((with_reducible refine gate_dst (N := 93) rfl ?_); (try (refine gate_guard (by rfl) ?_; dsimp only)); refine Kd.R_lit k71 _ 71 ?hg (N := 93) ?hd (xs := ([] : List (S71))) (inner := []) (ok := fun _ => True) (okp := fun _ => True) ?hr ?hp (fun _ hk => hk) trivial (Below.refl _ _) (Nat.le_refl _) (by simp) ?_; (case hd => rfl); (case hg => rfl); (case hr => first | (go_simp; done) | (go_simp; rfl)); (case hp => exact (Reps.none _ _)); intro v446 w96 ho97 hb hg_ hnew_; clear hg_ hnew_; (first | rw [← Ny445.out] at ho97 | (simp only [Int.reduceToNat] at ho97; rw [← Ny445.out] at ho97)); replace HO_0 := ak (Kd.N_elder' (by (with_reducible repeat (first | apply Kd.N_alloc | apply Kd.N_drewN | apply Kd.N_drew)); exact HO_0.out) (Kd.R_base ho97) hb); replace HL379_0 := ak (Kd.V_elder' (by (with_reducible repeat (first | apply Kd.V_alloc | apply Kd.V_drewN | apply Kd.V_drew)); exact HL379_0.out) (Kd.R_base ho97) hb); replace HL383_0 := ak (Kd.V_elder' (by (with_reducible repeat (first | apply Kd.V_alloc | apply Kd.V_drewN | apply Kd.V_drew)); exact HL383_0.out) (Kd.R_base ho97) hb); replace HO440 := ak (Kd.V_elder' (by (with_reducible repeat (first | apply Kd.V_alloc | apply Kd.V_drewN | apply Kd.V_drew)); exact HO440.out) (Kd.R_base ho97) hb); have HO447 := ak (Kd.R_lower (Kd.R_new' (Kd.R_newM (M := fun k_ => (P0_ k_ ∨ w.heap.size ≤ k_)) ho97 (by first | exact HK.out.1 | exact (show Kept w _ (fun k_ => P0_ k_) from by repeat (first | (with_reducible first | exact HK.out | apply Kept.alloc | apply Kept.drewN | apply Kept.drew) | exact HK.out)).1) (fun k_ h_ => .inr h_)) (Kd.R_lt (by (with_reducible repeat (first | apply Kd.R_alloc | apply Kd.R_drewN | apply Kd.R_drew)); exact HO386.out))) (below_size (by exact hopb HB.out))); replace HO386 := ak (Kd.R_elder' (by (with_reducible repeat (first | apply Kd.R_alloc | apply Kd.R_drewN | apply Kd.R_drew)); exact HO386.out) (Kd.R_base ho97) hb); replace HK := ak (Kept.below (S := (fun k_ => P0_ k_)) (by repeat (first | (with_reducible first | exact HK.out | apply Kept.alloc | apply Kept.drewN | apply Kept.drew) | exact HK.out)) hb); replace HB := ak (below_step (by exact hopb HB.out) hb); clear hb ho97; have q98 : ((ji75) : Int) ≤ ((y384.length : Int) : Int) := of_decide_eq_true (by assumption); obtain ⟨i098, hi098, _, hsz98, _⟩ := info_parts info71; have hroom98 : y384.length ≤ co89 := (Kd.R_reads' HO386.out).2.1; have hC98 : Kd.F k71 _ _ Ao89 y384.length y384 := (Kd.V_at (base := w0.heap.size) (Kd.R_V (Kd.R_apart' (HO386.out) (Kd.N_typed HO_0.out) (by decide)))).2.2; have q098 : (0 : Int) ≤ ((ji75) : Int) := of_decide_eq_true (by assumption); have hcut98 := cut_from (P := Try.prog) 32 71 .i64 Try.underlying32 hi098 2 hsz98 Ao89 y384.length co89 (ji75) q098 q98; have hr98 := Kd.F_cut (m := ((ji75) : Int).toNat) (c := co89) hC98 (by omega) hroom98; obtain ⟨A98, hA98⟩ : ∃ A1, A1 = (if co89 = ((ji75) : Int).toNat then Ao89 else (Ao89 : Option Addr).map (·.add (((ji75) : Int).toNat * 2))) := ⟨_, rfl⟩; obtain ⟨c98, hc98⟩ : ∃ c1, c1 = co89 - ((ji75) : Int).toNat := ⟨_, rfl⟩; have hy98 : y448.length = y384.length - ((ji75) : Int).toNat := (by rw [Ny448.out, List.length_drop] <;> omega); rw [show (y384).drop ((ji75) : Int).toNat = y448 from Ny448.out.symm] at hr98; replace hr98 : Kd.F k71 _ _ A98 y448.length y448 := (by rw [hA98]; exact hr98); rw [← hy98, ← hA98, ← hc98] at hcut98; have HO452 := ak (show Kd.V k71 71 _ w0.heap.size _ (.slice A98 y448.length c98) y448 from Kd.V_mk (by rw [hy98, hc98]; exact Nat.sub_le_sub_right hroom98 _) hr98); have HC452 := ak (show y448.length ≤ c98 from by rw [hy98, hc98]; exact Nat.sub_le_sub_right hroom98 _); clear hr98 hC98 hroom98 hi098 hsz98 hc98; have KY98 := ak hy98; have KA98 := ak hA98; clear hy98 hA98; replace q98 := eq_true q98) | ((with_reducible refine gate_builtin (b := .append) (xs := #[.tmp 93, .tmp 96]) rfl ?_); (try (refine gate_guard (by rfl) ?_; dsimp only)); at_builtin; refine Kd.R_append_rows k71 (w0 := w0) w0.heap.size rfl (.tmp 93) (.tmp 96) 32 71 (.agg #[(.string ⟨#[]⟩), (.int .i64 0)]) 24 rfl Try.underlying32 info71 rfl (by decide) (by omega) v446 y445 y448 _ _ _ (fun k_ => (P0_ k_ ∨ w.heap.size ≤ k_) ∧ some k_ ≠ (.slice Ao89 y384.length co89 : Value).ownBlock) (fun _ => False) rfl rfl ?aO ?aR (fun _ _ h => h) (fun _ h => h.elim) ?aF ?aB ?aS ?aL ?_; (case aR => repeat (first | exact (Kd.V_reads' HO452.out).2.2 | (with_reducible refine Kd.C_alloc ?_ _) | (with_reducible refine Kd.C_drewN ?_ _) | (with_reducible refine Kd.C_drew ?_))); (case aB => exact (by exact hopb HB.out)); (case aF => exact (fun k_ hk => ⟨(.inr (Nat.le_trans (by first | exact HK.out.1 | exact (show Kept w _ (fun k_ => P0_ k_) from by repeat (first | (with_reducible first | exact HK.out | apply Kept.alloc | apply Kept.drewN | apply Kept.drew) | exact HK.out)).1) hk)), Kd.fresh' (Kd.R_lt (by (with_reducible repeat (first | apply Kd.R_alloc | apply Kd.R_drewN | apply Kd.R_drew)); exact HO386.out)) k_ hk⟩)); (case aO => exact (by (with_reducible repeat (first | apply Kd.R_alloc | apply Kd.R_drewN | apply Kd.R_drew)); exact Kd.R_mono HO447.out (fun _ hk => ⟨hk.1.1, hk.2⟩))); (case aS => exact (below_size (by exact hopb HB.out))); (case aL => have := LMc82.out; omega); intro v454 w99 ho hb hg hat; rw [← Ny453.out] at ho; replace HO_0 := ak (Kd.N_afterv (ok := (fun k_ => (P0_ k_ ∨ w.heap.size ≤ k_) ∧ some k_ ≠ (.slice Ao89 y384.length co89 : Value).ownBlock)) (by (with_reducible repeat (first | apply Kd.N_alloc | apply Kd.N_drewN | apply Kd.N_drew)); exact HO_0.out) hg hat); replace HL379_0 := ak (Kd.V_afterv (ok := (fun k_ => (P0_ k_ ∨ w.heap.size ≤ k_) ∧ some k_ ≠ (.slice (some ⟨go79, 0, none⟩) l0.length co19 : Value).ownBlock ∧ some k_ ≠ (.slice Ao89 y384.length co89 : Value).ownBlock)) (by (with_reducible repeat (first | apply Kd.V_alloc | apply Kd.V_drewN | apply Kd.V_drew)); exact Kd.V_mono HL379_0.out (fun _ hk => ⟨⟨hk.1.1.1, ⟨hk.1.2, hk.1.1.2.1⟩⟩, hk.2⟩)) hg hat); replace HL383_0 := ak (Kd.V_afterv (ok := (fun k_ => (P0_ k_ ∨ w.heap.size ≤ k_) ∧ some k_ ≠ (.slice (some ⟨go79, 0, none⟩) l0.length co19 : Value).ownBlock ∧ some k_ ≠ (.slice Ao89 y384.length co89 : Value).ownBlock)) (by (with_reducible repeat (first | apply Kd.V_alloc | apply Kd.V_drewN | apply Kd.V_drew)); exact Kd.V_mono HL383_0.out (fun _ hk => ⟨⟨hk.1.1.1, ⟨hk.1.2, hk.1.1.2.1⟩⟩, hk.2⟩)) hg hat); replace HO386 := ak (Kd.R_after (ok := (fun k_ => (P0_ k_ ∨ w.heap.size ≤ k_))) (by (with_reducible repeat (first | apply Kd.R_alloc | apply Kd.R_drewN | apply Kd.R_drew)); exact Kd.R_mono HO386.out (fun _ hk => ⟨hk.1.1, hk.2⟩)) hg hat); replace HO440 := ak (Kd.V_afterv (ok := (fun k_ => (P0_ k_ ∨ w.heap.size ≤ k_) ∧ some k_ ≠ (.slice (some ⟨go79, 0, none⟩) l0.length co19 : Value).ownBlock)) (by (with_reducible repeat (first | apply Kd.V_alloc | apply Kd.V_drewN | apply Kd.V_drew)); exact Kd.V_mono HO440.out (fun _ hk => ⟨⟨hk.1.1.1, hk.1.2⟩, hk.2⟩)) hg hat); replace HO452 := ak (Kd.V_afterv (ok := (fun k_ => (P0_ k_ ∨ w.heap.size ≤ k_) ∧ some k_ ≠ (.slice (some ⟨go79, 0, none⟩) l0.length co19 : Value).ownBlock)) (by (with_reducible repeat (first | apply Kd.V_alloc | apply Kd.V_drewN | apply Kd.V_drew)); exact Kd.V_mono HO452.out (fun _ hk => ⟨⟨hk.1.1.1, hk.2⟩, hk.1.2⟩)) hg hat); replace HB := ak (hb); replace HK := ak (Kept.of_grown (S := (fun k_ => P0_ k_)) hg (by repeat (first | (with_reducible first | exact HK.out | apply Kept.alloc | apply Kept.drewN | apply Kept.drew) | exact HK.out)) (fun k_ e_ => (HO447.out.1 k_ e_).1.1)); have HO455 := ak (ho); clear HO447; clear ho hb hg hat; have p83 : 0 ≤ ((ji24) : Int) := of_decide_eq_true (by assumption); have q83 : ((ji24) : Int) < ((l0.length : Int) : Int) := of_decide_eq_true (by assumption); obtain ⟨ce83, hcl83, hM83, hcc83, hfr83⟩ := Kd.N_elem HO_0.out z64 ((ji24) : Int) p83 q83; obtain ⟨ua83_0, uc83_0, rfl, ul83_0, ge83_0⟩ := k64_openF hM83; have hx83_0 := hcc83 0 _ rfl; have hf83_0 := hfr83 0; (try simp only [show (k64).sz = 1 from rfl, Nat.mul_one, Nat.add_zero] at hx83_0); (try simp only [show (k64).sz = 1 from rfl, Nat.mul_one, Nat.add_zero] at hf83_0); clear hcl83 hcc83 hfr83 hM83; replace p83 := eq_true p83; replace q83 := eq_true q83; have n_ := ak (Kd.N_mono (ok' := (fun k_ => (P0_ k_ ∨ w.heap.size ≤ k_) ∧ some k_ ≠ (.slice Ao89 y384.length co89 : Value).ownBlock ∧ some k_ ≠ (v454 : Value).ownBlock)) HO_0.out (fun k_ hk => ⟨hk.1.1, ⟨hk.1.2, hk.2⟩⟩)); clear HO_0; have HO_0 := n_; clear n_; have HX100 := ak (show Kd.N k64 64 w99 w0.heap.size (fun k_ => (P0_ k_ ∨ w.heap.size ≤ k_) ∧ some k_ ≠ (.slice Ao89 y384.length co89 : Value).ownBlock) (.slice (some ⟨go79, 0, none⟩) l0.length co19) y444 from (by (with_reducible repeat (first | apply Kd.N_alloc | apply Kd.N_drewN | apply Kd.N_drew)); exact Kd.N_mono HO_0.out (fun _ hk => ⟨hk.1, hk.2.1⟩))); obtain ⟨ce100, hcl100, hM100, hcc100, hfr100⟩ := Kd.N_elem HX100.out z64 ((ji24) : Int) (of_decide_eq_true (by assumption)) (by have h_ : ((ji24) : Int) < ((l0.length : Int) : Int) := of_decide_eq_true (by assumption); first | exact h_ | (have e_ := (Kd.N_reads' HO_0.out).1; omega) | simpa using h_); obtain ⟨ua100_0, uc100_0, rfl, ul100_0, ge100_0⟩ := k64_openF hM100; have HP100 := Kd.N_seg HX100.out ((ji24) : Int) (of_decide_eq_true (by assumption)) (by have h_ : ((ji24) : Int) < ((l0.length : Int) : Int) := of_decide_eq_true (by assumption); first | exact h_ | (have e_ := (Kd.N_reads' HO_0.out).1; omega) | simpa using h_) (seg := [v454]) (j := 0) hcl100 hcc100 (show 1 ≤ 1 from by decide) (x' := (⟨y453⟩ : S64)) (by have hmk_ := Kd.R_mono (ok' := (fun k_ => ((fun k_ => (P0_ k_ ∨ w.heap.size ≤ k_) ∧ some k_ ≠ (.slice Ao89 y384.length co89 : Value).ownBlock)) k_ ∧ k_ ≠ go79)) (Kd.R_apart' (HO455.out) (Kd.N_typed HO_0.out) (by decide)) (fun k_ hk => ⟨⟨hk.1.1, hk.1.2⟩, fun e_ => (hk.2) (by rw [e_]; rfl)⟩); obtain ⟨Am_, cm_, em_⟩ := Kd.R_slice hmk_; rw [em_] at hmk_ ⊢; exact k64_mkF _ _ (⟨y453⟩ : S64) (Kd.R_reads' hmk_).2.1 (Kd.R_F hmk_)) (fun _ hk => hk); have hx100_0 := hcc100 0 _ rfl; (try simp only [show (k64).sz = 1 from rfl, Nat.mul_one, Nat.add_zero] at hx100_0); have hf100_0 := hfr100 0; (try simp only [show (k64).sz = 1 from rfl, Nat.mul_one, Nat.add_zero] at hf100_0); clear hcl100 hcc100 hfr100 hM100; (try simp only [show (k64).sz = 1 from rfl, Nat.mul_one, Nat.add_zero] at HP100); (try simp only [show (k64).sz = 1 from rfl, Nat.mul_one, Nat.add_zero] at HP100)) | ((with_reducible refine gate_store (t := 32) (p := 99) rfl ?_); refine store_event (t := 32) (p := 99) (v := ?vo_w101) (w1 := (w99.setCell ⟨go79, ((ji24) : Int).toNat, none⟩ (v454))) ?hg ?ho ?hn ?hr ?_; (case ho => rfl); (case hg => rfl); (case hn => rfl); (case hr => first | (go_simp; done) | (go_simp; rfl) | (obtain ⟨A_, c_, e_⟩ := Kd.R_slice (‹Aside0 (Kd.R _ _ _ _ _ v454 _)›).out; rw [e_]; first | (go_simp; done) | (go_simp; rfl)) | (have one_ : Value.oneCell' v454 = true := (by (first | obtain ⟨A_, c_, e_⟩ := Kd.R_slice (‹Aside0 (Kd.R _ _ _ _ _ v454 _)›).out | obtain ⟨A_, c_, e_⟩ := Kd.N_slice (‹Aside0 (Kd.N _ _ _ _ _ v454 _)›).out | obtain ⟨A_, c_, e_⟩ := Kd.S_slice (‹Aside0 (Kd.S _ _ _ _ _ v454 _)›).out); rw [e_]; rfl); have sto_ := fun (a_ : Addr) m_ (w_ : World) => run_store Try.prog w_ a_ v454 m_ one_; first | (go_simp; done) | (go_simp; rfl))); intro w101 hw; have hg : w99.grownBy w101 (some go79) := (by rw [hw]; exact HP100.2); have hp_ : Kd.N k64 64 w101 w0.heap.size (fun k_ => (P0_ k_ ∨ w.heap.size ≤ k_) ∧ some k_ ≠ (.slice Ao89 y384.length co89 : Value).ownBlock) (.slice (some ⟨go79, 0, none⟩) l0.length co19) y456 := (by rw [hw, Ny456.out]; exact HP100.1); clear HP100; replace HL379_0 := ak (Kd.V_afterv (v := (.slice (some ⟨go79, 0, none⟩) l0.length co19)) (v1 := (.slice (some ⟨go79, 0, none⟩) l0.length co19)) (ok := (fun k_ => (P0_ k_ ∨ w.heap.size ≤ k_) ∧ some k_ ≠ (.slice Ao89 y384.length co89 : Value).ownBlock ∧ some k_ ≠ (v454 : Value).ownBlock)) (by (with_reducible repeat (first | apply Kd.V_alloc | apply Kd.V_drewN | apply Kd.V_drew)); exact Kd.V_mono HL379_0.out (fun _ hk => ⟨⟨hk.1.1, ⟨hk.1.2.2, hk.2⟩⟩, hk.1.2.1⟩)) hg (.inl rfl)); replace HL383_0 := ak (Kd.V_afterv (v := (.slice (some ⟨go79, 0, none⟩) l0.length co19)) (v1 := (.slice (some ⟨go79, 0, none⟩) l0.length co19)) (ok := (fun k_ => (P0_ k_ ∨ w.heap.size ≤ k_) ∧ some k_ ≠ (.slice Ao89 y384.length co89 : Value).ownBlock ∧ some k_ ≠ (v454 : Value).ownBlock)) (by (with_reducible repeat (first | apply Kd.V_alloc | apply Kd.V_drewN | apply Kd.V_drew)); exact Kd.V_mono HL383_0.out (fun _ hk => ⟨⟨hk.1.1, ⟨hk.1.2.2, hk.2⟩⟩, hk.1.2.1⟩)) hg (.inl rfl)); replace HO386 := ak (Kd.R_over' (v := (.slice (some ⟨go79, 0, none⟩) l0.length co19)) (by (with_reducible repeat (first | apply Kd.R_alloc | apply Kd.R_drewN | apply Kd.R_drew)); exact HO386.out) (Kd.N_typed HO_0.out) (by decide) hg); replace HO440 := ak (Kd.V_afterv (v := (.slice (some ⟨go79, 0, none⟩) l0.length co19)) (v1 := (.slice (some ⟨go79, 0, none⟩) l0.length co19)) (ok := (fun k_ => (P0_ k_ ∨ w.heap.size ≤ k_) ∧ some k_ ≠ (v454 : Value).ownBlock)) (by (with_reducible repeat (first | apply Kd.V_alloc | apply Kd.V_drewN | apply Kd.V_drew)); exact Kd.V_mono HO440.out (fun _ hk => ⟨⟨hk.1.1, hk.2⟩, hk.1.2⟩)) hg (.inl rfl)); replace HO452 := ak (Kd.V_afterv (v := (.slice (some ⟨go79, 0, none⟩) l0.length co19)) (v1 := (.slice (some ⟨go79, 0, none⟩) l0.length co19)) (ok := (fun k_ => (P0_ k_ ∨ w.heap.size ≤ k_) ∧ some k_ ≠ (v454 : Value).ownBlock)) (by (with_reducible repeat (first | apply Kd.V_alloc | apply Kd.V_drewN | apply Kd.V_drew)); exact Kd.V_mono HO452.out (fun _ hk => ⟨⟨hk.1.1, hk.2⟩, hk.1.2⟩)) hg (.inl rfl)); replace HB := ak ((by rw [hw]; exact below_set (HB.out) GB79.out : Below w0.heap.size w0 w101)); replace HK := ak (Kept.of_grown (S := (fun k_ => P0_ k_)) hg (by repeat (first | (with_reducible first | exact HK.out | apply Kept.alloc | apply Kept.drewN | apply Kept.drew) | exact HK.out)) (fun k_ e_ => (HO_0.out.1 k_ e_).1)); replace HO_0 := ak (hp_); clear HO455; clear hg hw hp_))
                     go_ret
                     exact ⟨_, by first | rfl | (simp only [u8_w_, w64_u8_] <;> rfl) | (simp [errW_none, errW_some] <;> rfl) | (simp only [← hji24, ← hji75]; first | rfl | (simp [errW_none, errW_some] <;> rfl)) | (simp [*, errW_none, errW_some] <;> rfl), by (with_reducible repeat (first | apply Kd.N_alloc | apply Kd.N_drewN | apply Kd.N_drew)); exact Kd.N_mono HO_0.out (fun _ hk => hk.1), by repeat (first | (with_reducible first | exact HB.out | apply bA | apply bN | apply bD) | exact HB.out), by repeat (first | (with_reducible first | exact HK.out | apply Kept.alloc | apply Kept.drewN | apply Kept.drew) | exact HK.out)⟩
                    ·rw [if_neg c82] at H
                     exact absurd H (by simp)
                   ·rw [if_neg c78] at H
                    exact absurd H (by simp)
                  ·rw [if_neg c77] at H
                   exact absurd H (by simp)
                 ·rw [if_neg c76] at H
                  exact absurd H (by simp)
              ·rw [if_neg c27] at H
               exact absurd H (by simp)
             ·rw [if_neg c26] at H
              exact absurd H (by simp)
            ·rw [if_neg c25] at H
             exact absurd H (by simp)
           ·rw [if_neg c23] at H
            exact absurd H (by simp)
          ·rw [if_neg c22] at H
           exact absurd H (by simp)
         ·rw [if_neg c21] at H
          exact absurd H (by simp)

end Go.Proofs.Ytebgpbcbbjpbfaa.PFnPagesList
