-- Written for this claim by a program of this session (wip/myprint in the proofs' repo)
import Derived.Test.YtengnnhehjcfhaaPFnPagesPutx0
import Derived.Test.YtengnnhehjcfhaaWZip
-- slim4
namespace Go.Proofs.Ytengnnhehjcfhaa.PFnPagesPut
open Go.RowKit Go.Proofs.YtengnnhehjcfhaaW.PrintWords Go.Proofs.YtengnnhehjcfhaaW.PrintLast Go.Proofs.YtengnnhehjcfhaaW.PrintMore
attribute [local go_sem] max2_int min2_int max_two min_two max_three min_three max_four min_four max2_strs min2_strs   -- for this text's walks alone
set_option linter.unusedVariables false
set_option linter.unusedSimpArgs false

/-! ### spec_l6Mend: function 28 -/
mutual
def spec_l6Mend.j0 : Nat → List (S53) → Int → Bool → Option ((List (S53)))
 | 0, _, _, _ => none
 | k + 1, x0, x1, x19 => if x19 = true then (some (([] : List (S53)))) else (if (x0.length : Int) = 1 then (spec_l6Mend.j1 k x0 x1 true) else (if 0 ≤ x1 then (if x1 < (x0.length : Int) then (spec_l6Mend.j1 k x0 x1 (decide ((((rd_T53 x0 x1).f0).length : Int) ≥ 2))) else (none)) else (none)))
def spec_l6Mend.j1 : Nat → List (S53) → Int → Bool → Option ((List (S53)))
 | 0, _, _, _ => none
 | k + 1, x0, x1, x32 => if x32 = true then (some x0) else (if x1 = (wrap64 ((x0.length : Int) - 1)) then (spec_l6Mend.j2 k x0 x1 (wrap64 (x1 - 1))) else (spec_l6Mend.j2 k x0 x1 x1))
def spec_l6Mend.j2 : Nat → List (S53) → Int → Int → Option ((List (S53)))
 | 0, _, _, _ => none
 | k + 1, x0, x1, x5 => (some (([] : List (S65)) : List (S65))).bind fun y173 => (if 0 ≤ x5 then (if x5 < (x0.length : Int) then (if y173.length + ((rd_T53 x0 x5).f0).length < 5864062014805 then ((some (y173 ++ ((rd_T53 x0 x5).f0) : List (S65))).bind fun y177 => (if 0 ≤ (wrap64 (x5 + 1)) then (if (wrap64 (x5 + 1)) < (x0.length : Int) then (if y177.length + ((rd_T53 x0 (wrap64 (x5 + 1))).f0).length < 5864062014805 then ((some (y177 ++ ((rd_T53 x0 (wrap64 (x5 + 1))).f0) : List (S65))).bind fun y181 => (if (y181.length : Int) ≤ 4 then ((some (([] : List (S53)) : List (S53))).bind fun y184 => (if x5 ≤ (x0.length : Int) then ((some (x0.take (x5 : Int).toNat : List (S53))).bind fun y187 => (if y184.length + y187.length < 5864062014805 then ((some (y184 ++ y187 : List (S53))).bind fun y192 => (if y192.length < 5864062014805 then ((some (y192 ++ [(⟨y181⟩ : S53)] : List (S53))).bind fun y195 => (if 0 ≤ (wrap64 (x5 + 2)) then (if (wrap64 (x5 + 2)) ≤ (x0.length : Int) then ((some (x0.drop ((wrap64 (x5 + 2)) : Int).toNat : List (S53))).bind fun y198 => (if y195.length + y198.length < 5864062014805 then (some (y195 ++ y198)) else (none))) else (none)) else (none))) else (none))) else (none))) else (none))) else (if x5 = x1 then ((some (([] : List (S65)) : List (S65))).bind fun y206 => (if 2 ≤ (y181.length : Int) then ((some (y181.take 2 : List (S65))).bind fun y209 => (if y206.length + y209.length < 5864062014805 then ((some (([] : List (S65)) : List (S65))).bind fun y218 => ((some (y181.drop 2 : List (S65))).bind fun y221 => (if y218.length + y221.length < 5864062014805 then (some ((x0.set (x5 : Int).toNat (⟨(y206 ++ y209)⟩ : S53)).set ((wrap64 (x5 + 1)) : Int).toNat (⟨(y218 ++ y221)⟩ : S53))) else (none)))) else (none))) else (none))) else ((some (([] : List (S65)) : List (S65))).bind fun y230 => (if 0 ≤ (wrap64 ((y181.length : Int) - 2)) then (if (wrap64 ((y181.length : Int) - 2)) ≤ (y181.length : Int) then ((some (y181.take ((wrap64 ((y181.length : Int) - 2)) : Int).toNat : List (S65))).bind fun y233 => (if y230.length + y233.length < 5864062014805 then ((some (([] : List (S65)) : List (S65))).bind fun y242 => ((some (y181.drop ((wrap64 ((y181.length : Int) - 2)) : Int).toNat : List (S65))).bind fun y245 => (if y242.length + y245.length < 5864062014805 then (some ((x0.set (x5 : Int).toNat (⟨(y230 ++ y233)⟩ : S53)).set ((wrap64 (x5 + 1)) : Int).toNat (⟨(y242 ++ y245)⟩ : S53))) else (none)))) else (none))) else (none)) else (none)))))) else (none)) else (none)) else (none))) else (none)) else (none)) else (none))
end
def spec_l6Mend.f (k : Nat) (l0 : List (S53)) (a1 : Int) : Option ((List (S53))) := if (l0.length : Int) = 1 then (if 0 < (l0.length : Int) then (spec_l6Mend.j0 k l0 a1 ((((rd_T53 l0 0).f0).length : Int) == 0)) else (none)) else (spec_l6Mend.j0 k l0 a1 false)
theorem spec_l6Mend.mono_l : ∀ k, (∀ y0 y1 y2, LeO (spec_l6Mend.j0 k y0 y1 y2) (spec_l6Mend.j0 (k + 1) y0 y1 y2)) ∧ (∀ y0 y1 y2, LeO (spec_l6Mend.j1 k y0 y1 y2) (spec_l6Mend.j1 (k + 1) y0 y1 y2)) ∧ (∀ y0 y1 y2, LeO (spec_l6Mend.j2 k y0 y1 y2) (spec_l6Mend.j2 (k + 1) y0 y1 y2))
 | 0 => ⟨fun _ _ _ r h => by simp [spec_l6Mend.j0] at h, fun _ _ _ r h => by simp [spec_l6Mend.j1] at h, fun _ _ _ r h => by simp [spec_l6Mend.j2] at h⟩
 | k + 1 => by
  obtain ⟨ih0, ih1, ih2⟩ := spec_l6Mend.mono_l k
  refine ⟨?_, ?_, ?_⟩
  ·intro y0 y1 y2
   unfold spec_l6Mend.j0
   repeat' first
   | (with_reducible exact ih0 _ _ _)
   | (with_reducible exact ih1 _ _ _)
   | (with_reducible exact ih2 _ _ _)
   | (with_reducible exact LeO.refl _)
   | (with_reducible exact LeO.none _)
   | (with_reducible refine LeO.ite ?_ ?_)
   | (with_reducible refine LeO.bind ?_ (fun _ => ?_))
   | exact ih0 _ _ _
   | exact ih1 _ _ _
   | exact ih2 _ _ _
   | exact LeO.none _
   | refine LeO.ite ?_ ?_
   | refine LeO.bind ?_ (fun _ => ?_)
  ·intro y0 y1 y2
   unfold spec_l6Mend.j1
   repeat' first
   | (with_reducible exact ih0 _ _ _)
   | (with_reducible exact ih1 _ _ _)
   | (with_reducible exact ih2 _ _ _)
   | (with_reducible exact LeO.refl _)
   | (with_reducible exact LeO.none _)
   | (with_reducible refine LeO.ite ?_ ?_)
   | (with_reducible refine LeO.bind ?_ (fun _ => ?_))
   | exact ih0 _ _ _
   | exact ih1 _ _ _
   | exact ih2 _ _ _
   | exact LeO.none _
   | refine LeO.ite ?_ ?_
   | refine LeO.bind ?_ (fun _ => ?_)
  ·intro y0 y1 y2
   unfold spec_l6Mend.j2
   repeat' first
   | (with_reducible exact ih0 _ _ _)
   | (with_reducible exact ih1 _ _ _)
   | (with_reducible exact ih2 _ _ _)
   | (with_reducible exact LeO.refl _)
   | (with_reducible exact LeO.none _)
   | (with_reducible refine LeO.ite ?_ ?_)
   | (with_reducible refine LeO.bind ?_ (fun _ => ?_))
   | exact ih0 _ _ _
   | exact ih1 _ _ _
   | exact ih2 _ _ _
   | exact LeO.none _
   | refine LeO.ite ?_ ?_
   | refine LeO.bind ?_ (fun _ => ?_)
theorem spec_l6Mend.mono : ∀ a0 a1 k, LeO (spec_l6Mend.f k a0 a1) (spec_l6Mend.f (k + 1) a0 a1) := by
 intro a0 a1 k
 obtain ⟨ih0, ih1, ih2⟩ := spec_l6Mend.mono_l k
 unfold spec_l6Mend.f
 repeat' first
   | (with_reducible exact ih0 _ _ _)
   | (with_reducible exact ih1 _ _ _)
   | (with_reducible exact ih2 _ _ _)
   | (with_reducible exact LeO.refl _)
   | (with_reducible exact LeO.none _)
   | (with_reducible refine LeO.ite ?_ ?_)
   | (with_reducible refine LeO.bind ?_ (fun _ => ?_))
   | exact ih0 _ _ _
   | exact ih1 _ _ _
   | exact ih2 _ _ _
   | exact LeO.none _
   | refine LeO.ite ?_ ?_
   | refine LeO.bind ?_ (fun _ => ?_)
def spec_l6Mend.T8 : Bool × List (List Nat × List Nat) := (true, [([], []), ([], []), ([], []), ([1, 2], [1, 2]), ([3], [3]), ([4], [4]), ([0, 5], [0, 5]), ([], []), ([], []), ([8], [8]), ([7, 9], [7, 9]), ([10], [10]), ([11], [11]), ([6, 12, 6], [6, 12]), ([13, 13, 0, 1, 2, 3, 4, 5, 6, 7, 8, 9, 10, 11, 12, 13], [13])])
def spec_l6Mend.B8 : List Nat := [0, 0, 0, 6, 14, 30, 63, 0, 0, 256, 896, 1920, 3968, 8191, 16383]
theorem spec_l6Mend.tab8 : rtab .any (opsOf Try.f28 8) = spec_l6Mend.T8 := by kernel_rfl
theorem spec_l6Mend.bits8 : waitsOk spec_l6Mend.T8.2 spec_l6Mend.B8 = true := by kernel_rfl
set_option maxHeartbeats 8000000 in
set_option maxRecDepth 100000 in
theorem spec_l6Mend.calls (k : Nat) (P0_ : Nat → Prop) (u9000_ : Value) (l0 : List (S53)) (a1 : Int) (r : List (S53)) (w0 w : World) (hB : Below w0.heap.size w0 w) (ho0 : Kd.N k53 53 w w0.heap.size P0_ u9000_ l0) (h : spec_l6Mend.f k l0 a1 = some r) :
  Calls Try.prog 28 #[u9000_, .int .i64 a1] w fun e w' => ∃ v0_ : Value, e = .returned (v0_) ∧ Kd.N k53 53 w' w0.heap.size (fun k_ => (P0_ k_ ∨ w.heap.size ≤ k_)) v0_ r ∧ Below w0.heap.size w0 w' ∧ Kept w w' (fun k_ => P0_ k_) := by
 have hu53 := Try.underlying53
 have HO0 := ak (show Kd.N k53 53 w w0.heap.size (fun k_ => (P0_ k_ ∨ w.heap.size ≤ k_)) u9000_ l0 from Kd.N_mono ho0 (fun k_ hk => (.inl hk)))
 have HK := ak (Kept.refl w (fun k_ => P0_ k_))
 have HW0 := ak hB.size
 have HB := ak hB
 clear hB
 have H : (if (l0.length : Int) = 1 then (if 0 < (l0.length : Int) then (spec_l6Mend.j0 k l0 a1 ((((rd_T53 l0 0).f0).length : Int) == 0)) else (none)) else (spec_l6Mend.j0 k l0 a1 false)) = some r := h
 clear h
 have HC3 := ak H
 clear H
 go_enter Try.func28, Try.ntmps28
 go_upto_region 1 with (fail)
 go_cut [19] (fun v19 wc => ∃ (kq : Nat) (x19_2 : Bool), v19 = .bool x19_2 ∧ Aside0 (spec_l6Mend.j0 kq l0 a1 x19_2 = some r) ∧ Aside0 (kq ≤ k) ∧ Aside0 (Kd.N k53 53 wc w0.heap.size (fun k_ => (P0_ k_ ∨ w.heap.size ≤ k_)) u9000_ l0) ∧ Aside0 (Kept w wc (fun k_ => P0_ k_)) ∧ Aside0 (Below w0.heap.size w0 wc))
 case first =>
  have H := HC3.out
  clear HC3
  by_cases c4 : (l0.length : Int) = 1
  ·rw [if_pos c4] at H
   have c4b0 : ((l0.length : Int) == 1) = true := beq_iff_eq.mpr c4
   have c4b1 : ((l0.length : Int) != 1) = false := bne_eq_false_iff_eq.mpr c4
   clear c4
   (first | rw [c4b0] | (simp only [i64_w, i32_w]; rw [c4b0]) | skip)
   by_cases c5 : 0 < (l0.length : Int)
   ·rw [if_pos c5] at H
    have c5b0 : decide (0 < (l0.length : Int)) = true := decide_eq_true c5
    have c5b1 : decide (0 < l0.length) = true := decide_eq_true (by omega)
    clear c5
    have H' := ak H
    clear H
    obtain ⟨Ao6, co6, eo6⟩ := Kd.N_slice HO0.out
    subst eo6
    have p168 : 0 ≤ (0 : Int) := (by omega)
    have q168 : 0 < (l0.length : Int) := of_decide_eq_true (by assumption)
    obtain ⟨ad168, A168_0, c168_0, e168, hx168_0, hl168_0, hi168_0⟩ := at_T53 (Kd.N_reads' HO0.out).2.2 0 p168 q168
    cases e168
    obtain ⟨ce168, hce168, hMe168, hcc168⟩ := Kd.N_get HO0.out z53 0 p168 (by first | exact q168 | exact of_decide_eq_true (by assumption) | (have e_ := (Kd.N_reads' HO0.out).1; omega))
    obtain ⟨ua168_0, uc168_0, rfl, ul168_0, ge168_0⟩ := k53_openF hMe168
    have hv168_0 := hcc168 0 _ rfl
    rw [Nat.add_zero, show (k53).sz = 1 from rfl, Nat.mul_one] at hv168_0
    replace hv168_0 := Option.some.inj (hv168_0.symm.trans hx168_0)
    injection hv168_0 with hva_ hvn_ hvc_
    rw [hva_] at ge168_0
    rw [hvc_] at ul168_0
    have HL168_0 := ak (show Kd.V k65 65 _ w0.heap.size _ _ ((rd_T53 l0 0).f0) from Kd.V_mk ul168_0 ge168_0)
    clear hva_ hvn_ hvc_ ge168_0 ul168_0
    clear hcc168 hce168
    have qi168 : (0 < l0.length) = True := eq_true (by omega)
    (try rw [show ((0 : Int)).toNat = 0 from rfl] at hx168_0)
    (try rw [Addr.add_zero'] at hx168_0)
    have HR168_0 := ak hi168_0
    have HC168_0 := ak hl168_0
    clear hi168_0 hl168_0
    replace p168 := eq_true p168
    replace q168 := eq_true q168
    go_wp2
    go_meet
    case rel => exact ⟨_, (((((rd_T53 l0 0).f0).length : Int) == 0)), (by first | rfl | (simp [*]; done)), H', ⟨by first | omega | exact Nat.le_refl _⟩, ⟨by (with_reducible repeat (first | apply Kd.N_alloc | apply Kd.N_drewN | apply Kd.N_drew)); exact HO0.out⟩, ⟨by repeat (first | exact HK.out | apply Kept.alloc | apply Kept.drewN | apply Kept.drew)⟩, ⟨by exact hopb HB.out⟩⟩
   ·rw [if_neg c5] at H
    exact absurd H (by simp)
  ·rw [if_neg c4] at H
   have c4b0 : ((l0.length : Int) == 1) = false := beq_eq_false_iff_ne.mpr c4
   have c4b1 : ((l0.length : Int) != 1) = true := bne_iff_ne.mpr c4
   (first | rw [c4b0] | (simp only [i64_w, i32_w]; rw [c4b0]) | skip)
   have H' := ak H
   clear H
   obtain ⟨Ao7, co7, eo7⟩ := Kd.N_slice HO0.out
   subst eo7
   go_wp2
   go_meet
   case rel => exact ⟨_, (false), (by first | rfl | (simp [*]; done)), H', ⟨by first | omega | exact Nat.le_refl _⟩, ⟨by (with_reducible repeat (first | apply Kd.N_alloc | apply Kd.N_drewN | apply Kd.N_drew)); exact HO0.out⟩, ⟨by repeat (first | exact HK.out | apply Kept.alloc | apply Kept.drewN | apply Kept.drew)⟩, ⟨by exact hopb HB.out⟩⟩
 case rest =>
  clear HC3
  try clear c1
  try clear p1
  try clear q1
  try clear hx1
  try clear qi1
  try clear c2
  try clear p2
  try clear c4
  try clear c4b0
  try clear c4b1
  try clear c5
  try clear c5b0
  try clear c5b1
  try clear hx168_0
  try clear p168
  try clear q168
  obtain ⟨kq, x19_2, rfl, HA, HJ2, HO_0, HK, HB⟩ := hcut
  cases kq with
  | zero => exact absurd HA.out (by simp [spec_l6Mend.j0])
  | succ kj2 =>
   have H := HA.out
   clear HA
   simp only [spec_l6Mend.j0] at H
   by_cases c8 : x19_2 = true
   ·subst c8
    rw [if_pos rfl] at H
    obtain ⟨y169, hy169⟩ : ∃ y_ : List (S53), y_ = (([] : List (S53))) := ⟨_, rfl⟩
    replace H : (some y169) = some r := by first | (rw [hy169]; exact H) | exact H
    have Ny169 := ak hy169
    clear hy169
    obtain rfl := Option.some.inj H
    go_wp2_with (first | ((with_reducible refine gate_dst (N := 20) rfl ?_); (try (refine gate_guard (by rfl) ?_; dsimp only)); refine Kd.N_lit k53 _ 53 ?hg (N' := 20) ?hd (xs := ([] : List (S53))) (inner := []) (ok := (fun k_ => (P0_ k_ ∨ w.heap.size ≤ k_) ∧ some k_ ≠ (u9000_ : Value).ownBlock)) (okp := (fun k_ => (P0_ k_ ∨ w.heap.size ≤ k_) ∧ some k_ ≠ (u9000_ : Value).ownBlock)) ?hr ?hp (fun _ hk => hk) ((show ∀ k_, wc.heap.size ≤ k_ → (fun k_ => (P0_ k_ ∨ w.heap.size ≤ k_) ∧ some k_ ≠ (u9000_ : Value).ownBlock) k_ from fun k_ hk => ⟨(.inr (Nat.le_trans (by first | exact HK.out.1 | exact (show Kept w _ (fun k_ => P0_ k_) from by repeat (first | exact HK.out | apply Kept.alloc | apply Kept.drewN | apply Kept.drew)).1) hk)), Kd.fresh' (Kd.N_lt (hN HO_0.out)) k_ hk⟩) _ (Nat.le_refl _)) (Below.refl _ _) (Nat.le_refl _) (by simp) ?_; (case hd => rfl); (case hg => rfl); (case hr => go_simp <;> rfl); (case hp => exact (Reps.none _ _)); intro v170 w9 ho10 hb hg_ hnew_; clear hg_ hnew_; (first | rw [← Ny169.out] at ho10 | (simp only [Int.reduceToNat] at ho10; rw [← Ny169.out] at ho10)); replace HO_0 := ak (Kd.N_elder' (hN HO_0.out) (Kd.N_base ho10) hb); have HO171 := ak (Kd.N_lower ho10 (below_size (by exact hopb HB.out))); replace HK := ak (Kept.below (S := (fun k_ => P0_ k_)) (by repeat (first | exact HK.out | apply Kept.alloc | apply Kept.drewN | apply Kept.drew)) hb); replace HB := ak (below_step (by exact hopb HB.out) hb); clear hb ho10))
    go_ret
    exact ⟨_, by first | rfl | (simp [*, errW_none, errW_some] <;> rfl), by (with_reducible repeat (first | apply Kd.N_alloc | apply Kd.N_drewN | apply Kd.N_drew)); exact Kd.N_mono HO171.out (fun _ hk => hk.1), by exact hopb HB.out, by repeat (first | exact HK.out | apply Kept.alloc | apply Kept.drewN | apply Kept.drew)⟩
   ·replace c8 := Bool.eq_false_iff.mpr c8
    subst c8
    rw [if_neg (show ¬ (false = true) by decide)] at H
    have HC11 := ak H
    clear H
    go_upto_region 3 with (fail)
    go_cut [32] (fun v32 wc => ∃ (kq : Nat) (x32_10 : Bool), v32 = .bool x32_10 ∧ Aside0 (spec_l6Mend.j1 kq l0 a1 x32_10 = some r) ∧ Aside0 (kq ≤ kj2) ∧ Aside0 (Kd.N k53 53 wc w0.heap.size (fun k_ => (P0_ k_ ∨ w.heap.size ≤ k_)) u9000_ l0) ∧ Aside0 (Kept w wc (fun k_ => P0_ k_)) ∧ Aside0 (Below w0.heap.size w0 wc))
    case first =>
     have H := HC11.out
     clear HC11
     by_cases c12 : (l0.length : Int) = 1
     ·rw [if_pos c12] at H
      have c12b0 : ((l0.length : Int) == 1) = true := beq_iff_eq.mpr c12
      have c12b1 : ((l0.length : Int) != 1) = false := bne_eq_false_iff_eq.mpr c12
      clear c12
      (first | rw [c12b0] | (simp only [i64_w, i32_w]; rw [c12b0]) | skip)
      have H' := ak H
      clear H
      obtain ⟨Ao13, co13, eo13⟩ := Kd.N_slice HO_0.out
      subst eo13
      go_wp2
      go_meet
      case rel => exact ⟨_, (true), (by first | rfl | (simp [*]; done)), H', ⟨by have := HJ2.out; first | omega | exact Nat.le_refl _⟩, ⟨by (with_reducible repeat (first | apply Kd.N_alloc | apply Kd.N_drewN | apply Kd.N_drew)); exact HO_0.out⟩, ⟨by repeat (first | exact HK.out | apply Kept.alloc | apply Kept.drewN | apply Kept.drew)⟩, ⟨by exact hopb HB.out⟩⟩
     ·rw [if_neg c12] at H
      have c12b0 : ((l0.length : Int) == 1) = false := beq_eq_false_iff_ne.mpr c12
      have c12b1 : ((l0.length : Int) != 1) = true := bne_iff_ne.mpr c12
      (first | rw [c12b0] | (simp only [i64_w, i32_w]; rw [c12b0]) | skip)
      by_cases c14 : 0 ≤ a1
      ·rw [if_pos c14] at H
       have c14b0 : decide (0 ≤ a1) = true := decide_eq_true c14
       clear c14
       by_cases c15 : a1 < (l0.length : Int)
       ·rw [if_pos c15] at H
        have c15b0 : decide (a1 < (l0.length : Int)) = true := decide_eq_true c15
        clear c15
        have H' := ak H
        clear H
        obtain ⟨Ao16, co16, eo16⟩ := Kd.N_slice HO_0.out
        subst eo16
        have p172 : 0 ≤ (a1 : Int) := of_decide_eq_true (by assumption)
        have q172 : a1 < (l0.length : Int) := of_decide_eq_true (by assumption)
        obtain ⟨ad172, A172_0, c172_0, e172, hx172_0, hl172_0, hi172_0⟩ := at_T53 (Kd.N_reads' HO_0.out).2.2 a1 p172 q172
        cases e172
        obtain ⟨ce172, hce172, hMe172, hcc172⟩ := Kd.N_get HO_0.out z53 a1 p172 (by first | exact q172 | exact of_decide_eq_true (by assumption) | (have e_ := (Kd.N_reads' HO_0.out).1; omega))
        obtain ⟨ua172_0, uc172_0, rfl, ul172_0, ge172_0⟩ := k53_openF hMe172
        have hv172_0 := hcc172 0 _ rfl
        rw [Nat.add_zero, show (k53).sz = 1 from rfl, Nat.mul_one] at hv172_0
        replace hv172_0 := Option.some.inj (hv172_0.symm.trans hx172_0)
        injection hv172_0 with hva_ hvn_ hvc_
        rw [hva_] at ge172_0
        rw [hvc_] at ul172_0
        have HL172_0 := ak (show Kd.V k65 65 _ w0.heap.size _ _ ((rd_T53 l0 a1).f0) from Kd.V_mk ul172_0 ge172_0)
        clear hva_ hvn_ hvc_ ge172_0 ul172_0
        clear hcc172 hce172
        have HR172_0 := ak hi172_0
        have HC172_0 := ak hl172_0
        clear hi172_0 hl172_0
        replace p172 := eq_true p172
        replace q172 := eq_true q172
        go_wp2
        go_meet
        case rel => exact ⟨_, (decide ((((rd_T53 l0 a1).f0).length : Int) ≥ 2)), (by first | rfl | (simp [*]; done)), H', ⟨by have := HJ2.out; first | omega | exact Nat.le_refl _⟩, ⟨by (with_reducible repeat (first | apply Kd.N_alloc | apply Kd.N_drewN | apply Kd.N_drew)); exact HO_0.out⟩, ⟨by repeat (first | exact HK.out | apply Kept.alloc | apply Kept.drewN | apply Kept.drew)⟩, ⟨by exact hopb HB.out⟩⟩
       ·rw [if_neg c15] at H
        exact absurd H (by simp)
      ·rw [if_neg c14] at H
       exact absurd H (by simp)
    case rest =>
     clear HC11
     try clear c1
     try clear p1
     try clear q1
     try clear hx1
     try clear qi1
     try clear c2
     try clear p2
     try clear c4
     try clear c4b0
     try clear c4b1
     try clear c5
     try clear c5b0
     try clear c5b1
     try clear c8
     try clear c12
     try clear c12b0
     try clear c12b1
     try clear c14
     try clear c14b0
     try clear c15
     try clear c15b0
     try clear c16
     try clear p16
     try clear q16
     try clear hx16
     try clear qi16
     try clear hx168_0
     try clear hx172_0
     try clear p1
     try clear p168
     try clear p172
     try clear p2
     try clear q1
     try clear q168
     try clear q172
     obtain ⟨kq, x32_10, rfl, HA, HJ10, HO_0, HK, HB⟩ := hcut
     cases kq with
     | zero => exact absurd HA.out (by simp [spec_l6Mend.j1])
     | succ kj10 =>
      have H := HA.out
      clear HA
      simp only [spec_l6Mend.j1] at H
      by_cases c17 : x32_10 = true
      ·subst c17
       rw [if_pos rfl] at H
       obtain rfl := Option.some.inj H
       go_wp2
       go_ret
       exact ⟨_, by first | rfl | (simp [*, errW_none, errW_some] <;> rfl), by (with_reducible repeat (first | apply Kd.N_alloc | apply Kd.N_drewN | apply Kd.N_drew)); exact HO_0.out, by exact hopb HB.out, by repeat (first | exact HK.out | apply Kept.alloc | apply Kept.drewN | apply Kept.drew)⟩
      ·replace c17 := Bool.eq_false_iff.mpr c17
       subst c17
       rw [if_neg (show ¬ (false = true) by decide)] at H
       have HC18 := ak H
       clear H
       obtain ⟨Ao19, co19, eo19⟩ := Kd.N_slice HO_0.out
       subst eo19
       go_upto_if 39 with (fail)
       go_cut [5] (fun v5 wc => ∃ (kq : Nat) (x5_17 : Int), v5 = .int .i64 x5_17 ∧ Aside0 (spec_l6Mend.j2 kq l0 a1 x5_17 = some r) ∧ Aside0 (kq ≤ kj10) ∧ Aside0 (Kd.N k53 53 wc w0.heap.size (fun k_ => (P0_ k_ ∨ w.heap.size ≤ k_)) (.slice Ao19 l0.length co19) l0) ∧ Aside0 (Kept w wc (fun k_ => P0_ k_)) ∧ Aside0 (Below w0.heap.size w0 wc))
       case first =>
        have H := HC18.out
        clear HC18
        by_cases c20 : a1 = (wrap64 ((l0.length : Int) - 1))
        ·rw [if_pos c20] at H
         have c20b0 : (a1 == (wrap64 ((l0.length : Int) - 1))) = true := beq_iff_eq.mpr c20
         have c20b1 : (a1 != (wrap64 ((l0.length : Int) - 1))) = false := bne_eq_false_iff_eq.mpr c20
         clear c20
         (first | rw [c20b0] | (simp only [i64_w, i32_w]; rw [c20b0]) | skip)
         have H' := ak H
         clear H
         go_wp2
         go_meet
         case rel => exact ⟨_, (wrap64 (a1 - 1)), (by first | rfl | (simp [*]; done)), H', ⟨by have := HJ2.out; have := HJ10.out; first | omega | exact Nat.le_refl _⟩, ⟨by (with_reducible repeat (first | apply Kd.N_alloc | apply Kd.N_drewN | apply Kd.N_drew)); exact HO_0.out⟩, ⟨by repeat (first | exact HK.out | apply Kept.alloc | apply Kept.drewN | apply Kept.drew)⟩, ⟨by exact hopb HB.out⟩⟩
        ·rw [if_neg c20] at H
         have c20b0 : (a1 == (wrap64 ((l0.length : Int) - 1))) = false := beq_eq_false_iff_ne.mpr c20
         have c20b1 : (a1 != (wrap64 ((l0.length : Int) - 1))) = true := bne_iff_ne.mpr c20
         (first | rw [c20b0] | (simp only [i64_w, i32_w]; rw [c20b0]) | skip)
         have H' := ak H
         clear H
         go_wp2
         go_meet
         case rel => exact ⟨_, (a1), (by first | rfl | (simp [*]; done)), H', ⟨by have := HJ2.out; have := HJ10.out; first | omega | exact Nat.le_refl _⟩, ⟨by (with_reducible repeat (first | apply Kd.N_alloc | apply Kd.N_drewN | apply Kd.N_drew)); exact HO_0.out⟩, ⟨by repeat (first | exact HK.out | apply Kept.alloc | apply Kept.drewN | apply Kept.drew)⟩, ⟨by exact hopb HB.out⟩⟩
       case rest =>
        clear HC18
        try clear c1
        try clear p1
        try clear q1
        try clear hx1
        try clear qi1
        try clear c2
        try clear p2
        try clear c4
        try clear c4b0
        try clear c4b1
        try clear c5
        try clear c5b0
        try clear c5b1
        try clear p6
        try clear c8
        try clear c12
        try clear c12b0
        try clear c12b1
        try clear c14
        try clear c14b0
        try clear c15
        try clear c15b0
        try clear c16
        try clear p16
        try clear q16
        try clear hx16
        try clear qi16
        try clear c17
        try clear p17
        try clear q17
        try clear hx17
        try clear c20
        try clear c20b0
        try clear c20b1
        try clear hx168_0
        try clear hx172_0
        try clear p1
        try clear p16
        try clear p168
        try clear p172
        try clear p2
        try clear q1
        try clear q16
        try clear q168
        try clear q172
        obtain ⟨kq, x5_17, rfl, HA, HJ17, HO_0, HK, HB⟩ := hcut
        cases kq with
        | zero => exact absurd HA.out (by simp [spec_l6Mend.j2])
        | succ kj17 =>
         have H := HA.out
         clear HA
         simp only [spec_l6Mend.j2] at H
         obtain ⟨y173, hy173⟩ : ∃ y_ : List (S65), y_ = (([] : List (S65))) := ⟨_, rfl⟩
         replace H : (if 0 ≤ x5_17 then (if x5_17 < (l0.length : Int) then (if y173.length + ((rd_T53 l0 x5_17).f0).length < 5864062014805 then ((some (y173 ++ ((rd_T53 l0 x5_17).f0) : List (S65))).bind fun y177 => (if 0 ≤ (wrap64 (x5_17 + 1)) then (if (wrap64 (x5_17 + 1)) < (l0.length : Int) then (if y177.length + ((rd_T53 l0 (wrap64 (x5_17 + 1))).f0).length < 5864062014805 then ((some (y177 ++ ((rd_T53 l0 (wrap64 (x5_17 + 1))).f0) : List (S65))).bind fun y181 => (if (y181.length : Int) ≤ 4 then ((some (([] : List (S53)) : List (S53))).bind fun y184 => (if x5_17 ≤ (l0.length : Int) then ((some (l0.take (x5_17 : Int).toNat : List (S53))).bind fun y187 => (if y184.length + y187.length < 5864062014805 then ((some (y184 ++ y187 : List (S53))).bind fun y192 => (if y192.length < 5864062014805 then ((some (y192 ++ [(⟨y181⟩ : S53)] : List (S53))).bind fun y195 => (if 0 ≤ (wrap64 (x5_17 + 2)) then (if (wrap64 (x5_17 + 2)) ≤ (l0.length : Int) then ((some (l0.drop ((wrap64 (x5_17 + 2)) : Int).toNat : List (S53))).bind fun y198 => (if y195.length + y198.length < 5864062014805 then (some (y195 ++ y198)) else (none))) else (none)) else (none))) else (none))) else (none))) else (none))) else (if x5_17 = a1 then ((some (([] : List (S65)) : List (S65))).bind fun y206 => (if 2 ≤ (y181.length : Int) then ((some (y181.take 2 : List (S65))).bind fun y209 => (if y206.length + y209.length < 5864062014805 then ((some (([] : List (S65)) : List (S65))).bind fun y218 => ((some (y181.drop 2 : List (S65))).bind fun y221 => (if y218.length + y221.length < 5864062014805 then (some ((l0.set (x5_17 : Int).toNat (⟨(y206 ++ y209)⟩ : S53)).set ((wrap64 (x5_17 + 1)) : Int).toNat (⟨(y218 ++ y221)⟩ : S53))) else (none)))) else (none))) else (none))) else ((some (([] : List (S65)) : List (S65))).bind fun y230 => (if 0 ≤ (wrap64 ((y181.length : Int) - 2)) then (if (wrap64 ((y181.length : Int) - 2)) ≤ (y181.length : Int) then ((some (y181.take ((wrap64 ((y181.length : Int) - 2)) : Int).toNat : List (S65))).bind fun y233 => (if y230.length + y233.length < 5864062014805 then ((some (([] : List (S65)) : List (S65))).bind fun y242 => ((some (y181.drop ((wrap64 ((y181.length : Int) - 2)) : Int).toNat : List (S65))).bind fun y245 => (if y242.length + y245.length < 5864062014805 then (some ((l0.set (x5_17 : Int).toNat (⟨(y230 ++ y233)⟩ : S53)).set ((wrap64 (x5_17 + 1)) : Int).toNat (⟨(y242 ++ y245)⟩ : S53))) else (none)))) else (none))) else (none)) else (none)))))) else (none)) else (none)) else (none))) else (none)) else (none)) else (none)) = some r := by first | (rw [hy173]; exact H) | exact H
         have Ny173 := ak hy173
         clear hy173
         by_cases c21 : 0 ≤ x5_17
         ·rw [if_pos c21] at H
          have c21b0 : decide (0 ≤ x5_17) = true := decide_eq_true c21
          clear c21
          by_cases c22 : x5_17 < (l0.length : Int)
          ·rw [if_pos c22] at H
           have c22b0 : decide (x5_17 < (l0.length : Int)) = true := decide_eq_true c22
           clear c22
           by_cases c23 : y173.length + ((rd_T53 l0 x5_17).f0).length < 5864062014805
           ·rw [if_pos c23] at H
            have LMc23 := ak c23
            clear c23
            obtain ⟨y177, hy177⟩ : ∃ y_ : List (S65), y_ = (y173 ++ ((rd_T53 l0 x5_17).f0)) := ⟨_, rfl⟩
            replace H : (if 0 ≤ (wrap64 (x5_17 + 1)) then (if (wrap64 (x5_17 + 1)) < (l0.length : Int) then (if y177.length + ((rd_T53 l0 (wrap64 (x5_17 + 1))).f0).length < 5864062014805 then ((some (y177 ++ ((rd_T53 l0 (wrap64 (x5_17 + 1))).f0) : List (S65))).bind fun y181 => (if (y181.length : Int) ≤ 4 then ((some (([] : List (S53)) : List (S53))).bind fun y184 => (if x5_17 ≤ (l0.length : Int) then ((some (l0.take (x5_17 : Int).toNat : List (S53))).bind fun y187 => (if y184.length + y187.length < 5864062014805 then ((some (y184 ++ y187 : List (S53))).bind fun y192 => (if y192.length < 5864062014805 then ((some (y192 ++ [(⟨y181⟩ : S53)] : List (S53))).bind fun y195 => (if 0 ≤ (wrap64 (x5_17 + 2)) then (if (wrap64 (x5_17 + 2)) ≤ (l0.length : Int) then ((some (l0.drop ((wrap64 (x5_17 + 2)) : Int).toNat : List (S53))).bind fun y198 => (if y195.length + y198.length < 5864062014805 then (some (y195 ++ y198)) else (none))) else (none)) else (none))) else (none))) else (none))) else (none))) else (if x5_17 = a1 then ((some (([] : List (S65)) : List (S65))).bind fun y206 => (if 2 ≤ (y181.length : Int) then ((some (y181.take 2 : List (S65))).bind fun y209 => (if y206.length + y209.length < 5864062014805 then ((some (([] : List (S65)) : List (S65))).bind fun y218 => ((some (y181.drop 2 : List (S65))).bind fun y221 => (if y218.length + y221.length < 5864062014805 then (some ((l0.set (x5_17 : Int).toNat (⟨(y206 ++ y209)⟩ : S53)).set ((wrap64 (x5_17 + 1)) : Int).toNat (⟨(y218 ++ y221)⟩ : S53))) else (none)))) else (none))) else (none))) else ((some (([] : List (S65)) : List (S65))).bind fun y230 => (if 0 ≤ (wrap64 ((y181.length : Int) - 2)) then (if (wrap64 ((y181.length : Int) - 2)) ≤ (y181.length : Int) then ((some (y181.take ((wrap64 ((y181.length : Int) - 2)) : Int).toNat : List (S65))).bind fun y233 => (if y230.length + y233.length < 5864062014805 then ((some (([] : List (S65)) : List (S65))).bind fun y242 => ((some (y181.drop ((wrap64 ((y181.length : Int) - 2)) : Int).toNat : List (S65))).bind fun y245 => (if y242.length + y245.length < 5864062014805 then (some ((l0.set (x5_17 : Int).toNat (⟨(y230 ++ y233)⟩ : S53)).set ((wrap64 (x5_17 + 1)) : Int).toNat (⟨(y242 ++ y245)⟩ : S53))) else (none)))) else (none))) else (none)) else (none)))))) else (none)) else (none)) else (none)) = some r := by first | (rw [hy177]; exact H) | exact H
            have Ny177 := ak hy177
            clear hy177
            obtain ⟨ji24, hji24⟩ : ∃ j_ : Int, (wrap64 (x5_17 + 1)) = j_ := ⟨_, rfl⟩
            replace H : (if 0 ≤ (ji24) then (if (ji24) < (l0.length : Int) then (if y177.length + ((rd_T53 l0 (ji24)).f0).length < 5864062014805 then ((some (y177 ++ ((rd_T53 l0 (ji24)).f0) : List (S65))).bind fun y181 => (if (y181.length : Int) ≤ 4 then ((some (([] : List (S53)) : List (S53))).bind fun y184 => (if x5_17 ≤ (l0.length : Int) then ((some (l0.take (x5_17 : Int).toNat : List (S53))).bind fun y187 => (if y184.length + y187.length < 5864062014805 then ((some (y184 ++ y187 : List (S53))).bind fun y192 => (if y192.length < 5864062014805 then ((some (y192 ++ [(⟨y181⟩ : S53)] : List (S53))).bind fun y195 => (if 0 ≤ (wrap64 (x5_17 + 2)) then (if (wrap64 (x5_17 + 2)) ≤ (l0.length : Int) then ((some (l0.drop ((wrap64 (x5_17 + 2)) : Int).toNat : List (S53))).bind fun y198 => (if y195.length + y198.length < 5864062014805 then (some (y195 ++ y198)) else (none))) else (none)) else (none))) else (none))) else (none))) else (none))) else (if x5_17 = a1 then ((some (([] : List (S65)) : List (S65))).bind fun y206 => (if 2 ≤ (y181.length : Int) then ((some (y181.take 2 : List (S65))).bind fun y209 => (if y206.length + y209.length < 5864062014805 then ((some (([] : List (S65)) : List (S65))).bind fun y218 => ((some (y181.drop 2 : List (S65))).bind fun y221 => (if y218.length + y221.length < 5864062014805 then (some ((l0.set (x5_17 : Int).toNat (⟨(y206 ++ y209)⟩ : S53)).set ((ji24) : Int).toNat (⟨(y218 ++ y221)⟩ : S53))) else (none)))) else (none))) else (none))) else ((some (([] : List (S65)) : List (S65))).bind fun y230 => (if 0 ≤ (wrap64 ((y181.length : Int) - 2)) then (if (wrap64 ((y181.length : Int) - 2)) ≤ (y181.length : Int) then ((some (y181.take ((wrap64 ((y181.length : Int) - 2)) : Int).toNat : List (S65))).bind fun y233 => (if y230.length + y233.length < 5864062014805 then ((some (([] : List (S65)) : List (S65))).bind fun y242 => ((some (y181.drop ((wrap64 ((y181.length : Int) - 2)) : Int).toNat : List (S65))).bind fun y245 => (if y242.length + y245.length < 5864062014805 then (some ((l0.set (x5_17 : Int).toNat (⟨(y230 ++ y233)⟩ : S53)).set ((ji24) : Int).toNat (⟨(y242 ++ y245)⟩ : S53))) else (none)))) else (none))) else (none)) else (none)))))) else (none)) else (none)) else (none)) = some r := by first | (rw [hji24] at H; exact H) | (simp only [hji24] at H ⊢; exact H)
            have hji24w : (IntKind.i64.wrap (x5_17 + 1)) = ji24 := (i64_w _).trans hji24
            by_cases c25 : 0 ≤ (ji24)
            ·rw [if_pos c25] at H
             have c25b0 : decide (0 ≤ (ji24)) = true := decide_eq_true c25
             clear c25
             by_cases c26 : (ji24) < (l0.length : Int)
             ·rw [if_pos c26] at H
              have c26b0 : decide ((ji24) < (l0.length : Int)) = true := decide_eq_true c26
              clear c26
              by_cases c27 : y177.length + ((rd_T53 l0 (ji24)).f0).length < 5864062014805
              ·rw [if_pos c27] at H
               have LMc27 := ak c27
               clear c27
               obtain ⟨y181, hy181⟩ : ∃ y_ : List (S65), y_ = (y177 ++ ((rd_T53 l0 (ji24)).f0)) := ⟨_, rfl⟩
               replace H : (if (y181.length : Int) ≤ 4 then ((some (([] : List (S53)) : List (S53))).bind fun y184 => (if x5_17 ≤ (l0.length : Int) then ((some (l0.take (x5_17 : Int).toNat : List (S53))).bind fun y187 => (if y184.length + y187.length < 5864062014805 then ((some (y184 ++ y187 : List (S53))).bind fun y192 => (if y192.length < 5864062014805 then ((some (y192 ++ [(⟨y181⟩ : S53)] : List (S53))).bind fun y195 => (if 0 ≤ (wrap64 (x5_17 + 2)) then (if (wrap64 (x5_17 + 2)) ≤ (l0.length : Int) then ((some (l0.drop ((wrap64 (x5_17 + 2)) : Int).toNat : List (S53))).bind fun y198 => (if y195.length + y198.length < 5864062014805 then (some (y195 ++ y198)) else (none))) else (none)) else (none))) else (none))) else (none))) else (none))) else (if x5_17 = a1 then ((some (([] : List (S65)) : List (S65))).bind fun y206 => (if 2 ≤ (y181.length : Int) then ((some (y181.take 2 : List (S65))).bind fun y209 => (if y206.length + y209.length < 5864062014805 then ((some (([] : List (S65)) : List (S65))).bind fun y218 => ((some (y181.drop 2 : List (S65))).bind fun y221 => (if y218.length + y221.length < 5864062014805 then (some ((l0.set (x5_17 : Int).toNat (⟨(y206 ++ y209)⟩ : S53)).set ((ji24) : Int).toNat (⟨(y218 ++ y221)⟩ : S53))) else (none)))) else (none))) else (none))) else ((some (([] : List (S65)) : List (S65))).bind fun y230 => (if 0 ≤ (wrap64 ((y181.length : Int) - 2)) then (if (wrap64 ((y181.length : Int) - 2)) ≤ (y181.length : Int) then ((some (y181.take ((wrap64 ((y181.length : Int) - 2)) : Int).toNat : List (S65))).bind fun y233 => (if y230.length + y233.length < 5864062014805 then ((some (([] : List (S65)) : List (S65))).bind fun y242 => ((some (y181.drop ((wrap64 ((y181.length : Int) - 2)) : Int).toNat : List (S65))).bind fun y245 => (if y242.length + y245.length < 5864062014805 then (some ((l0.set (x5_17 : Int).toNat (⟨(y230 ++ y233)⟩ : S53)).set ((ji24) : Int).toNat (⟨(y242 ++ y245)⟩ : S53))) else (none)))) else (none))) else (none)) else (none))))) = some r := by first | (rw [hy181]; exact H) | exact H
               have Ny181 := ak hy181
               clear hy181
               by_cases c28 : (y181.length : Int) ≤ 4
               ·rw [if_pos c28] at H
                have c28b0 : decide ((y181.length : Int) ≤ 4) = true := decide_eq_true c28
                have c28b1 : decide (y181.length ≤ 4) = true := decide_eq_true (by omega)
                clear c28
                obtain ⟨y184, hy184⟩ : ∃ y_ : List (S53), y_ = (([] : List (S53))) := ⟨_, rfl⟩
                replace H : (if x5_17 ≤ (l0.length : Int) then ((some (l0.take (x5_17 : Int).toNat : List (S53))).bind fun y187 => (if y184.length + y187.length < 5864062014805 then ((some (y184 ++ y187 : List (S53))).bind fun y192 => (if y192.length < 5864062014805 then ((some (y192 ++ [(⟨y181⟩ : S53)] : List (S53))).bind fun y195 => (if 0 ≤ (wrap64 (x5_17 + 2)) then (if (wrap64 (x5_17 + 2)) ≤ (l0.length : Int) then ((some (l0.drop ((wrap64 (x5_17 + 2)) : Int).toNat : List (S53))).bind fun y198 => (if y195.length + y198.length < 5864062014805 then (some (y195 ++ y198)) else (none))) else (none)) else (none))) else (none))) else (none))) else (none)) = some r := by first | (rw [hy184]; exact H) | exact H
                have Ny184 := ak hy184
                clear hy184
                have c29b0 := eq_true (of_decide_eq_true (by assumption) : 0 ≤ x5_17)
                by_cases c30 : x5_17 ≤ (l0.length : Int)
                ·rw [if_pos c30] at H
                 have c30b0 := eq_true c30
                 have c30b1 : decide (x5_17 ≤ (l0.length : Int)) = true := decide_eq_true c30
                 clear c30
                 obtain ⟨y187, hy187⟩ : ∃ y_ : List (S53), y_ = (l0.take (x5_17 : Int).toNat) := ⟨_, rfl⟩
                 replace H : (if y184.length + y187.length < 5864062014805 then ((some (y184 ++ y187 : List (S53))).bind fun y192 => (if y192.length < 5864062014805 then ((some (y192 ++ [(⟨y181⟩ : S53)] : List (S53))).bind fun y195 => (if 0 ≤ (wrap64 (x5_17 + 2)) then (if (wrap64 (x5_17 + 2)) ≤ (l0.length : Int) then ((some (l0.drop ((wrap64 (x5_17 + 2)) : Int).toNat : List (S53))).bind fun y198 => (if y195.length + y198.length < 5864062014805 then (some (y195 ++ y198)) else (none))) else (none)) else (none))) else (none))) else (none)) = some r := by first | (rw [hy187]; exact H) | exact H
                 have Ny187 := ak hy187
                 clear hy187
                 by_cases c31 : y184.length + y187.length < 5864062014805
                 ·rw [if_pos c31] at H
                  have LMc31 := ak c31
                  clear c31
                  obtain ⟨y192, hy192⟩ : ∃ y_ : List (S53), y_ = (y184 ++ y187) := ⟨_, rfl⟩
                  replace H : (if y192.length < 5864062014805 then ((some (y192 ++ [(⟨y181⟩ : S53)] : List (S53))).bind fun y195 => (if 0 ≤ (wrap64 (x5_17 + 2)) then (if (wrap64 (x5_17 + 2)) ≤ (l0.length : Int) then ((some (l0.drop ((wrap64 (x5_17 + 2)) : Int).toNat : List (S53))).bind fun y198 => (if y195.length + y198.length < 5864062014805 then (some (y195 ++ y198)) else (none))) else (none)) else (none))) else (none)) = some r := by first | (rw [hy192]; exact H) | exact H
                  have Ny192 := ak hy192
                  clear hy192
                  by_cases c32 : y192.length < 5864062014805
                  ·rw [if_pos c32] at H
                   have LMc32 := ak c32
                   clear c32
                   obtain ⟨y195, hy195⟩ : ∃ y_ : List (S53), y_ = (y192 ++ [(⟨y181⟩ : S53)]) := ⟨_, rfl⟩
                   replace H : (if 0 ≤ (wrap64 (x5_17 + 2)) then (if (wrap64 (x5_17 + 2)) ≤ (l0.length : Int) then ((some (l0.drop ((wrap64 (x5_17 + 2)) : Int).toNat : List (S53))).bind fun y198 => (if y195.length + y198.length < 5864062014805 then (some (y195 ++ y198)) else (none))) else (none)) else (none)) = some r := by first | (rw [hy195]; exact H) | exact H
                   have Ny195 := ak hy195
                   clear hy195
                   obtain ⟨ji33, hji33⟩ : ∃ j_ : Int, (wrap64 (x5_17 + 2)) = j_ := ⟨_, rfl⟩
                   replace H : (if 0 ≤ (ji33) then (if (ji33) ≤ (l0.length : Int) then ((some (l0.drop ((ji33) : Int).toNat : List (S53))).bind fun y198 => (if y195.length + y198.length < 5864062014805 then (some (y195 ++ y198)) else (none))) else (none)) else (none)) = some r := by first | (rw [hji33] at H; exact H) | (simp only [hji33] at H ⊢; exact H)
                   have hji33w : (IntKind.i64.wrap (x5_17 + 2)) = ji33 := (i64_w _).trans hji33
                   by_cases c34 : 0 ≤ (ji33)
                   ·rw [if_pos c34] at H
                    have c34b0 := eq_true c34
                    have c34b1 : decide (0 ≤ (ji33)) = true := decide_eq_true c34
                    clear c34
                    by_cases c35 : (ji33) ≤ (l0.length : Int)
                    ·rw [if_pos c35] at H
                     have c35b0 := eq_true c35
                     have c35b1 : decide ((ji33) ≤ (l0.length : Int)) = true := decide_eq_true c35
                     clear c35
                     obtain ⟨y198, hy198⟩ : ∃ y_ : List (S53), y_ = (l0.drop ((ji33) : Int).toNat) := ⟨_, rfl⟩
                     replace H : (if y195.length + y198.length < 5864062014805 then (some (y195 ++ y198)) else (none)) = some r := by first | (rw [hy198]; exact H) | exact H
                     have Ny198 := ak hy198
                     clear hy198
                     by_cases c36 : y195.length + y198.length < 5864062014805
                     ·rw [if_pos c36] at H
                      have LMc36 := ak c36
                      clear c36
                      obtain ⟨y203, hy203⟩ : ∃ y_ : List (S53), y_ = (y195 ++ y198) := ⟨_, rfl⟩
                      replace H : (some y203) = some r := by first | (rw [hy203]; exact H) | exact H
                      have Ny203 := ak hy203
                      clear hy203
                      obtain rfl := Option.some.inj H
                      try go_wp2
                      replace HO_0 := ak (Kd.N_drew HO_0.out)
                      replace HK := ak (Kept.drew HK.out)
                      replace HB := ak (below_drew1 HB.out)
                      have p176 : 0 ≤ (x5_17 : Int) := of_decide_eq_true (by assumption)
                      have q176 : x5_17 < (l0.length : Int) := of_decide_eq_true (by assumption)
                      obtain ⟨ad176, A176_0, c176_0, e176, hx176_0, hl176_0, hi176_0⟩ := at_T53 (Kd.N_reads' HO_0.out).2.2 x5_17 p176 q176
                      cases e176
                      obtain ⟨ce176, hce176, hMe176, hcc176⟩ := Kd.N_get HO_0.out z53 x5_17 p176 (by first | exact q176 | exact of_decide_eq_true (by assumption) | (have e_ := (Kd.N_reads' HO_0.out).1; omega))
                      obtain ⟨ua176_0, uc176_0, rfl, ul176_0, ge176_0⟩ := k53_openF hMe176
                      have hv176_0 := hcc176 0 _ rfl
                      rw [Nat.add_zero, show (k53).sz = 1 from rfl, Nat.mul_one] at hv176_0
                      replace hv176_0 := Option.some.inj (hv176_0.symm.trans hx176_0)
                      injection hv176_0 with hva_ hvn_ hvc_
                      rw [hva_] at ge176_0
                      rw [hvc_] at ul176_0
                      have HL176_0 := ak (show Kd.V k65 65 _ w0.heap.size _ _ ((rd_T53 l0 x5_17).f0) from Kd.V_mk ul176_0 ge176_0)
                      clear hva_ hvn_ hvc_ ge176_0 ul176_0
                      clear hcc176 hce176
                      have HR176_0 := ak hi176_0
                      have HC176_0 := ak hl176_0
                      clear hi176_0 hl176_0
                      replace p176 := eq_true p176
                      replace q176 := eq_true q176
                      have p180 : 0 ≤ ((ji24) : Int) := of_decide_eq_true (by assumption)
                      have q180 : (ji24) < (l0.length : Int) := of_decide_eq_true (by assumption)
                      obtain ⟨ad180, A180_0, c180_0, e180, hx180_0, hl180_0, hi180_0⟩ := at_T53 (Kd.N_reads' HO_0.out).2.2 (ji24) p180 q180
                      obtain rfl : ad176 = ad180 := (by injection e180)
                      obtain ⟨ce180, hce180, hMe180, hcc180⟩ := Kd.N_get HO_0.out z53 (ji24) p180 (by first | exact q180 | exact of_decide_eq_true (by assumption) | (have e_ := (Kd.N_reads' HO_0.out).1; omega))
                      obtain ⟨ua180_0, uc180_0, rfl, ul180_0, ge180_0⟩ := k53_openF hMe180
                      have hv180_0 := hcc180 0 _ rfl
                      rw [Nat.add_zero, show (k53).sz = 1 from rfl, Nat.mul_one] at hv180_0
                      replace hv180_0 := Option.some.inj (hv180_0.symm.trans hx180_0)
                      injection hv180_0 with hva_ hvn_ hvc_
                      rw [hva_] at ge180_0
                      rw [hvc_] at ul180_0
                      have HL180_0 := ak (show Kd.V k65 65 _ w0.heap.size _ _ ((rd_T53 l0 (ji24)).f0) from Kd.V_mk ul180_0 ge180_0)
                      clear hva_ hvn_ hvc_ ge180_0 ul180_0
                      clear hcc180 hce180
                      have HR180_0 := ak hi180_0
                      have HC180_0 := ak hl180_0
                      clear hi180_0 hl180_0
                      replace p180 := eq_true p180
                      replace q180 := eq_true q180
                      refine start_ (n := 15) (S := fun w' => w'.cell? (ad176.add (x5_17).toNat) = some (.slice A176_0 ((rd_T53 l0 x5_17).f0).length c176_0) ∧ w'.cell? (ad176.add ((ji24)).toNat) = some (.slice A180_0 ((rd_T53 l0 (ji24)).f0).length c180_0)) (ds := []) #[U,U,U,U,U,U,U,U,U,U,U,U,U,U,U] (by kernel_rfl) rfl rfl ⟨hx176_0, hx180_0⟩ (fun hHeld => ?_); refine with_tabW spec_l6Mend.tab8 spec_l6Mend.bits8 (fun HT_ HW_ => ?_)
                      generalize wc.drew = w37 at HO_0 HK HB HL176_0 HL180_0 HR176_0 HR180_0 hx176_0 hx180_0 hHeld ⊢
                      refine pu 1 (some 43) #[U,T,U,U,U,U,U,U,U,U,U,U,U,U,U] (any_of HT_.out (by kernel_rfl)) ?_
                      refine pu 2 (some 44) #[U,T,T,U,U,U,U,U,U,U,U,U,U,U,U] (any_of HT_.out (by kernel_rfl)) ?_
                      refine pu 3 (some 45) #[U,T,T,T,U,U,U,U,U,U,U,U,U,U,U] (any_of HT_.out (by kernel_rfl)) ?_
                      refine pu 4 (some 46) #[U,T,T,T,T,U,U,U,U,U,U,U,U,U,U] (any_of HT_.out (by kernel_rfl)) ?_
                      refine pu 7 (some 49) #[U,T,T,T,T,U,U,T,U,U,U,U,U,U,U] (any_of HT_.out (by kernel_rfl)) ?_
                      refine pu 8 (some 50) #[U,T,T,T,T,U,U,T,T,U,U,U,U,U,U] (any_of HT_.out (by kernel_rfl)) ?_
                      refine pu 9 (some 51) #[U,T,T,T,T,U,U,T,T,T,U,U,U,U,U] (any_of HT_.out (by kernel_rfl)) ?_
                      refine pu 10 (some 52) #[U,T,T,T,T,U,U,T,T,T,T,U,U,U,U] (any_of HT_.out (by kernel_rfl)) ?_
                      refine pu 11 (some 53) #[U,T,T,T,T,U,U,T,T,T,T,T,U,U,U] (any_of HT_.out (by kernel_rfl)) ?_
                      refine take_ (i := 5) (N := some 47) (v := ?_) (a' := ?_) #[U,T,T,T,T,T,U,T,T,T,T,T,U,U,U] rfl rfl (take_ofW HT_.out HW_.out (by kernel_rfl)) (fun _ _ _ h => h) (Or.inl ⟨by rfl, ?_⟩) hHeld ?_ ?_
                      rotate_left
                      ·rintro w' ⟨s0, s1⟩
                       go_simp
                       with_reducible rfl
                      rotate_left
                      ·simp only [Act.put, lT, lZ, lS, i64_w, i32_w]
                       rfl
                      refine take_ (i := 12) (N := some 54) (v := ?_) (a' := ?_) #[U,T,T,T,T,T,U,T,T,T,T,T,T,U,U] rfl rfl (take_ofW HT_.out HW_.out (by kernel_rfl)) (fun _ _ _ h => h) (Or.inl ⟨by rfl, ?_⟩) hHeld ?_ ?_
                      rotate_left
                      ·rintro w' ⟨s0, s1⟩
                       go_simp
                       with_reducible rfl
                      rotate_left
                      ·simp only [Act.put, lT, lZ, lS, i64_w, i32_w]
                       rfl
                      refine one_ (i := 0) (N := some 42) #[T,T,T,T,T,T,U,T,T,T,T,T,T,U,U] rfl rfl (one_of HT_.out (by kernel_rfl)) (by decide) (fun K hK => ?_)
                      refine Kd.R_lit_step k65 _ 65 ?hg (N := 42) ?hd (xs := ([] : List (S65))) (inner := []) (ok := fun _ => True) (okp := fun _ => True) ?hr ?hp (fun _ hk => hk) trivial (Below.refl _ _) (Nat.le_refl _) (by simp) ?_; (case hd => rfl); (case hg => rfl); (case hr => go_simp <;> rfl); (case hp => exact (Reps.none _ _))
                      intro v174 w38 ho39 hb hg_ hnew_
                      have HS0_ := (hb.cell (World.block_lt_of_cell? _ _ (hHeld.1))).trans (hHeld.1)
                      have HS1_ := (hb.cell (World.block_lt_of_cell? _ _ (hHeld.2))).trans (hHeld.2)
                      clear hg_ hnew_
                      (first | rw [← Ny173.out] at ho39 | (simp only [Int.reduceToNat] at ho39; rw [← Ny173.out] at ho39))
                      replace HO_0 := ak (Kd.N_elder' (hN HO_0.out) (Kd.R_base ho39) hb)
                      replace HL176_0 := ak (Kd.V_elder' (by (with_reducible repeat (first | apply Kd.V_alloc | apply Kd.V_drewN | apply Kd.V_drew)); exact HL176_0.out) (Kd.R_base ho39) hb)
                      replace HL180_0 := ak (Kd.V_elder' (by (with_reducible repeat (first | apply Kd.V_alloc | apply Kd.V_drewN | apply Kd.V_drew)); exact HL180_0.out) (Kd.R_base ho39) hb)
                      have HO175 := ak (Kd.R_lower (Kd.R_newM (M := fun k_ => (P0_ k_ ∨ w.heap.size ≤ k_)) ho39 (by first | exact HK.out.1 | exact (show Kept w _ (fun k_ => P0_ k_) from by repeat (first | exact HK.out | apply Kept.alloc | apply Kept.drewN | apply Kept.drew)).1) (fun k_ h_ => .inr h_)) (below_size (by exact hopb HB.out)))
                      replace HR176_0 := ak (Kd.C_below (by repeat (first | (with_reducible exact HR176_0.out) | (with_reducible refine Kd.C_alloc ?_ _) | (with_reducible refine Kd.C_drewN ?_ _) | (with_reducible refine Kd.C_drew ?_) | exact HR176_0.out)) hb)
                      replace HR180_0 := ak (Kd.C_below (by repeat (first | (with_reducible exact HR180_0.out) | (with_reducible refine Kd.C_alloc ?_ _) | (with_reducible refine Kd.C_drewN ?_ _) | (with_reducible refine Kd.C_drew ?_) | exact HR180_0.out)) hb)
                      replace HK := ak (Kept.below (S := (fun k_ => P0_ k_)) (by repeat (first | exact HK.out | apply Kept.alloc | apply Kept.drewN | apply Kept.drew)) hb)
                      replace HB := ak (below_step (by exact hopb HB.out) hb)
                      clear hb ho39
                      refine hK.out _ _ ⟨HS0_, HS1_⟩ (fun hHeld => ?_)
                      clear hK K
                      refine norm_ (a' := ?_) ?_ ?_
                      rotate_left
                      ·show Act.put _ (some 42) _ = _
                       simp only [Act.put, lT, lZ, lS, i64_w, i32_w]
                       rfl
                      refine one_ (i := 6) (N := some 48) #[T,T,T,T,T,T,T,T,T,T,T,T,T,U,U] rfl rfl (one_of HT_.out (by kernel_rfl)) (by decide) (fun K hK => ?_)
                      refine Kd.R_append_rows_step k65 (w0 := w0) w0.heap.size (by rfl) (.tmp 42) (.tmp 47) 36 65 (.agg #[(.string ⟨#[]⟩), (.int .i64 0)]) 24 rfl Try.underlying36 info65 rfl (by decide) (by omega) v174 y173 ((rd_T53 l0 x5_17).f0) _ _ _ (fun k_ => (P0_ k_ ∨ w.heap.size ≤ k_)) (fun _ => False) rfl rfl ?aO ?aR (fun _ _ h => h) (fun _ h => h.elim) ?aF ?aB ?aS ?aL ?_
                      (case aR => exact hC (by repeat (first | (with_reducible exact HR176_0.out) | (with_reducible refine Kd.C_alloc ?_ _) | (with_reducible refine Kd.C_drewN ?_ _) | (with_reducible refine Kd.C_drew ?_) | exact HR176_0.out)))
                      (case aB => exact (by exact hopb HB.out))
                      (case aF => exact (fun k_ hk => (.inr (Nat.le_trans (by first | exact HK.out.1 | exact (show Kept w _ (fun k_ => P0_ k_) from by repeat (first | exact HK.out | apply Kept.alloc | apply Kept.drewN | apply Kept.drew)).1) hk))))
                      (case aO => exact (by (with_reducible repeat (first | apply Kd.R_alloc | apply Kd.R_drewN | apply Kd.R_drew)); exact Kd.R_mono HO175.out (fun _ hk => hk.1)))
                      (case aS => exact (below_size (by exact hopb HB.out)))
                      (case aL => have := LMc23.out; omega)
                      intro v178 w40 ho hb hg hat
                      have HS0_ := cell_grown hg (hHeld.1) (by first | (rw [add_block]; exact (HO_0.out.1 _ rfl).2) | (show some (Addr.add _ _).block ≠ _; rw [add_block]; exact (HO_0.out.1 _ rfl).2) | exact (HO_0.out.1 _ rfl).2)
                      have HS1_ := cell_grown hg (hHeld.2) (by first | (rw [add_block]; exact (HO_0.out.1 _ rfl).2) | (show some (Addr.add _ _).block ≠ _; rw [add_block]; exact (HO_0.out.1 _ rfl).2) | exact (HO_0.out.1 _ rfl).2)
                      rw [← Ny177.out] at ho
                      replace HO_0 := ak (Kd.N_afterv (ok := (fun k_ => (P0_ k_ ∨ w.heap.size ≤ k_))) (hN HO_0.out) hg hat)
                      replace HL176_0 := ak (Kd.V_afterv (ok := (fun k_ => (P0_ k_ ∨ w.heap.size ≤ k_) ∧ some k_ ≠ (.slice (some ad176) l0.length co19 : Value).ownBlock)) (by (with_reducible repeat (first | apply Kd.V_alloc | apply Kd.V_drewN | apply Kd.V_drew)); exact HL176_0.out) hg hat)
                      replace HL180_0 := ak (Kd.V_afterv (ok := (fun k_ => (P0_ k_ ∨ w.heap.size ≤ k_) ∧ some k_ ≠ (.slice (some ad176) l0.length co19 : Value).ownBlock)) (by (with_reducible repeat (first | apply Kd.V_alloc | apply Kd.V_drewN | apply Kd.V_drew)); exact HL180_0.out) hg hat)
                      replace HB := ak (hb)
                      replace HK := ak (Kept.of_grown (S := (fun k_ => P0_ k_)) hg (by repeat (first | exact HK.out | apply Kept.alloc | apply Kept.drewN | apply Kept.drew)) (fun k_ e_ => (HO175.out.1 k_ e_).1))
                      have HO179 := ak (ho)
                      clear HO175
                      clear ho hb hg hat
                      refine hK.out _ _ ⟨HS0_, HS1_⟩ (fun hHeld => ?_)
                      clear hK K
                      refine norm_ (a' := ?_) ?_ ?_
                      rotate_left
                      ·show Act.put _ (some 48) _ = _
                       simp only [Act.put, lT, lZ, lS, i64_w, i32_w]
                       rfl
                      refine one_ (i := 13) (N := some 55) #[T,T,T,T,T,T,T,T,T,T,T,T,T,T,U] rfl rfl (one_of HT_.out (by kernel_rfl)) (by decide) (fun K hK => ?_)
                      refine Kd.R_append_rows_step k65 (w0 := w0) w0.heap.size (by rfl) (.tmp 48) (.tmp 54) 36 65 (.agg #[(.string ⟨#[]⟩), (.int .i64 0)]) 24 rfl Try.underlying36 info65 rfl (by decide) (by omega) v178 y177 ((rd_T53 l0 (ji24)).f0) _ _ _ (fun k_ => (P0_ k_ ∨ w.heap.size ≤ k_)) (fun _ => False) rfl rfl ?aO ?aR (fun _ _ h => h) (fun _ h => h.elim) ?aF ?aB ?aS ?aL ?_
                      (case aR => repeat (first | exact ((Kd.V_reads' (by (with_reducible repeat (first | apply Kd.V_alloc | apply Kd.V_drewN | apply Kd.V_drew)); exact HL180_0.out)).2.2) | (with_reducible refine Kd.C_alloc ?_ _) | (with_reducible refine Kd.C_drewN ?_ _) | (with_reducible refine Kd.C_drew ?_)))
                      (case aB => exact (by exact hopb HB.out))
                      (case aF => exact (fun k_ hk => (.inr (Nat.le_trans (by first | exact HK.out.1 | exact (show Kept w _ (fun k_ => P0_ k_) from by repeat (first | exact HK.out | apply Kept.alloc | apply Kept.drewN | apply Kept.drew)).1) hk))))
                      (case aO => exact (hR HO179.out))
                      (case aS => exact (below_size (by exact hopb HB.out)))
                      (case aL => have := LMc27.out; omega)
                      intro v182 w41 ho hb hg hat
                      have HS0_ := cell_grown hg (hHeld.1) (by first | (rw [add_block]; exact (HO_0.out.1 _ rfl).2) | (show some (Addr.add _ _).block ≠ _; rw [add_block]; exact (HO_0.out.1 _ rfl).2) | exact (HO_0.out.1 _ rfl).2)
                      have HS1_ := cell_grown hg (hHeld.2) (by first | (rw [add_block]; exact (HO_0.out.1 _ rfl).2) | (show some (Addr.add _ _).block ≠ _; rw [add_block]; exact (HO_0.out.1 _ rfl).2) | exact (HO_0.out.1 _ rfl).2)
                      rw [← Ny181.out] at ho
                      replace HO_0 := ak (Kd.N_afterv (ok := (fun k_ => (P0_ k_ ∨ w.heap.size ≤ k_))) (hN HO_0.out) hg hat)
                      replace HL176_0 := ak (Kd.V_afterv (ok := (fun k_ => (P0_ k_ ∨ w.heap.size ≤ k_) ∧ some k_ ≠ (.slice (some ad176) l0.length co19 : Value).ownBlock)) (by (with_reducible repeat (first | apply Kd.V_alloc | apply Kd.V_drewN | apply Kd.V_drew)); exact HL176_0.out) hg hat)
                      replace HL180_0 := ak (Kd.V_afterv (ok := (fun k_ => (P0_ k_ ∨ w.heap.size ≤ k_) ∧ some k_ ≠ (.slice (some ad176) l0.length co19 : Value).ownBlock)) (by (with_reducible repeat (first | apply Kd.V_alloc | apply Kd.V_drewN | apply Kd.V_drew)); exact HL180_0.out) hg hat)
                      replace HB := ak (hb)
                      replace HK := ak (Kept.of_grown (S := (fun k_ => P0_ k_)) hg (by repeat (first | exact HK.out | apply Kept.alloc | apply Kept.drewN | apply Kept.drew)) (fun k_ e_ => (HO179.out.1 k_ e_)))
                      have HO183 := ak (ho)
                      clear HO179
                      clear ho hb hg hat
                      refine hK.out _ _ ⟨HS0_, HS1_⟩ (fun hHeld => ?_)
                      clear hK K
                      refine norm_ (a' := ?_) ?_ ?_
                      rotate_left
                      ·show Act.put _ (some 55) _ = _
                       simp only [Act.put, lT, lZ, lS, i64_w, i32_w]
                       rfl
                      refine pu 14 (some 6) #[T,T,T,T,T,T,T,T,T,T,T,T,T,T,T] (any_of HT_.out (by kernel_rfl)) ?_
                      refine done_ (done_of HT_.out (by kernel_rfl)) ?_
                      obtain ⟨Ao42, co42, eo42⟩ := Kd.R_slice HO183.out
                      subst eo42
                      try go_wp2_with (first | ((with_reducible refine gate_dst (N := 59) rfl ?_); (try (refine gate_guard (by rfl) ?_; dsimp only)); refine Kd.N_lit k53 _ 53 ?hg (N' := 59) ?hd (xs := ([] : List (S53))) (inner := []) (ok := (fun k_ => (P0_ k_ ∨ w.heap.size ≤ k_) ∧ some k_ ≠ (.slice (some ad176) l0.length co19 : Value).ownBlock ∧ some k_ ≠ (.slice Ao42 y181.length co42 : Value).ownBlock)) (okp := (fun k_ => (P0_ k_ ∨ w.heap.size ≤ k_) ∧ some k_ ≠ (.slice (some ad176) l0.length co19 : Value).ownBlock ∧ some k_ ≠ (.slice Ao42 y181.length co42 : Value).ownBlock)) ?hr ?hp (fun _ hk => hk) ((show ∀ k_, w41.heap.size ≤ k_ → (fun k_ => (P0_ k_ ∨ w.heap.size ≤ k_) ∧ some k_ ≠ (.slice (some ad176) l0.length co19 : Value).ownBlock ∧ some k_ ≠ (.slice Ao42 y181.length co42 : Value).ownBlock) k_ from fun k_ hk => ⟨(.inr (Nat.le_trans (by first | exact HK.out.1 | exact (show Kept w _ (fun k_ => P0_ k_) from by repeat (first | exact HK.out | apply Kept.alloc | apply Kept.drewN | apply Kept.drew)).1) hk)), Kd.fresh' (Kd.N_lt (hN HO_0.out)) k_ hk, Kd.fresh' (Kd.R_lt (hR HO183.out)) k_ hk⟩) _ (Nat.le_refl _)) (Below.refl _ _) (Nat.le_refl _) (by simp) ?_; (case hd => rfl); (case hg => rfl); (case hr => go_simp <;> rfl); (case hp => exact (Reps.none _ _)); intro v185 w43 ho44 hb hg_ hnew_; clear hg_ hnew_; (first | rw [← Ny184.out] at ho44 | (simp only [Int.reduceToNat] at ho44; rw [← Ny184.out] at ho44)); replace HO_0 := ak (Kd.N_elder' (hN HO_0.out) (Kd.N_base ho44) hb); replace HL176_0 := ak (Kd.V_elder' (by (with_reducible repeat (first | apply Kd.V_alloc | apply Kd.V_drewN | apply Kd.V_drew)); exact HL176_0.out) (Kd.N_base ho44) hb); replace HL180_0 := ak (Kd.V_elder' (by (with_reducible repeat (first | apply Kd.V_alloc | apply Kd.V_drewN | apply Kd.V_drew)); exact HL180_0.out) (Kd.N_base ho44) hb); replace HO183 := ak (Kd.R_below (hR HO183.out) hb); have HO186 := ak (Kd.N_lower ho44 (below_size (by exact hopb HB.out))); replace HK := ak (Kept.below (S := (fun k_ => P0_ k_)) (by repeat (first | exact HK.out | apply Kept.alloc | apply Kept.drewN | apply Kept.drew)) hb); replace HB := ak (below_step (by exact hopb HB.out) hb); clear hb ho44; have q45 : (x5_17 : Int) ≤ ((l0.length : Int) : Int) := of_decide_eq_true (by assumption); obtain ⟨i045, hi045, _, hsz45, _⟩ := info_parts info53; have hroom45 : l0.length ≤ co19 := (Kd.N_reads' HO_0.out).2.1; have hC45 : Kd.F k53 _ _ (some ad176) l0.length l0 := (Kd.V_at (base := w0.heap.size) (Kd.N_V HO_0.out)).2.2; have hcut45 := cut_to (P := Try.prog) 24 53 .i64 Try.underlying24 hi045 (some ad176) l0.length co19 x5_17 (of_decide_eq_true (by assumption)) q45 hroom45; have hr45 := Kd.F_take (m := (x5_17 : Int).toNat) hC45 (by omega); have hy45 : y187.length = (x5_17 : Int).toNat := (by rw [Ny187.out, List.length_take]; omega); rw [← Ny187.out] at hr45; rw [← hy45] at hcut45; have HO191 := ak (show Kd.V k53 53 _ w0.heap.size _ (.slice (some ad176) y187.length co19) y187 from Kd.V_mk (by omega) hr45); have HC191 := ak (show y187.length ≤ co19 from by omega); clear hr45 hC45 hroom45 hi045 hsz45; have KY45 := ak hy45; clear hy45; replace q45 := eq_true q45) | ((with_reducible refine gate_builtin (b := .append) (xs := #[.tmp 59, .tmp 62]) rfl ?_); (try (refine gate_guard (by rfl) ?_; dsimp only)); at_builtin; refine Kd.N_append_rows k53 (w0 := w0) w0.heap.size rfl (.tmp 59) (.tmp 62) 24 53 (.agg #[(.slice none 0 0)]) 24 rfl Try.underlying24 info53 rfl (by decide) (by omega) v185 y184 y187 _ _ _ (fun k_ => (P0_ k_ ∨ w.heap.size ≤ k_) ∧ some k_ ≠ (.slice Ao42 y181.length co42 : Value).ownBlock) (fun k_ => ((fun k_ => (P0_ k_ ∨ w.heap.size ≤ k_) ∧ some k_ ≠ (.slice Ao42 y181.length co42 : Value).ownBlock)) k_ ∧ some k_ ≠ (v185 : Value).ownBlock) rfl rfl ?aO ?aR (fun _ hk => hk) ?aF ?aB ?aS ?aL ?_; (case aR => exact (by skip; exact Kd.V_F (Kd.V_mono (ok' := (fun k_ => ((fun k_ => (P0_ k_ ∨ w.heap.size ≤ k_) ∧ some k_ ≠ (.slice Ao42 y181.length co42 : Value).ownBlock)) k_ ∧ some k_ ≠ (v185 : Value).ownBlock)) (HO191.out) (fun k_ hk => ⟨⟨hk.1.1, hk.1.2⟩, hk.2⟩)))); (case aB => exact (by exact hopb HB.out)); (case aF => exact (fun k_ hk => ⟨(.inr (Nat.le_trans (by first | exact HK.out.1 | exact (show Kept w _ (fun k_ => P0_ k_) from by repeat (first | exact HK.out | apply Kept.alloc | apply Kept.drewN | apply Kept.drew)).1) hk)), Kd.fresh' (Kd.R_lt (hR HO183.out)) k_ hk⟩)); (case aO => exact (by (with_reducible repeat (first | apply Kd.N_alloc | apply Kd.N_drewN | apply Kd.N_drew)); exact Kd.N_mono HO186.out (fun _ hk => ⟨hk.1, hk.2.2⟩))); (case aS => exact (below_size (by exact hopb HB.out))); (case aL => have := LMc31.out; omega); intro v193 w46 ho hb hg hat; rw [← Ny192.out] at ho; replace HO_0 := ak (Kd.N_afterv (ok := (fun k_ => (P0_ k_ ∨ w.heap.size ≤ k_) ∧ some k_ ≠ (.slice Ao42 y181.length co42 : Value).ownBlock)) (hN HO_0.out) hg hat); replace HL176_0 := ak (Kd.V_afterv (ok := (fun k_ => (P0_ k_ ∨ w.heap.size ≤ k_) ∧ some k_ ≠ (.slice (some ad176) l0.length co19 : Value).ownBlock ∧ some k_ ≠ (.slice Ao42 y181.length co42 : Value).ownBlock)) (by (with_reducible repeat (first | apply Kd.V_alloc | apply Kd.V_drewN | apply Kd.V_drew)); exact Kd.V_mono HL176_0.out (fun _ hk => ⟨⟨hk.1.1.1, ⟨hk.1.1.2, hk.1.2⟩⟩, hk.2⟩)) hg hat); replace HL180_0 := ak (Kd.V_afterv (ok := (fun k_ => (P0_ k_ ∨ w.heap.size ≤ k_) ∧ some k_ ≠ (.slice (some ad176) l0.length co19 : Value).ownBlock ∧ some k_ ≠ (.slice Ao42 y181.length co42 : Value).ownBlock)) (by (with_reducible repeat (first | apply Kd.V_alloc | apply Kd.V_drewN | apply Kd.V_drew)); exact Kd.V_mono HL180_0.out (fun _ hk => ⟨⟨hk.1.1.1, ⟨hk.1.1.2, hk.1.2⟩⟩, hk.2⟩)) hg hat); replace HO183 := ak (Kd.R_over' (hR HO183.out) (Kd.N_typed (hN HO186.out)) (by decide) hg); replace HO191 := ak (Kd.V_afterv (ok := (fun k_ => (P0_ k_ ∨ w.heap.size ≤ k_) ∧ some k_ ≠ (.slice Ao42 y181.length co42 : Value).ownBlock)) (by (with_reducible repeat (first | apply Kd.V_alloc | apply Kd.V_drewN | apply Kd.V_drew)); exact HO191.out) hg hat); replace HB := ak (hb); replace HK := ak (Kept.of_grown (S := (fun k_ => P0_ k_)) hg (by repeat (first | exact HK.out | apply Kept.alloc | apply Kept.drewN | apply Kept.drew)) (fun k_ e_ => (HO186.out.1 k_ e_).1)); have HO194 := ak (ho); clear HO186; clear ho hb hg hat) | ((with_reducible refine gate_builtin (b := .append) (xs := #[.tmp 64, .tmp 67]) rfl ?_); (try (refine gate_guard (by rfl) ?_; dsimp only)); at_builtin; refine Kd.N_append k53 (w0 := w0) w0.heap.size rfl (.tmp 64) (.tmp 67) 24 53 (.agg #[(.slice none 0 0)]) 24 rfl Try.underlying24 info53 rfl (by decide) (by omega) v193 y192 (⟨y181⟩ : S53) [.slice Ao42 y181.length co42] (fun k_ => (P0_ k_ ∨ w.heap.size ≤ k_)) (fun k_ => ((fun k_ => (P0_ k_ ∨ w.heap.size ≤ k_))) k_ ∧ some k_ ≠ (v193 : Value).ownBlock) rfl rfl ?aP (fun _ hk => hk) ?aF ?aO ?aB ?aS ?aL ?_; (case aP => exact (by have hmk_ := Kd.R_mono (ok' := (fun k_ => ((fun k_ => (P0_ k_ ∨ w.heap.size ≤ k_))) k_ ∧ some k_ ≠ (v193 : Value).ownBlock)) (Kd.R_apart' (HO183.out) (Kd.N_typed HO194.out) (by decide)) (fun k_ hk => ⟨hk.1, hk.2⟩); obtain ⟨Am_, cm_, em_⟩ := Kd.R_slice hmk_; rw [em_] at hmk_ ⊢; exact k53_mkF _ _ (⟨y181⟩ : S53) (Kd.R_reads' hmk_).2.1 (Kd.R_F hmk_))); (case aB => exact (by exact hopb HB.out)); (case aF => exact (fun k_ hk => (.inr (Nat.le_trans (by first | exact HK.out.1 | exact (show Kept w _ (fun k_ => P0_ k_) from by repeat (first | exact HK.out | apply Kept.alloc | apply Kept.drewN | apply Kept.drew)).1) hk)))); (case aO => exact (by (with_reducible repeat (first | apply Kd.N_alloc | apply Kd.N_drewN | apply Kd.N_drew)); exact Kd.N_mono HO194.out (fun _ hk => hk.1))); (case aS => exact (below_size (by exact hopb HB.out))); (case aL => have := LMc32.out; omega); intro v196 w47 ho hb hg hat; rw [← Ny195.out] at ho; replace HO_0 := ak (Kd.N_afterv (ok := (fun k_ => (P0_ k_ ∨ w.heap.size ≤ k_) ∧ some k_ ≠ (.slice Ao42 y181.length co42 : Value).ownBlock)) (hN HO_0.out) hg hat); replace HL176_0 := ak (Kd.V_afterv (ok := (fun k_ => (P0_ k_ ∨ w.heap.size ≤ k_) ∧ some k_ ≠ (.slice (some ad176) l0.length co19 : Value).ownBlock ∧ some k_ ≠ (.slice Ao42 y181.length co42 : Value).ownBlock)) (by (with_reducible repeat (first | apply Kd.V_alloc | apply Kd.V_drewN | apply Kd.V_drew)); exact HL176_0.out) hg hat); replace HL180_0 := ak (Kd.V_afterv (ok := (fun k_ => (P0_ k_ ∨ w.heap.size ≤ k_) ∧ some k_ ≠ (.slice (some ad176) l0.length co19 : Value).ownBlock ∧ some k_ ≠ (.slice Ao42 y181.length co42 : Value).ownBlock)) (by (with_reducible repeat (first | apply Kd.V_alloc | apply Kd.V_drewN | apply Kd.V_drew)); exact HL180_0.out) hg hat); replace HO191 := ak (Kd.V_afterv (ok := (fun k_ => (P0_ k_ ∨ w.heap.size ≤ k_) ∧ some k_ ≠ (.slice Ao42 y181.length co42 : Value).ownBlock)) (by (with_reducible repeat (first | apply Kd.V_alloc | apply Kd.V_drewN | apply Kd.V_drew)); exact HO191.out) hg hat); replace HB := ak (hb); replace HK := ak (Kept.of_grown (S := (fun k_ => P0_ k_)) hg (by repeat (first | exact HK.out | apply Kept.alloc | apply Kept.drewN | apply Kept.drew)) (fun k_ e_ => (HO194.out.1 k_ e_).1)); have HO197 := ak (ho); clear HO194 HO183; clear ho hb hg hat; have q48 : ((ji33) : Int) ≤ ((l0.length : Int) : Int) := of_decide_eq_true (by assumption); obtain ⟨i048, hi048, _, hsz48, _⟩ := info_parts info53; have hroom48 : l0.length ≤ co19 := (Kd.N_reads' HO_0.out).2.1; have hC48 : Kd.F k53 _ _ (some ad176) l0.length l0 := (Kd.V_at (base := w0.heap.size) (Kd.N_V HO_0.out)).2.2; have q048 : (0 : Int) ≤ ((ji33) : Int) := of_decide_eq_true (by assumption); have hcut48 := cut_from (P := Try.prog) 24 53 .i64 Try.underlying24 hi048 1 hsz48 (some ad176) l0.length co19 (ji33) q048 q48; have hr48 := Kd.F_cut (m := ((ji33) : Int).toNat) (c := co19) hC48 (by omega) hroom48; obtain ⟨A48, hA48⟩ : ∃ A1, A1 = (if co19 = ((ji33) : Int).toNat then (some ad176) else ((some ad176) : Option Addr).map (·.add (((ji33) : Int).toNat * 1))) := ⟨_, rfl⟩; obtain ⟨c48, hc48⟩ : ∃ c1, c1 = co19 - ((ji33) : Int).toNat := ⟨_, rfl⟩; have hy48 : y198.length = l0.length - ((ji33) : Int).toNat := (by rw [Ny198.out, List.length_drop] <;> omega); rw [show (l0).drop ((ji33) : Int).toNat = y198 from Ny198.out.symm] at hr48; replace hr48 : Kd.F k53 _ _ A48 y198.length y198 := (by rw [hA48]; exact hr48); rw [← hy48, ← hA48, ← hc48] at hcut48; have HO202 := ak (show Kd.V k53 53 _ w0.heap.size _ (.slice A48 y198.length c48) y198 from Kd.V_mk (by rw [hy48, hc48]; exact Nat.sub_le_sub_right hroom48 _) hr48); have HC202 := ak (show y198.length ≤ c48 from by rw [hy48, hc48]; exact Nat.sub_le_sub_right hroom48 _); clear hr48 hC48 hroom48 hi048 hsz48 hc48; have KY48 := ak hy48; have KA48 := ak hA48; clear hy48 hA48; replace q48 := eq_true q48) | ((with_reducible refine gate_builtin (b := .append) (xs := #[.tmp 69, .tmp 73]) rfl ?_); (try (refine gate_guard (by rfl) ?_; dsimp only)); at_builtin; refine Kd.N_append_rows k53 (w0 := w0) w0.heap.size rfl (.tmp 69) (.tmp 73) 24 53 (.agg #[(.slice none 0 0)]) 24 rfl Try.underlying24 info53 rfl (by decide) (by omega) v196 y195 y198 _ _ _ (fun k_ => (P0_ k_ ∨ w.heap.size ≤ k_)) (fun k_ => ((fun k_ => (P0_ k_ ∨ w.heap.size ≤ k_))) k_ ∧ some k_ ≠ (v196 : Value).ownBlock) rfl rfl ?aO ?aR (fun _ hk => hk) ?aF ?aB ?aS ?aL ?_; (case aR => exact (by skip; exact Kd.V_F (Kd.V_mono (ok' := (fun k_ => ((fun k_ => (P0_ k_ ∨ w.heap.size ≤ k_))) k_ ∧ some k_ ≠ (v196 : Value).ownBlock)) (HO202.out) (fun k_ hk => ⟨hk.1.1, hk.2⟩)))); (case aB => exact (by exact hopb HB.out)); (case aF => exact (fun k_ hk => (.inr (Nat.le_trans (by first | exact HK.out.1 | exact (show Kept w _ (fun k_ => P0_ k_) from by repeat (first | exact HK.out | apply Kept.alloc | apply Kept.drewN | apply Kept.drew)).1) hk)))); (case aO => exact (hN HO197.out)); (case aS => exact (below_size (by exact hopb HB.out))); (case aL => have := LMc36.out; omega); intro v204 w49 ho hb hg hat; rw [← Ny203.out] at ho; replace HO_0 := ak (Kd.N_afterv (ok := (fun k_ => (P0_ k_ ∨ w.heap.size ≤ k_))) (by (with_reducible repeat (first | apply Kd.N_alloc | apply Kd.N_drewN | apply Kd.N_drew)); exact Kd.N_mono HO_0.out (fun _ hk => ⟨hk.1.1, hk.2⟩)) hg hat); replace HL176_0 := ak (Kd.V_afterv (ok := (fun k_ => (P0_ k_ ∨ w.heap.size ≤ k_) ∧ some k_ ≠ (.slice (some ad176) l0.length co19 : Value).ownBlock)) (by (with_reducible repeat (first | apply Kd.V_alloc | apply Kd.V_drewN | apply Kd.V_drew)); exact Kd.V_mono HL176_0.out (fun _ hk => ⟨⟨hk.1.1, hk.1.2.1⟩, hk.2⟩)) hg hat); replace HL180_0 := ak (Kd.V_afterv (ok := (fun k_ => (P0_ k_ ∨ w.heap.size ≤ k_) ∧ some k_ ≠ (.slice (some ad176) l0.length co19 : Value).ownBlock)) (by (with_reducible repeat (first | apply Kd.V_alloc | apply Kd.V_drewN | apply Kd.V_drew)); exact Kd.V_mono HL180_0.out (fun _ hk => ⟨⟨hk.1.1, hk.1.2.1⟩, hk.2⟩)) hg hat); replace HO191 := ak (Kd.V_afterv (ok := (fun k_ => (P0_ k_ ∨ w.heap.size ≤ k_))) (by (with_reducible repeat (first | apply Kd.V_alloc | apply Kd.V_drewN | apply Kd.V_drew)); exact Kd.V_mono HO191.out (fun _ hk => ⟨hk.1.1, hk.2⟩)) hg hat); replace HO202 := ak (Kd.V_afterv (ok := (fun k_ => (P0_ k_ ∨ w.heap.size ≤ k_))) (by (with_reducible repeat (first | apply Kd.V_alloc | apply Kd.V_drewN | apply Kd.V_drew)); exact Kd.V_mono HO202.out (fun _ hk => ⟨hk.1.1, hk.2⟩)) hg hat); replace HB := ak (hb); replace HK := ak (Kept.of_grown (S := (fun k_ => P0_ k_)) hg (by repeat (first | exact HK.out | apply Kept.alloc | apply Kept.drewN | apply Kept.drew)) (fun k_ e_ => (HO197.out.1 k_ e_))); have HO205 := ak (ho); clear HO197; clear ho hb hg hat))
                      go_ret
                      exact ⟨_, by first | rfl | (simp only [u8_w_, w64_u8_] <;> rfl) | (simp [errW_none, errW_some] <;> rfl) | (simp only [← hji24, ← hji33]; first | rfl | (simp [errW_none, errW_some] <;> rfl)) | (simp [*, errW_none, errW_some] <;> rfl), by (with_reducible repeat (first | apply Kd.N_alloc | apply Kd.N_drewN | apply Kd.N_drew)); exact HO205.out, by exact hopb HB.out, by repeat (first | exact HK.out | apply Kept.alloc | apply Kept.drewN | apply Kept.drew)⟩
                     ·rw [if_neg c36] at H
                      exact absurd H (by simp)
                    ·rw [if_neg c35] at H
                     exact absurd H (by simp)
                   ·rw [if_neg c34] at H
                    exact absurd H (by simp)
                  ·rw [if_neg c32] at H
                   exact absurd H (by simp)
                 ·rw [if_neg c31] at H
                  exact absurd H (by simp)
                ·rw [if_neg c30] at H
                 exact absurd H (by simp)
               ·rw [if_neg c28] at H
                have c28b0 : decide ((y181.length : Int) ≤ 4) = false := decide_eq_false c28
                have c28b1 : decide (y181.length ≤ 4) = false := decide_eq_false (by omega)
                clear c28
                by_cases c50 : x5_17 = a1
                ·rw [if_pos c50] at H
                 have c50b0 : (x5_17 == a1) = true := beq_iff_eq.mpr c50
                 have c50b1 : (x5_17 != a1) = false := bne_eq_false_iff_eq.mpr c50
                 clear c50
                 obtain ⟨y206, hy206⟩ : ∃ y_ : List (S65), y_ = (([] : List (S65))) := ⟨_, rfl⟩
                 replace H : (if 2 ≤ (y181.length : Int) then ((some (y181.take 2 : List (S65))).bind fun y209 => (if y206.length + y209.length < 5864062014805 then ((some (([] : List (S65)) : List (S65))).bind fun y218 => ((some (y181.drop 2 : List (S65))).bind fun y221 => (if y218.length + y221.length < 5864062014805 then (some ((l0.set (x5_17 : Int).toNat (⟨(y206 ++ y209)⟩ : S53)).set ((ji24) : Int).toNat (⟨(y218 ++ y221)⟩ : S53))) else (none)))) else (none))) else (none)) = some r := by first | (rw [hy206]; exact H) | exact H
                 have Ny206 := ak hy206
                 clear hy206
                 by_cases c51 : 2 ≤ (y181.length : Int)
                 ·rw [if_pos c51] at H
                  have c51b0 := eq_true c51
                  have c51b1 : decide (2 ≤ (y181.length : Int)) = true := decide_eq_true c51
                  clear c51
                  obtain ⟨y209, hy209⟩ : ∃ y_ : List (S65), y_ = (y181.take 2) := ⟨_, rfl⟩
                  replace H : (if y206.length + y209.length < 5864062014805 then ((some (([] : List (S65)) : List (S65))).bind fun y218 => ((some (y181.drop 2 : List (S65))).bind fun y221 => (if y218.length + y221.length < 5864062014805 then (some ((l0.set (x5_17 : Int).toNat (⟨(y206 ++ y209)⟩ : S53)).set ((ji24) : Int).toNat (⟨(y218 ++ y221)⟩ : S53))) else (none)))) else (none)) = some r := by first | (rw [hy209]; exact H) | exact H
                  have Ny209 := ak hy209
                  clear hy209
                  by_cases c52 : y206.length + y209.length < 5864062014805
                  ·rw [if_pos c52] at H
                   have LMc52 := ak c52
                   clear c52
                   obtain ⟨y214, hy214⟩ : ∃ y_ : List (S65), y_ = (y206 ++ y209) := ⟨_, rfl⟩
                   replace H : ((some (([] : List (S65)) : List (S65))).bind fun y218 => ((some (y181.drop 2 : List (S65))).bind fun y221 => (if y218.length + y221.length < 5864062014805 then (some ((l0.set (x5_17 : Int).toNat (⟨y214⟩ : S53)).set ((ji24) : Int).toNat (⟨(y218 ++ y221)⟩ : S53))) else (none)))) = some r := by first | (rw [hy214]; exact H) | exact H
                   have Ny214 := ak hy214
                   clear hy214
                   obtain ⟨y217, hy217⟩ : ∃ y_ : List (S53), y_ = (l0.set (x5_17 : Int).toNat (⟨y214⟩ : S53)) := ⟨_, rfl⟩
                   replace H : ((some (([] : List (S65)) : List (S65))).bind fun y218 => ((some (y181.drop 2 : List (S65))).bind fun y221 => (if y218.length + y221.length < 5864062014805 then (some (y217.set ((ji24) : Int).toNat (⟨(y218 ++ y221)⟩ : S53))) else (none)))) = some r := by first | (rw [hy217]; exact H) | exact H
                   have Ny217 := ak hy217
                   clear hy217
                   obtain ⟨y218, hy218⟩ : ∃ y_ : List (S65), y_ = (([] : List (S65))) := ⟨_, rfl⟩
                   replace H : ((some (y181.drop 2 : List (S65))).bind fun y221 => (if y218.length + y221.length < 5864062014805 then (some (y217.set ((ji24) : Int).toNat (⟨(y218 ++ y221)⟩ : S53))) else (none))) = some r := by first | (rw [hy218]; exact H) | exact H
                   have Ny218 := ak hy218
                   clear hy218
                   have c54b0 := eq_true (of_decide_eq_true (by assumption) : 2 ≤ (y181.length : Int))
                   obtain ⟨y221, hy221⟩ : ∃ y_ : List (S65), y_ = (y181.drop 2) := ⟨_, rfl⟩
                   replace H : (if y218.length + y221.length < 5864062014805 then (some (y217.set ((ji24) : Int).toNat (⟨(y218 ++ y221)⟩ : S53))) else (none)) = some r := by first | (rw [hy221]; exact H) | exact H
                   have Ny221 := ak hy221
                   clear hy221
                   by_cases c55 : y218.length + y221.length < 5864062014805
                   ·rw [if_pos c55] at H
                    have LMc55 := ak c55
                    clear c55
                    obtain ⟨y226, hy226⟩ : ∃ y_ : List (S65), y_ = (y218 ++ y221) := ⟨_, rfl⟩
                    replace H : (some (y217.set ((ji24) : Int).toNat (⟨y226⟩ : S53))) = some r := by first | (rw [hy226]; exact H) | exact H
                    have Ny226 := ak hy226
                    clear hy226
                    obtain ⟨y229, hy229⟩ : ∃ y_ : List (S53), y_ = (y217.set ((ji24) : Int).toNat (⟨y226⟩ : S53)) := ⟨_, rfl⟩
                    replace H : (some y229) = some r := by first | (rw [hy229]; exact H) | exact H
                    have Ny229 := ak hy229
                    clear hy229
                    obtain rfl := Option.some.inj H
                    try go_wp2
                    replace HO_0 := ak (Kd.N_drew HO_0.out)
                    replace HK := ak (Kept.drew HK.out)
                    replace HB := ak (below_drew1 HB.out)
                    have p176 : 0 ≤ (x5_17 : Int) := of_decide_eq_true (by assumption)
                    have q176 : x5_17 < (l0.length : Int) := of_decide_eq_true (by assumption)
                    obtain ⟨ad176, A176_0, c176_0, e176, hx176_0, hl176_0, hi176_0⟩ := at_T53 (Kd.N_reads' HO_0.out).2.2 x5_17 p176 q176
                    cases e176
                    obtain ⟨ce176, hce176, hMe176, hcc176⟩ := Kd.N_get HO_0.out z53 x5_17 p176 (by first | exact q176 | exact of_decide_eq_true (by assumption) | (have e_ := (Kd.N_reads' HO_0.out).1; omega))
                    obtain ⟨ua176_0, uc176_0, rfl, ul176_0, ge176_0⟩ := k53_openF hMe176
                    have hv176_0 := hcc176 0 _ rfl
                    rw [Nat.add_zero, show (k53).sz = 1 from rfl, Nat.mul_one] at hv176_0
                    replace hv176_0 := Option.some.inj (hv176_0.symm.trans hx176_0)
                    injection hv176_0 with hva_ hvn_ hvc_
                    rw [hva_] at ge176_0
                    rw [hvc_] at ul176_0
                    have HL176_0 := ak (show Kd.V k65 65 _ w0.heap.size _ _ ((rd_T53 l0 x5_17).f0) from Kd.V_mk ul176_0 ge176_0)
                    clear hva_ hvn_ hvc_ ge176_0 ul176_0
                    clear hcc176 hce176
                    have HR176_0 := ak hi176_0
                    have HC176_0 := ak hl176_0
                    clear hi176_0 hl176_0
                    replace p176 := eq_true p176
                    replace q176 := eq_true q176
                    have p180 : 0 ≤ ((ji24) : Int) := of_decide_eq_true (by assumption)
                    have q180 : (ji24) < (l0.length : Int) := of_decide_eq_true (by assumption)
                    obtain ⟨ad180, A180_0, c180_0, e180, hx180_0, hl180_0, hi180_0⟩ := at_T53 (Kd.N_reads' HO_0.out).2.2 (ji24) p180 q180
                    obtain rfl : ad176 = ad180 := (by injection e180)
                    obtain ⟨ce180, hce180, hMe180, hcc180⟩ := Kd.N_get HO_0.out z53 (ji24) p180 (by first | exact q180 | exact of_decide_eq_true (by assumption) | (have e_ := (Kd.N_reads' HO_0.out).1; omega))
                    obtain ⟨ua180_0, uc180_0, rfl, ul180_0, ge180_0⟩ := k53_openF hMe180
                    have hv180_0 := hcc180 0 _ rfl
                    rw [Nat.add_zero, show (k53).sz = 1 from rfl, Nat.mul_one] at hv180_0
                    replace hv180_0 := Option.some.inj (hv180_0.symm.trans hx180_0)
                    injection hv180_0 with hva_ hvn_ hvc_
                    rw [hva_] at ge180_0
                    rw [hvc_] at ul180_0
                    have HL180_0 := ak (show Kd.V k65 65 _ w0.heap.size _ _ ((rd_T53 l0 (ji24)).f0) from Kd.V_mk ul180_0 ge180_0)
                    clear hva_ hvn_ hvc_ ge180_0 ul180_0
                    clear hcc180 hce180
                    have HR180_0 := ak hi180_0
                    have HC180_0 := ak hl180_0
                    clear hi180_0 hl180_0
                    replace p180 := eq_true p180
                    replace q180 := eq_true q180
                    refine start_ (n := 15) (S := fun w' => w'.cell? (ad176.add (x5_17).toNat) = some (.slice A176_0 ((rd_T53 l0 x5_17).f0).length c176_0) ∧ w'.cell? (ad176.add ((ji24)).toNat) = some (.slice A180_0 ((rd_T53 l0 (ji24)).f0).length c180_0)) (ds := []) #[U,U,U,U,U,U,U,U,U,U,U,U,U,U,U] (by kernel_rfl) rfl rfl ⟨hx176_0, hx180_0⟩ (fun hHeld => ?_); refine with_tabW spec_l6Mend.tab8 spec_l6Mend.bits8 (fun HT_ HW_ => ?_)
                    generalize wc.drew = w57 at HO_0 HK HB HL176_0 HL180_0 HR176_0 HR180_0 hx176_0 hx180_0 hHeld ⊢
                    refine pu 1 (some 43) #[U,T,U,U,U,U,U,U,U,U,U,U,U,U,U] (any_of HT_.out (by kernel_rfl)) ?_
                    refine pu 2 (some 44) #[U,T,T,U,U,U,U,U,U,U,U,U,U,U,U] (any_of HT_.out (by kernel_rfl)) ?_
                    refine pu 3 (some 45) #[U,T,T,T,U,U,U,U,U,U,U,U,U,U,U] (any_of HT_.out (by kernel_rfl)) ?_
                    refine pu 4 (some 46) #[U,T,T,T,T,U,U,U,U,U,U,U,U,U,U] (any_of HT_.out (by kernel_rfl)) ?_
                    refine pu 7 (some 49) #[U,T,T,T,T,U,U,T,U,U,U,U,U,U,U] (any_of HT_.out (by kernel_rfl)) ?_
                    refine pu 8 (some 50) #[U,T,T,T,T,U,U,T,T,U,U,U,U,U,U] (any_of HT_.out (by kernel_rfl)) ?_
                    refine pu 9 (some 51) #[U,T,T,T,T,U,U,T,T,T,U,U,U,U,U] (any_of HT_.out (by kernel_rfl)) ?_
                    refine pu 10 (some 52) #[U,T,T,T,T,U,U,T,T,T,T,U,U,U,U] (any_of HT_.out (by kernel_rfl)) ?_
                    refine pu 11 (some 53) #[U,T,T,T,T,U,U,T,T,T,T,T,U,U,U] (any_of HT_.out (by kernel_rfl)) ?_
                    refine take_ (i := 5) (N := some 47) (v := ?_) (a' := ?_) #[U,T,T,T,T,T,U,T,T,T,T,T,U,U,U] rfl rfl (take_ofW HT_.out HW_.out (by kernel_rfl)) (fun _ _ _ h => h) (Or.inl ⟨by rfl, ?_⟩) hHeld ?_ ?_
                    rotate_left
                    ·rintro w' ⟨s0, s1⟩
                     go_simp
                     with_reducible rfl
                    rotate_left
                    ·simp only [Act.put, lT, lZ, lS, i64_w, i32_w]
                     rfl
                    refine take_ (i := 12) (N := some 54) (v := ?_) (a' := ?_) #[U,T,T,T,T,T,U,T,T,T,T,T,T,U,U] rfl rfl (take_ofW HT_.out HW_.out (by kernel_rfl)) (fun _ _ _ h => h) (Or.inl ⟨by rfl, ?_⟩) hHeld ?_ ?_
                    rotate_left
                    ·rintro w' ⟨s0, s1⟩
                     go_simp
                     with_reducible rfl
                    rotate_left
                    ·simp only [Act.put, lT, lZ, lS, i64_w, i32_w]
                     rfl
                    refine one_ (i := 0) (N := some 42) #[T,T,T,T,T,T,U,T,T,T,T,T,T,U,U] rfl rfl (one_of HT_.out (by kernel_rfl)) (by decide) (fun K hK => ?_)
                    refine Kd.R_lit_step k65 _ 65 ?hg (N := 42) ?hd (xs := ([] : List (S65))) (inner := []) (ok := fun _ => True) (okp := fun _ => True) ?hr ?hp (fun _ hk => hk) trivial (Below.refl _ _) (Nat.le_refl _) (by simp) ?_; (case hd => rfl); (case hg => rfl); (case hr => go_simp <;> rfl); (case hp => exact (Reps.none _ _))
                    intro v174 w58 ho59 hb hg_ hnew_
                    have HS0_ := (hb.cell (World.block_lt_of_cell? _ _ (hHeld.1))).trans (hHeld.1)
                    have HS1_ := (hb.cell (World.block_lt_of_cell? _ _ (hHeld.2))).trans (hHeld.2)
                    clear hg_ hnew_
                    (first | rw [← Ny173.out] at ho59 | (simp only [Int.reduceToNat] at ho59; rw [← Ny173.out] at ho59))
                    replace HO_0 := ak (Kd.N_elder' (hN HO_0.out) (Kd.R_base ho59) hb)
                    replace HL176_0 := ak (Kd.V_elder' (by (with_reducible repeat (first | apply Kd.V_alloc | apply Kd.V_drewN | apply Kd.V_drew)); exact HL176_0.out) (Kd.R_base ho59) hb)
                    replace HL180_0 := ak (Kd.V_elder' (by (with_reducible repeat (first | apply Kd.V_alloc | apply Kd.V_drewN | apply Kd.V_drew)); exact HL180_0.out) (Kd.R_base ho59) hb)
                    have HO175 := ak (Kd.R_lower (Kd.R_newM (M := fun k_ => (P0_ k_ ∨ w.heap.size ≤ k_)) ho59 (by first | exact HK.out.1 | exact (show Kept w _ (fun k_ => P0_ k_) from by repeat (first | exact HK.out | apply Kept.alloc | apply Kept.drewN | apply Kept.drew)).1) (fun k_ h_ => .inr h_)) (below_size (by exact hopb HB.out)))
                    replace HR176_0 := ak (Kd.C_below (by repeat (first | (with_reducible exact HR176_0.out) | (with_reducible refine Kd.C_alloc ?_ _) | (with_reducible refine Kd.C_drewN ?_ _) | (with_reducible refine Kd.C_drew ?_) | exact HR176_0.out)) hb)
                    replace HR180_0 := ak (Kd.C_below (by repeat (first | (with_reducible exact HR180_0.out) | (with_reducible refine Kd.C_alloc ?_ _) | (with_reducible refine Kd.C_drewN ?_ _) | (with_reducible refine Kd.C_drew ?_) | exact HR180_0.out)) hb)
                    replace HK := ak (Kept.below (S := (fun k_ => P0_ k_)) (by repeat (first | exact HK.out | apply Kept.alloc | apply Kept.drewN | apply Kept.drew)) hb)
                    replace HB := ak (below_step (by exact hopb HB.out) hb)
                    clear hb ho59
                    refine hK.out _ _ ⟨HS0_, HS1_⟩ (fun hHeld => ?_)
                    clear hK K
                    refine norm_ (a' := ?_) ?_ ?_
                    rotate_left
                    ·show Act.put _ (some 42) _ = _
                     simp only [Act.put, lT, lZ, lS, i64_w, i32_w]
                     rfl
                    refine one_ (i := 6) (N := some 48) #[T,T,T,T,T,T,T,T,T,T,T,T,T,U,U] rfl rfl (one_of HT_.out (by kernel_rfl)) (by decide) (fun K hK => ?_)
                    refine Kd.R_append_rows_step k65 (w0 := w0) w0.heap.size (by rfl) (.tmp 42) (.tmp 47) 36 65 (.agg #[(.string ⟨#[]⟩), (.int .i64 0)]) 24 rfl Try.underlying36 info65 rfl (by decide) (by omega) v174 y173 ((rd_T53 l0 x5_17).f0) _ _ _ (fun k_ => (P0_ k_ ∨ w.heap.size ≤ k_)) (fun _ => False) rfl rfl ?aO ?aR (fun _ _ h => h) (fun _ h => h.elim) ?aF ?aB ?aS ?aL ?_
                    (case aR => exact hC (by repeat (first | (with_reducible exact HR176_0.out) | (with_reducible refine Kd.C_alloc ?_ _) | (with_reducible refine Kd.C_drewN ?_ _) | (with_reducible refine Kd.C_drew ?_) | exact HR176_0.out)))
                    (case aB => exact (by exact hopb HB.out))
                    (case aF => exact (fun k_ hk => (.inr (Nat.le_trans (by first | exact HK.out.1 | exact (show Kept w _ (fun k_ => P0_ k_) from by repeat (first | exact HK.out | apply Kept.alloc | apply Kept.drewN | apply Kept.drew)).1) hk))))
                    (case aO => exact (by (with_reducible repeat (first | apply Kd.R_alloc | apply Kd.R_drewN | apply Kd.R_drew)); exact Kd.R_mono HO175.out (fun _ hk => hk.1)))
                    (case aS => exact (below_size (by exact hopb HB.out)))
                    (case aL => have := LMc23.out; omega)
                    intro v178 w60 ho hb hg hat
                    have HS0_ := cell_grown hg (hHeld.1) (by first | (rw [add_block]; exact (HO_0.out.1 _ rfl).2) | (show some (Addr.add _ _).block ≠ _; rw [add_block]; exact (HO_0.out.1 _ rfl).2) | exact (HO_0.out.1 _ rfl).2)
                    have HS1_ := cell_grown hg (hHeld.2) (by first | (rw [add_block]; exact (HO_0.out.1 _ rfl).2) | (show some (Addr.add _ _).block ≠ _; rw [add_block]; exact (HO_0.out.1 _ rfl).2) | exact (HO_0.out.1 _ rfl).2)
                    rw [← Ny177.out] at ho
                    replace HO_0 := ak (Kd.N_afterv (ok := (fun k_ => (P0_ k_ ∨ w.heap.size ≤ k_))) (hN HO_0.out) hg hat)
                    replace HL176_0 := ak (Kd.V_afterv (ok := (fun k_ => (P0_ k_ ∨ w.heap.size ≤ k_) ∧ some k_ ≠ (.slice (some ad176) l0.length co19 : Value).ownBlock)) (by (with_reducible repeat (first | apply Kd.V_alloc | apply Kd.V_drewN | apply Kd.V_drew)); exact HL176_0.out) hg hat)
                    replace HL180_0 := ak (Kd.V_afterv (ok := (fun k_ => (P0_ k_ ∨ w.heap.size ≤ k_) ∧ some k_ ≠ (.slice (some ad176) l0.length co19 : Value).ownBlock)) (by (with_reducible repeat (first | apply Kd.V_alloc | apply Kd.V_drewN | apply Kd.V_drew)); exact HL180_0.out) hg hat)
                    replace HB := ak (hb)
                    replace HK := ak (Kept.of_grown (S := (fun k_ => P0_ k_)) hg (by repeat (first | exact HK.out | apply Kept.alloc | apply Kept.drewN | apply Kept.drew)) (fun k_ e_ => (HO175.out.1 k_ e_).1))
                    have HO179 := ak (ho)
                    clear HO175
                    clear ho hb hg hat
                    refine hK.out _ _ ⟨HS0_, HS1_⟩ (fun hHeld => ?_)
                    clear hK K
                    refine norm_ (a' := ?_) ?_ ?_
                    rotate_left
                    ·show Act.put _ (some 48) _ = _
                     simp only [Act.put, lT, lZ, lS, i64_w, i32_w]
                     rfl
                    refine one_ (i := 13) (N := some 55) #[T,T,T,T,T,T,T,T,T,T,T,T,T,T,U] rfl rfl (one_of HT_.out (by kernel_rfl)) (by decide) (fun K hK => ?_)
                    refine Kd.R_append_rows_step k65 (w0 := w0) w0.heap.size (by rfl) (.tmp 48) (.tmp 54) 36 65 (.agg #[(.string ⟨#[]⟩), (.int .i64 0)]) 24 rfl Try.underlying36 info65 rfl (by decide) (by omega) v178 y177 ((rd_T53 l0 (ji24)).f0) _ _ _ (fun k_ => (P0_ k_ ∨ w.heap.size ≤ k_)) (fun _ => False) rfl rfl ?aO ?aR (fun _ _ h => h) (fun _ h => h.elim) ?aF ?aB ?aS ?aL ?_
                    (case aR => repeat (first | exact ((Kd.V_reads' (by (with_reducible repeat (first | apply Kd.V_alloc | apply Kd.V_drewN | apply Kd.V_drew)); exact HL180_0.out)).2.2) | (with_reducible refine Kd.C_alloc ?_ _) | (with_reducible refine Kd.C_drewN ?_ _) | (with_reducible refine Kd.C_drew ?_)))
                    (case aB => exact (by exact hopb HB.out))
                    (case aF => exact (fun k_ hk => (.inr (Nat.le_trans (by first | exact HK.out.1 | exact (show Kept w _ (fun k_ => P0_ k_) from by repeat (first | exact HK.out | apply Kept.alloc | apply Kept.drewN | apply Kept.drew)).1) hk))))
                    (case aO => exact (hR HO179.out))
                    (case aS => exact (below_size (by exact hopb HB.out)))
                    (case aL => have := LMc27.out; omega)
                    intro v182 w61 ho hb hg hat
                    have HS0_ := cell_grown hg (hHeld.1) (by first | (rw [add_block]; exact (HO_0.out.1 _ rfl).2) | (show some (Addr.add _ _).block ≠ _; rw [add_block]; exact (HO_0.out.1 _ rfl).2) | exact (HO_0.out.1 _ rfl).2)
                    have HS1_ := cell_grown hg (hHeld.2) (by first | (rw [add_block]; exact (HO_0.out.1 _ rfl).2) | (show some (Addr.add _ _).block ≠ _; rw [add_block]; exact (HO_0.out.1 _ rfl).2) | exact (HO_0.out.1 _ rfl).2)
                    rw [← Ny181.out] at ho
                    replace HO_0 := ak (Kd.N_afterv (ok := (fun k_ => (P0_ k_ ∨ w.heap.size ≤ k_))) (hN HO_0.out) hg hat)
                    replace HL176_0 := ak (Kd.V_afterv (ok := (fun k_ => (P0_ k_ ∨ w.heap.size ≤ k_) ∧ some k_ ≠ (.slice (some ad176) l0.length co19 : Value).ownBlock)) (by (with_reducible repeat (first | apply Kd.V_alloc | apply Kd.V_drewN | apply Kd.V_drew)); exact HL176_0.out) hg hat)
                    replace HL180_0 := ak (Kd.V_afterv (ok := (fun k_ => (P0_ k_ ∨ w.heap.size ≤ k_) ∧ some k_ ≠ (.slice (some ad176) l0.length co19 : Value).ownBlock)) (by (with_reducible repeat (first | apply Kd.V_alloc | apply Kd.V_drewN | apply Kd.V_drew)); exact HL180_0.out) hg hat)
                    replace HB := ak (hb)
                    replace HK := ak (Kept.of_grown (S := (fun k_ => P0_ k_)) hg (by repeat (first | exact HK.out | apply Kept.alloc | apply Kept.drewN | apply Kept.drew)) (fun k_ e_ => (HO179.out.1 k_ e_)))
                    have HO183 := ak (ho)
                    clear HO179
                    clear ho hb hg hat
                    refine hK.out _ _ ⟨HS0_, HS1_⟩ (fun hHeld => ?_)
                    clear hK K
                    refine norm_ (a' := ?_) ?_ ?_
                    rotate_left
                    ·show Act.put _ (some 55) _ = _
                     simp only [Act.put, lT, lZ, lS, i64_w, i32_w]
                     rfl
                    refine pu 14 (some 6) #[T,T,T,T,T,T,T,T,T,T,T,T,T,T,T] (any_of HT_.out (by kernel_rfl)) ?_
                    refine done_ (done_of HT_.out (by kernel_rfl)) ?_
                    obtain ⟨Ao62, co62, eo62⟩ := Kd.R_slice HO183.out
                    subst eo62
                    try go_wp2_with (first | ((with_reducible refine gate_dst (N := 83) rfl ?_); (try (refine gate_guard (by rfl) ?_; dsimp only)); refine Kd.R_lit k65 _ 65 ?hg (N := 83) ?hd (xs := ([] : List (S65))) (inner := []) (ok := fun _ => True) (okp := fun _ => True) ?hr ?hp (fun _ hk => hk) trivial (Below.refl _ _) (Nat.le_refl _) (by simp) ?_; (case hd => rfl); (case hg => rfl); (case hr => go_simp <;> rfl); (case hp => exact (Reps.none _ _)); intro v207 w63 ho64 hb hg_ hnew_; clear hg_ hnew_; (first | rw [← Ny206.out] at ho64 | (simp only [Int.reduceToNat] at ho64; rw [← Ny206.out] at ho64)); replace HO_0 := ak (Kd.N_elder' (hN HO_0.out) (Kd.R_base ho64) hb); replace HL176_0 := ak (Kd.V_elder' (by (with_reducible repeat (first | apply Kd.V_alloc | apply Kd.V_drewN | apply Kd.V_drew)); exact HL176_0.out) (Kd.R_base ho64) hb); replace HL180_0 := ak (Kd.V_elder' (by (with_reducible repeat (first | apply Kd.V_alloc | apply Kd.V_drewN | apply Kd.V_drew)); exact HL180_0.out) (Kd.R_base ho64) hb); have HO208 := ak (Kd.R_lower (Kd.R_new' (Kd.R_newM (M := fun k_ => (P0_ k_ ∨ w.heap.size ≤ k_)) ho64 (by first | exact HK.out.1 | exact (show Kept w _ (fun k_ => P0_ k_) from by repeat (first | exact HK.out | apply Kept.alloc | apply Kept.drewN | apply Kept.drew)).1) (fun k_ h_ => .inr h_)) (Kd.R_lt (hR HO183.out))) (below_size (by exact hopb HB.out))); replace HO183 := ak (Kd.R_elder' (hR HO183.out) (Kd.R_base ho64) hb); replace HK := ak (Kept.below (S := (fun k_ => P0_ k_)) (by repeat (first | exact HK.out | apply Kept.alloc | apply Kept.drewN | apply Kept.drew)) hb); replace HB := ak (below_step (by exact hopb HB.out) hb); clear hb ho64; have q65 : (2 : Int) ≤ ((y181.length : Int) : Int) := of_decide_eq_true (by assumption); obtain ⟨i065, hi065, _, hsz65, _⟩ := info_parts info65; have hroom65 : y181.length ≤ co62 := (Kd.R_reads' HO183.out).2.1; have hC65 : Kd.F k65 _ _ Ao62 y181.length y181 := (Kd.V_at (base := w0.heap.size) (Kd.R_V (Kd.R_apart' (HO183.out) (Kd.N_typed HO_0.out) (by decide)))).2.2; have hcut65 := cut_to (P := Try.prog) 36 65 .i64 Try.underlying36 hi065 Ao62 y181.length co62 2 (by omega) q65 hroom65; have hr65 := Kd.F_take (m := 2) hC65 (by omega); have hy65 : y209.length = (2 : Int).toNat := (by rw [Ny209.out, List.length_take]; omega); rw [← Ny209.out] at hr65; rw [← hy65] at hcut65; have HO213 := ak (show Kd.V k65 65 _ w0.heap.size _ (.slice Ao62 y209.length co62) y209 from Kd.V_mk (by omega) hr65); have HC213 := ak (show y209.length ≤ co62 from by omega); clear hr65 hC65 hroom65 hi065 hsz65; have KY65 := ak hy65; clear hy65; replace q65 := eq_true q65) | ((with_reducible refine gate_builtin (b := .append) (xs := #[.tmp 83, .tmp 86]) rfl ?_); (try (refine gate_guard (by rfl) ?_; dsimp only)); at_builtin; refine Kd.R_append_rows k65 (w0 := w0) w0.heap.size rfl (.tmp 83) (.tmp 86) 36 65 (.agg #[(.string ⟨#[]⟩), (.int .i64 0)]) 24 rfl Try.underlying36 info65 rfl (by decide) (by omega) v207 y206 y209 _ _ _ (fun k_ => (P0_ k_ ∨ w.heap.size ≤ k_) ∧ some k_ ≠ (.slice Ao62 y181.length co62 : Value).ownBlock) (fun _ => False) rfl rfl ?aO ?aR (fun _ _ h => h) (fun _ h => h.elim) ?aF ?aB ?aS ?aL ?_; (case aR => exact hC (Kd.V_reads' HO213.out).2.2); (case aB => exact (by exact hopb HB.out)); (case aF => exact (fun k_ hk => ⟨(.inr (Nat.le_trans (by first | exact HK.out.1 | exact (show Kept w _ (fun k_ => P0_ k_) from by repeat (first | exact HK.out | apply Kept.alloc | apply Kept.drewN | apply Kept.drew)).1) hk)), Kd.fresh' (Kd.R_lt (hR HO183.out)) k_ hk⟩)); (case aO => exact (by (with_reducible repeat (first | apply Kd.R_alloc | apply Kd.R_drewN | apply Kd.R_drew)); exact Kd.R_mono HO208.out (fun _ hk => ⟨hk.1.1, hk.2⟩))); (case aS => exact (below_size (by exact hopb HB.out))); (case aL => have := LMc52.out; omega); intro v215 w66 ho hb hg hat; rw [← Ny214.out] at ho; replace HO_0 := ak (Kd.N_afterv (ok := (fun k_ => (P0_ k_ ∨ w.heap.size ≤ k_) ∧ some k_ ≠ (.slice Ao62 y181.length co62 : Value).ownBlock)) (hN HO_0.out) hg hat); replace HL176_0 := ak (Kd.V_afterv (ok := (fun k_ => (P0_ k_ ∨ w.heap.size ≤ k_) ∧ some k_ ≠ (.slice (some ad176) l0.length co19 : Value).ownBlock ∧ some k_ ≠ (.slice Ao62 y181.length co62 : Value).ownBlock)) (by (with_reducible repeat (first | apply Kd.V_alloc | apply Kd.V_drewN | apply Kd.V_drew)); exact Kd.V_mono HL176_0.out (fun _ hk => ⟨⟨hk.1.1.1, ⟨hk.1.1.2, hk.1.2⟩⟩, hk.2⟩)) hg hat); replace HL180_0 := ak (Kd.V_afterv (ok := (fun k_ => (P0_ k_ ∨ w.heap.size ≤ k_) ∧ some k_ ≠ (.slice (some ad176) l0.length co19 : Value).ownBlock ∧ some k_ ≠ (.slice Ao62 y181.length co62 : Value).ownBlock)) (by (with_reducible repeat (first | apply Kd.V_alloc | apply Kd.V_drewN | apply Kd.V_drew)); exact Kd.V_mono HL180_0.out (fun _ hk => ⟨⟨hk.1.1.1, ⟨hk.1.1.2, hk.1.2⟩⟩, hk.2⟩)) hg hat); replace HO183 := ak (Kd.R_after (ok := (fun k_ => (P0_ k_ ∨ w.heap.size ≤ k_))) (hR HO183.out) hg hat); replace HO213 := ak (Kd.V_afterv (ok := (fun k_ => (P0_ k_ ∨ w.heap.size ≤ k_) ∧ some k_ ≠ (.slice (some ad176) l0.length co19 : Value).ownBlock)) (by (with_reducible repeat (first | apply Kd.V_alloc | apply Kd.V_drewN | apply Kd.V_drew)); exact Kd.V_mono HO213.out (fun _ hk => ⟨⟨hk.1.1, hk.2⟩, hk.1.2⟩)) hg hat); replace HB := ak (hb); replace HK := ak (Kept.of_grown (S := (fun k_ => P0_ k_)) hg (by repeat (first | exact HK.out | apply Kept.alloc | apply Kept.drewN | apply Kept.drew)) (fun k_ e_ => (HO208.out.1 k_ e_).1.1)); have HO216 := ak (ho); clear HO208; clear ho hb hg hat; have p53 : 0 ≤ (x5_17 : Int) := of_decide_eq_true (by assumption); have q53 : (x5_17 : Int) < ((l0.length : Int) : Int) := of_decide_eq_true (by assumption); obtain ⟨go53, co53, eo53, gb53, gl53, cl53, HG53⟩ := Kd.N_form HO_0.out (by omega); (first | cases eo53 | (injection eo53 with ea_ en_ ec_; (first | subst ea_ | (injection ea_ with ea_; subst ea_)); subst ec_; clear en_)); have GB53 := ak gb53; have GG53 := ak HG53; clear gb53 gl53 HG53; have HMgo53 := ak (show (P0_ go53 ∨ w.heap.size ≤ go53) from (HO_0.out.1 _ rfl).1.1); (first | simp only [add_plain] at hx176_0 | skip); (first | simp only [add_plain] at hx180_0 | skip); obtain ⟨ce53, hcl53, hM53, hcc53, hfr53⟩ := Kd.N_elem HO_0.out z53 (x5_17 : Int) p53 q53; obtain ⟨ua53_0, uc53_0, rfl, ul53_0, ge53_0⟩ := k53_openF hM53; have hx53_0 := hcc53 0 _ rfl; have hf53_0 := hfr53 0; (try simp only [show (k53).sz = 1 from rfl, Nat.mul_one, Nat.add_zero] at hx53_0); (try simp only [show (k53).sz = 1 from rfl, Nat.mul_one, Nat.add_zero] at hf53_0); clear hcl53 hcc53 hfr53 hM53; replace p53 := eq_true p53; replace q53 := eq_true q53; have n_ := ak (Kd.N_mono (ok' := (fun k_ => (P0_ k_ ∨ w.heap.size ≤ k_) ∧ some k_ ≠ (.slice Ao62 y181.length co62 : Value).ownBlock ∧ some k_ ≠ (v215 : Value).ownBlock)) HO_0.out (fun k_ hk => ⟨hk.1.1, ⟨hk.1.2, hk.2⟩⟩)); clear HO_0; have HO_0 := n_; clear n_; have HX67 := ak (show Kd.N k53 53 w66 w0.heap.size (fun k_ => (P0_ k_ ∨ w.heap.size ≤ k_) ∧ some k_ ≠ (.slice Ao62 y181.length co62 : Value).ownBlock) (.slice (some ⟨go53, 0, none⟩) l0.length co19) l0 from (by (with_reducible repeat (first | apply Kd.N_alloc | apply Kd.N_drewN | apply Kd.N_drew)); exact Kd.N_mono HO_0.out (fun _ hk => ⟨hk.1, hk.2.1⟩))); obtain ⟨ce67, hcl67, hM67, hcc67, hfr67⟩ := Kd.N_elem HX67.out z53 (x5_17 : Int) (of_decide_eq_true (by assumption)) (by have h_ : (x5_17 : Int) < ((l0.length : Int) : Int) := of_decide_eq_true (by assumption); first | exact h_ | (have e_ := (Kd.N_reads' HO_0.out).1; omega) | simpa using h_); obtain ⟨ua67_0, uc67_0, rfl, ul67_0, ge67_0⟩ := k53_openF hM67; have HP67 := Kd.N_seg HX67.out (x5_17 : Int) (of_decide_eq_true (by assumption)) (by have h_ : (x5_17 : Int) < ((l0.length : Int) : Int) := of_decide_eq_true (by assumption); first | exact h_ | (have e_ := (Kd.N_reads' HO_0.out).1; omega) | simpa using h_) (seg := [v215]) (j := 0) hcl67 hcc67 (show 1 ≤ 1 from by decide) (x' := (⟨y214⟩ : S53)) (by have hmk_ := Kd.R_mono (ok' := (fun k_ => ((fun k_ => (P0_ k_ ∨ w.heap.size ≤ k_) ∧ some k_ ≠ (.slice Ao62 y181.length co62 : Value).ownBlock)) k_ ∧ k_ ≠ go53)) (Kd.R_apart' (HO216.out) (Kd.N_typed HO_0.out) (by decide)) (fun k_ hk => ⟨⟨hk.1.1, hk.1.2⟩, fun e_ => (hk.2) (by rw [e_]; rfl)⟩); obtain ⟨Am_, cm_, em_⟩ := Kd.R_slice hmk_; rw [em_] at hmk_ ⊢; exact k53_mkF _ _ (⟨y214⟩ : S53) (Kd.R_reads' hmk_).2.1 (Kd.R_F hmk_)) (fun _ hk => hk); have hx67_0 := hcc67 0 _ rfl; (try simp only [show (k53).sz = 1 from rfl, Nat.mul_one, Nat.add_zero] at hx67_0); have hf67_0 := hfr67 0; (try simp only [show (k53).sz = 1 from rfl, Nat.mul_one, Nat.add_zero] at hf67_0); clear hcl67 hcc67 hfr67 hM67; (try simp only [show (k53).sz = 1 from rfl, Nat.mul_one, Nat.add_zero] at HP67); (try simp only [show (k53).sz = 1 from rfl, Nat.mul_one, Nat.add_zero] at HP67)) | ((with_reducible refine gate_store (t := 36) (p := 89) rfl ?_); refine store_event (t := 36) (p := 89) (v := ?vo_w68) (w1 := (w66.setCell ⟨go53, (x5_17 : Int).toNat, none⟩ (v215))) ?hg ?ho ?hn ?hr ?_; (case ho => rfl); (case hg => rfl); (case hn => rfl); (case hr => first | (go_simp; done) | (go_simp; rfl) | (obtain ⟨A_, c_, e_⟩ := Kd.R_slice (‹Aside0 (Kd.R _ _ _ _ _ v215 _)›).out; rw [e_]; go_simp <;> rfl) | (have one_ : Value.oneCell' v215 = true := (by (first | obtain ⟨A_, c_, e_⟩ := Kd.R_slice (‹Aside0 (Kd.R _ _ _ _ _ v215 _)›).out | obtain ⟨A_, c_, e_⟩ := Kd.N_slice (‹Aside0 (Kd.N _ _ _ _ _ v215 _)›).out | obtain ⟨A_, c_, e_⟩ := Kd.S_slice (‹Aside0 (Kd.S _ _ _ _ _ v215 _)›).out); rw [e_]; rfl); have sto_ := fun (a_ : Addr) m_ (w_ : World) => run_store Try.prog w_ a_ v215 m_ one_; go_simp <;> rfl)); intro w68 hw; have hg : w66.grownBy w68 (some go53) := (by rw [hw]; exact HP67.2); have hp_ : Kd.N k53 53 w68 w0.heap.size (fun k_ => (P0_ k_ ∨ w.heap.size ≤ k_) ∧ some k_ ≠ (.slice Ao62 y181.length co62 : Value).ownBlock) (.slice (some ⟨go53, 0, none⟩) l0.length co19) y217 := (by rw [hw, Ny217.out]; exact HP67.1); clear HP67; replace HL176_0 := ak (Kd.V_afterv (v := (.slice (some ⟨go53, 0, none⟩) l0.length co19)) (v1 := (.slice (some ⟨go53, 0, none⟩) l0.length co19)) (ok := (fun k_ => (P0_ k_ ∨ w.heap.size ≤ k_) ∧ some k_ ≠ (.slice Ao62 y181.length co62 : Value).ownBlock ∧ some k_ ≠ (v215 : Value).ownBlock)) (by (with_reducible repeat (first | apply Kd.V_alloc | apply Kd.V_drewN | apply Kd.V_drew)); exact Kd.V_mono HL176_0.out (fun _ hk => ⟨⟨hk.1.1, ⟨hk.1.2.2, hk.2⟩⟩, hk.1.2.1⟩)) hg (.inl rfl)); replace HL180_0 := ak (Kd.V_afterv (v := (.slice (some ⟨go53, 0, none⟩) l0.length co19)) (v1 := (.slice (some ⟨go53, 0, none⟩) l0.length co19)) (ok := (fun k_ => (P0_ k_ ∨ w.heap.size ≤ k_) ∧ some k_ ≠ (.slice Ao62 y181.length co62 : Value).ownBlock ∧ some k_ ≠ (v215 : Value).ownBlock)) (by (with_reducible repeat (first | apply Kd.V_alloc | apply Kd.V_drewN | apply Kd.V_drew)); exact Kd.V_mono HL180_0.out (fun _ hk => ⟨⟨hk.1.1, ⟨hk.1.2.2, hk.2⟩⟩, hk.1.2.1⟩)) hg (.inl rfl)); replace HO183 := ak (Kd.R_over' (v := (.slice (some ⟨go53, 0, none⟩) l0.length co19)) (hR HO183.out) (Kd.N_typed HO_0.out) (by decide) hg); replace HO213 := ak (Kd.V_afterv (v := (.slice (some ⟨go53, 0, none⟩) l0.length co19)) (v1 := (.slice (some ⟨go53, 0, none⟩) l0.length co19)) (ok := (fun k_ => (P0_ k_ ∨ w.heap.size ≤ k_) ∧ some k_ ≠ (v215 : Value).ownBlock)) (by (with_reducible repeat (first | apply Kd.V_alloc | apply Kd.V_drewN | apply Kd.V_drew)); exact Kd.V_mono HO213.out (fun _ hk => ⟨⟨hk.1.1, hk.2⟩, hk.1.2⟩)) hg (.inl rfl)); replace HB := ak ((by rw [hw]; exact below_set (HB.out) GB53.out : Below w0.heap.size w0 w68)); replace HK := ak (Kept.of_grown (S := (fun k_ => P0_ k_)) hg (by repeat (first | exact HK.out | apply Kept.alloc | apply Kept.drewN | apply Kept.drew)) (fun k_ e_ => (HO_0.out.1 k_ e_).1)); replace HO_0 := ak (hp_); clear HO216; clear hg hw hp_) | ((with_reducible refine gate_dst (N := 93) rfl ?_); (try (refine gate_guard (by rfl) ?_; dsimp only)); refine Kd.R_lit k65 _ 65 ?hg (N := 93) ?hd (xs := ([] : List (S65))) (inner := []) (ok := fun _ => True) (okp := fun _ => True) ?hr ?hp (fun _ hk => hk) trivial (Below.refl _ _) (Nat.le_refl _) (by simp) ?_; (case hd => rfl); (case hg => rfl); (case hr => go_simp <;> rfl); (case hp => exact (Reps.none _ _)); intro v219 w69 ho70 hb hg_ hnew_; clear hg_ hnew_; (first | rw [← Ny218.out] at ho70 | (simp only [Int.reduceToNat] at ho70; rw [← Ny218.out] at ho70)); replace HO_0 := ak (Kd.N_elder' (hN HO_0.out) (Kd.R_base ho70) hb); replace HL176_0 := ak (Kd.V_elder' (by (with_reducible repeat (first | apply Kd.V_alloc | apply Kd.V_drewN | apply Kd.V_drew)); exact HL176_0.out) (Kd.R_base ho70) hb); replace HL180_0 := ak (Kd.V_elder' (by (with_reducible repeat (first | apply Kd.V_alloc | apply Kd.V_drewN | apply Kd.V_drew)); exact HL180_0.out) (Kd.R_base ho70) hb); replace HO213 := ak (Kd.V_elder' (by (with_reducible repeat (first | apply Kd.V_alloc | apply Kd.V_drewN | apply Kd.V_drew)); exact HO213.out) (Kd.R_base ho70) hb); have HO220 := ak (Kd.R_lower (Kd.R_new' (Kd.R_newM (M := fun k_ => (P0_ k_ ∨ w.heap.size ≤ k_)) ho70 (by first | exact HK.out.1 | exact (show Kept w _ (fun k_ => P0_ k_) from by repeat (first | exact HK.out | apply Kept.alloc | apply Kept.drewN | apply Kept.drew)).1) (fun k_ h_ => .inr h_)) (Kd.R_lt (hR HO183.out))) (below_size (by exact hopb HB.out))); replace HO183 := ak (Kd.R_elder' (hR HO183.out) (Kd.R_base ho70) hb); replace HK := ak (Kept.below (S := (fun k_ => P0_ k_)) (by repeat (first | exact HK.out | apply Kept.alloc | apply Kept.drewN | apply Kept.drew)) hb); replace HB := ak (below_step (by exact hopb HB.out) hb); clear hb ho70; have q71 : (2 : Int) ≤ ((y181.length : Int) : Int) := of_decide_eq_true (by assumption); obtain ⟨i071, hi071, _, hsz71, _⟩ := info_parts info65; have hroom71 : y181.length ≤ co62 := (Kd.R_reads' HO183.out).2.1; have hC71 : Kd.F k65 _ _ Ao62 y181.length y181 := (Kd.V_at (base := w0.heap.size) (Kd.R_V (Kd.R_apart' (HO183.out) (Kd.N_typed HO_0.out) (by decide)))).2.2; have hcut71 := cut_from (P := Try.prog) 36 65 .i64 Try.underlying36 hi071 2 hsz71 Ao62 y181.length co62 2 (by omega) q71; have hr71 := Kd.F_cut (m := (2 : Int).toNat) (c := co62) hC71 (by omega) hroom71; obtain ⟨A71, hA71⟩ : ∃ A1, A1 = (if co62 = (2 : Int).toNat then Ao62 else (Ao62 : Option Addr).map (·.add ((2 : Int).toNat * 2))) := ⟨_, rfl⟩; obtain ⟨c71, hc71⟩ : ∃ c1, c1 = co62 - (2 : Int).toNat := ⟨_, rfl⟩; have hy71 : y221.length = y181.length - (2 : Int).toNat := (by rw [Ny221.out, List.length_drop] <;> omega); rw [show (y181).drop (2 : Int).toNat = y221 from Ny221.out.symm] at hr71; replace hr71 : Kd.F k65 _ _ A71 y221.length y221 := (by rw [hA71]; exact hr71); rw [← hy71, ← hA71, ← hc71] at hcut71; have HO225 := ak (show Kd.V k65 65 _ w0.heap.size _ (.slice A71 y221.length c71) y221 from Kd.V_mk (by rw [hy71, hc71]; exact Nat.sub_le_sub_right hroom71 _) hr71); have HC225 := ak (show y221.length ≤ c71 from by rw [hy71, hc71]; exact Nat.sub_le_sub_right hroom71 _); clear hr71 hC71 hroom71 hi071 hsz71 hc71; have KY71 := ak hy71; have KA71 := ak hA71; clear hy71 hA71; replace q71 := eq_true q71) | ((with_reducible refine gate_builtin (b := .append) (xs := #[.tmp 93, .tmp 96]) rfl ?_); (try (refine gate_guard (by rfl) ?_; dsimp only)); at_builtin; refine Kd.R_append_rows k65 (w0 := w0) w0.heap.size rfl (.tmp 93) (.tmp 96) 36 65 (.agg #[(.string ⟨#[]⟩), (.int .i64 0)]) 24 rfl Try.underlying36 info65 rfl (by decide) (by omega) v219 y218 y221 _ _ _ (fun k_ => (P0_ k_ ∨ w.heap.size ≤ k_) ∧ some k_ ≠ (.slice Ao62 y181.length co62 : Value).ownBlock) (fun _ => False) rfl rfl ?aO ?aR (fun _ _ h => h) (fun _ h => h.elim) ?aF ?aB ?aS ?aL ?_; (case aR => exact hC (Kd.V_reads' HO225.out).2.2); (case aB => exact (by exact hopb HB.out)); (case aF => exact (fun k_ hk => ⟨(.inr (Nat.le_trans (by first | exact HK.out.1 | exact (show Kept w _ (fun k_ => P0_ k_) from by repeat (first | exact HK.out | apply Kept.alloc | apply Kept.drewN | apply Kept.drew)).1) hk)), Kd.fresh' (Kd.R_lt (hR HO183.out)) k_ hk⟩)); (case aO => exact (by (with_reducible repeat (first | apply Kd.R_alloc | apply Kd.R_drewN | apply Kd.R_drew)); exact Kd.R_mono HO220.out (fun _ hk => ⟨hk.1.1, hk.2⟩))); (case aS => exact (below_size (by exact hopb HB.out))); (case aL => have := LMc55.out; omega); intro v227 w72 ho hb hg hat; rw [← Ny226.out] at ho; replace HO_0 := ak (Kd.N_afterv (ok := (fun k_ => (P0_ k_ ∨ w.heap.size ≤ k_) ∧ some k_ ≠ (.slice Ao62 y181.length co62 : Value).ownBlock)) (hN HO_0.out) hg hat); replace HL176_0 := ak (Kd.V_afterv (ok := (fun k_ => (P0_ k_ ∨ w.heap.size ≤ k_) ∧ some k_ ≠ (.slice (some ⟨go53, 0, none⟩) l0.length co19 : Value).ownBlock ∧ some k_ ≠ (.slice Ao62 y181.length co62 : Value).ownBlock)) (by (with_reducible repeat (first | apply Kd.V_alloc | apply Kd.V_drewN | apply Kd.V_drew)); exact Kd.V_mono HL176_0.out (fun _ hk => ⟨⟨hk.1.1.1, ⟨hk.1.2, hk.1.1.2.1⟩⟩, hk.2⟩)) hg hat); replace HL180_0 := ak (Kd.V_afterv (ok := (fun k_ => (P0_ k_ ∨ w.heap.size ≤ k_) ∧ some k_ ≠ (.slice (some ⟨go53, 0, none⟩) l0.length co19 : Value).ownBlock ∧ some k_ ≠ (.slice Ao62 y181.length co62 : Value).ownBlock)) (by (with_reducible repeat (first | apply Kd.V_alloc | apply Kd.V_drewN | apply Kd.V_drew)); exact Kd.V_mono HL180_0.out (fun _ hk => ⟨⟨hk.1.1.1, ⟨hk.1.2, hk.1.1.2.1⟩⟩, hk.2⟩)) hg hat); replace HO183 := ak (Kd.R_after (ok := (fun k_ => (P0_ k_ ∨ w.heap.size ≤ k_))) (by (with_reducible repeat (first | apply Kd.R_alloc | apply Kd.R_drewN | apply Kd.R_drew)); exact Kd.R_mono HO183.out (fun _ hk => ⟨hk.1.1, hk.2⟩)) hg hat); replace HO213 := ak (Kd.V_afterv (ok := (fun k_ => (P0_ k_ ∨ w.heap.size ≤ k_) ∧ some k_ ≠ (.slice (some ⟨go53, 0, none⟩) l0.length co19 : Value).ownBlock)) (by (with_reducible repeat (first | apply Kd.V_alloc | apply Kd.V_drewN | apply Kd.V_drew)); exact Kd.V_mono HO213.out (fun _ hk => ⟨⟨hk.1.1.1, hk.1.2⟩, hk.2⟩)) hg hat); replace HO225 := ak (Kd.V_afterv (ok := (fun k_ => (P0_ k_ ∨ w.heap.size ≤ k_) ∧ some k_ ≠ (.slice (some ⟨go53, 0, none⟩) l0.length co19 : Value).ownBlock)) (by (with_reducible repeat (first | apply Kd.V_alloc | apply Kd.V_drewN | apply Kd.V_drew)); exact Kd.V_mono HO225.out (fun _ hk => ⟨⟨hk.1.1.1, hk.2⟩, hk.1.2⟩)) hg hat); replace HB := ak (hb); replace HK := ak (Kept.of_grown (S := (fun k_ => P0_ k_)) hg (by repeat (first | exact HK.out | apply Kept.alloc | apply Kept.drewN | apply Kept.drew)) (fun k_ e_ => (HO220.out.1 k_ e_).1.1)); have HO228 := ak (ho); clear HO220; clear ho hb hg hat; have p56 : 0 ≤ ((ji24) : Int) := of_decide_eq_true (by assumption); have q56 : ((ji24) : Int) < ((l0.length : Int) : Int) := of_decide_eq_true (by assumption); obtain ⟨ce56, hcl56, hM56, hcc56, hfr56⟩ := Kd.N_elem HO_0.out z53 ((ji24) : Int) p56 q56; obtain ⟨ua56_0, uc56_0, rfl, ul56_0, ge56_0⟩ := k53_openF hM56; have hx56_0 := hcc56 0 _ rfl; have hf56_0 := hfr56 0; (try simp only [show (k53).sz = 1 from rfl, Nat.mul_one, Nat.add_zero] at hx56_0); (try simp only [show (k53).sz = 1 from rfl, Nat.mul_one, Nat.add_zero] at hf56_0); clear hcl56 hcc56 hfr56 hM56; replace p56 := eq_true p56; replace q56 := eq_true q56; have n_ := ak (Kd.N_mono (ok' := (fun k_ => (P0_ k_ ∨ w.heap.size ≤ k_) ∧ some k_ ≠ (.slice Ao62 y181.length co62 : Value).ownBlock ∧ some k_ ≠ (v227 : Value).ownBlock)) HO_0.out (fun k_ hk => ⟨hk.1.1, ⟨hk.1.2, hk.2⟩⟩)); clear HO_0; have HO_0 := n_; clear n_; have HX73 := ak (show Kd.N k53 53 w72 w0.heap.size (fun k_ => (P0_ k_ ∨ w.heap.size ≤ k_) ∧ some k_ ≠ (.slice Ao62 y181.length co62 : Value).ownBlock) (.slice (some ⟨go53, 0, none⟩) l0.length co19) y217 from (by (with_reducible repeat (first | apply Kd.N_alloc | apply Kd.N_drewN | apply Kd.N_drew)); exact Kd.N_mono HO_0.out (fun _ hk => ⟨hk.1, hk.2.1⟩))); obtain ⟨ce73, hcl73, hM73, hcc73, hfr73⟩ := Kd.N_elem HX73.out z53 ((ji24) : Int) (of_decide_eq_true (by assumption)) (by have h_ : ((ji24) : Int) < ((l0.length : Int) : Int) := of_decide_eq_true (by assumption); first | exact h_ | (have e_ := (Kd.N_reads' HO_0.out).1; omega) | simpa using h_); obtain ⟨ua73_0, uc73_0, rfl, ul73_0, ge73_0⟩ := k53_openF hM73; have HP73 := Kd.N_seg HX73.out ((ji24) : Int) (of_decide_eq_true (by assumption)) (by have h_ : ((ji24) : Int) < ((l0.length : Int) : Int) := of_decide_eq_true (by assumption); first | exact h_ | (have e_ := (Kd.N_reads' HO_0.out).1; omega) | simpa using h_) (seg := [v227]) (j := 0) hcl73 hcc73 (show 1 ≤ 1 from by decide) (x' := (⟨y226⟩ : S53)) (by have hmk_ := Kd.R_mono (ok' := (fun k_ => ((fun k_ => (P0_ k_ ∨ w.heap.size ≤ k_) ∧ some k_ ≠ (.slice Ao62 y181.length co62 : Value).ownBlock)) k_ ∧ k_ ≠ go53)) (Kd.R_apart' (HO228.out) (Kd.N_typed HO_0.out) (by decide)) (fun k_ hk => ⟨⟨hk.1.1, hk.1.2⟩, fun e_ => (hk.2) (by rw [e_]; rfl)⟩); obtain ⟨Am_, cm_, em_⟩ := Kd.R_slice hmk_; rw [em_] at hmk_ ⊢; exact k53_mkF _ _ (⟨y226⟩ : S53) (Kd.R_reads' hmk_).2.1 (Kd.R_F hmk_)) (fun _ hk => hk); have hx73_0 := hcc73 0 _ rfl; (try simp only [show (k53).sz = 1 from rfl, Nat.mul_one, Nat.add_zero] at hx73_0); have hf73_0 := hfr73 0; (try simp only [show (k53).sz = 1 from rfl, Nat.mul_one, Nat.add_zero] at hf73_0); clear hcl73 hcc73 hfr73 hM73; (try simp only [show (k53).sz = 1 from rfl, Nat.mul_one, Nat.add_zero] at HP73); (try simp only [show (k53).sz = 1 from rfl, Nat.mul_one, Nat.add_zero] at HP73)) | ((with_reducible refine gate_store (t := 36) (p := 99) rfl ?_); refine store_event (t := 36) (p := 99) (v := ?vo_w74) (w1 := (w72.setCell ⟨go53, ((ji24) : Int).toNat, none⟩ (v227))) ?hg ?ho ?hn ?hr ?_; (case ho => rfl); (case hg => rfl); (case hn => rfl); (case hr => first | (go_simp; done) | (go_simp; rfl) | (obtain ⟨A_, c_, e_⟩ := Kd.R_slice (‹Aside0 (Kd.R _ _ _ _ _ v227 _)›).out; rw [e_]; go_simp <;> rfl) | (have one_ : Value.oneCell' v227 = true := (by (first | obtain ⟨A_, c_, e_⟩ := Kd.R_slice (‹Aside0 (Kd.R _ _ _ _ _ v227 _)›).out | obtain ⟨A_, c_, e_⟩ := Kd.N_slice (‹Aside0 (Kd.N _ _ _ _ _ v227 _)›).out | obtain ⟨A_, c_, e_⟩ := Kd.S_slice (‹Aside0 (Kd.S _ _ _ _ _ v227 _)›).out); rw [e_]; rfl); have sto_ := fun (a_ : Addr) m_ (w_ : World) => run_store Try.prog w_ a_ v227 m_ one_; go_simp <;> rfl)); intro w74 hw; have hg : w72.grownBy w74 (some go53) := (by rw [hw]; exact HP73.2); have hp_ : Kd.N k53 53 w74 w0.heap.size (fun k_ => (P0_ k_ ∨ w.heap.size ≤ k_) ∧ some k_ ≠ (.slice Ao62 y181.length co62 : Value).ownBlock) (.slice (some ⟨go53, 0, none⟩) l0.length co19) y229 := (by rw [hw, Ny229.out]; exact HP73.1); clear HP73; replace HL176_0 := ak (Kd.V_afterv (v := (.slice (some ⟨go53, 0, none⟩) l0.length co19)) (v1 := (.slice (some ⟨go53, 0, none⟩) l0.length co19)) (ok := (fun k_ => (P0_ k_ ∨ w.heap.size ≤ k_) ∧ some k_ ≠ (.slice Ao62 y181.length co62 : Value).ownBlock ∧ some k_ ≠ (v227 : Value).ownBlock)) (by (with_reducible repeat (first | apply Kd.V_alloc | apply Kd.V_drewN | apply Kd.V_drew)); exact Kd.V_mono HL176_0.out (fun _ hk => ⟨⟨hk.1.1, ⟨hk.1.2.2, hk.2⟩⟩, hk.1.2.1⟩)) hg (.inl rfl)); replace HL180_0 := ak (Kd.V_afterv (v := (.slice (some ⟨go53, 0, none⟩) l0.length co19)) (v1 := (.slice (some ⟨go53, 0, none⟩) l0.length co19)) (ok := (fun k_ => (P0_ k_ ∨ w.heap.size ≤ k_) ∧ some k_ ≠ (.slice Ao62 y181.length co62 : Value).ownBlock ∧ some k_ ≠ (v227 : Value).ownBlock)) (by (with_reducible repeat (first | apply Kd.V_alloc | apply Kd.V_drewN | apply Kd.V_drew)); exact Kd.V_mono HL180_0.out (fun _ hk => ⟨⟨hk.1.1, ⟨hk.1.2.2, hk.2⟩⟩, hk.1.2.1⟩)) hg (.inl rfl)); replace HO183 := ak (Kd.R_over' (v := (.slice (some ⟨go53, 0, none⟩) l0.length co19)) (hR HO183.out) (Kd.N_typed HO_0.out) (by decide) hg); replace HO213 := ak (Kd.V_afterv (v := (.slice (some ⟨go53, 0, none⟩) l0.length co19)) (v1 := (.slice (some ⟨go53, 0, none⟩) l0.length co19)) (ok := (fun k_ => (P0_ k_ ∨ w.heap.size ≤ k_) ∧ some k_ ≠ (v227 : Value).ownBlock)) (by (with_reducible repeat (first | apply Kd.V_alloc | apply Kd.V_drewN | apply Kd.V_drew)); exact Kd.V_mono HO213.out (fun _ hk => ⟨⟨hk.1.1, hk.2⟩, hk.1.2⟩)) hg (.inl rfl)); replace HO225 := ak (Kd.V_afterv (v := (.slice (some ⟨go53, 0, none⟩) l0.length co19)) (v1 := (.slice (some ⟨go53, 0, none⟩) l0.length co19)) (ok := (fun k_ => (P0_ k_ ∨ w.heap.size ≤ k_) ∧ some k_ ≠ (v227 : Value).ownBlock)) (by (with_reducible repeat (first | apply Kd.V_alloc | apply Kd.V_drewN | apply Kd.V_drew)); exact Kd.V_mono HO225.out (fun _ hk => ⟨⟨hk.1.1, hk.2⟩, hk.1.2⟩)) hg (.inl rfl)); replace HB := ak ((by rw [hw]; exact below_set (HB.out) GB53.out : Below w0.heap.size w0 w74)); replace HK := ak (Kept.of_grown (S := (fun k_ => P0_ k_)) hg (by repeat (first | exact HK.out | apply Kept.alloc | apply Kept.drewN | apply Kept.drew)) (fun k_ e_ => (HO_0.out.1 k_ e_).1)); replace HO_0 := ak (hp_); clear HO228; clear hg hw hp_))
                    go_ret
                    exact ⟨_, by first | rfl | (simp only [u8_w_, w64_u8_] <;> rfl) | (simp [errW_none, errW_some] <;> rfl) | (simp only [← hji24]; first | rfl | (simp [errW_none, errW_some] <;> rfl)) | (simp [*, errW_none, errW_some] <;> rfl), by (with_reducible repeat (first | apply Kd.N_alloc | apply Kd.N_drewN | apply Kd.N_drew)); exact Kd.N_mono HO_0.out (fun _ hk => hk.1), by exact hopb HB.out, by repeat (first | exact HK.out | apply Kept.alloc | apply Kept.drewN | apply Kept.drew)⟩
                   ·rw [if_neg c55] at H
                    exact absurd H (by simp)
                  ·rw [if_neg c52] at H
                   exact absurd H (by simp)
                 ·rw [if_neg c51] at H
                  exact absurd H (by simp)
                ·rw [if_neg c50] at H
                 have c50b0 : (x5_17 == a1) = false := beq_eq_false_iff_ne.mpr c50
                 have c50b1 : (x5_17 != a1) = true := bne_iff_ne.mpr c50
                 obtain ⟨y230, hy230⟩ : ∃ y_ : List (S65), y_ = (([] : List (S65))) := ⟨_, rfl⟩
                 replace H : (if 0 ≤ (wrap64 ((y181.length : Int) - 2)) then (if (wrap64 ((y181.length : Int) - 2)) ≤ (y181.length : Int) then ((some (y181.take ((wrap64 ((y181.length : Int) - 2)) : Int).toNat : List (S65))).bind fun y233 => (if y230.length + y233.length < 5864062014805 then ((some (([] : List (S65)) : List (S65))).bind fun y242 => ((some (y181.drop ((wrap64 ((y181.length : Int) - 2)) : Int).toNat : List (S65))).bind fun y245 => (if y242.length + y245.length < 5864062014805 then (some ((l0.set (x5_17 : Int).toNat (⟨(y230 ++ y233)⟩ : S53)).set ((ji24) : Int).toNat (⟨(y242 ++ y245)⟩ : S53))) else (none)))) else (none))) else (none)) else (none)) = some r := by first | (rw [hy230]; exact H) | exact H
                 have Ny230 := ak hy230
                 clear hy230
                 obtain ⟨ji75, hji75⟩ : ∃ j_ : Int, (wrap64 ((y181.length : Int) - 2)) = j_ := ⟨_, rfl⟩
                 replace H : (if 0 ≤ (ji75) then (if (ji75) ≤ (y181.length : Int) then ((some (y181.take ((ji75) : Int).toNat : List (S65))).bind fun y233 => (if y230.length + y233.length < 5864062014805 then ((some (([] : List (S65)) : List (S65))).bind fun y242 => ((some (y181.drop ((ji75) : Int).toNat : List (S65))).bind fun y245 => (if y242.length + y245.length < 5864062014805 then (some ((l0.set (x5_17 : Int).toNat (⟨(y230 ++ y233)⟩ : S53)).set ((ji24) : Int).toNat (⟨(y242 ++ y245)⟩ : S53))) else (none)))) else (none))) else (none)) else (none)) = some r := by first | (rw [hji75] at H; exact H) | (simp only [hji75] at H ⊢; exact H)
                 have hji75w : (IntKind.i64.wrap ((y181.length : Int) - 2)) = ji75 := (i64_w _).trans hji75
                 by_cases c76 : 0 ≤ (ji75)
                 ·rw [if_pos c76] at H
                  have c76b0 := eq_true c76
                  have c76b1 : decide (0 ≤ (ji75)) = true := decide_eq_true c76
                  clear c76
                  by_cases c77 : (ji75) ≤ (y181.length : Int)
                  ·rw [if_pos c77] at H
                   have c77b0 := eq_true c77
                   have c77b1 : decide ((ji75) ≤ (y181.length : Int)) = true := decide_eq_true c77
                   clear c77
                   obtain ⟨y233, hy233⟩ : ∃ y_ : List (S65), y_ = (y181.take ((ji75) : Int).toNat) := ⟨_, rfl⟩
                   replace H : (if y230.length + y233.length < 5864062014805 then ((some (([] : List (S65)) : List (S65))).bind fun y242 => ((some (y181.drop ((ji75) : Int).toNat : List (S65))).bind fun y245 => (if y242.length + y245.length < 5864062014805 then (some ((l0.set (x5_17 : Int).toNat (⟨(y230 ++ y233)⟩ : S53)).set ((ji24) : Int).toNat (⟨(y242 ++ y245)⟩ : S53))) else (none)))) else (none)) = some r := by first | (rw [hy233]; exact H) | exact H
                   have Ny233 := ak hy233
                   clear hy233
                   by_cases c78 : y230.length + y233.length < 5864062014805
                   ·rw [if_pos c78] at H
                    have LMc78 := ak c78
                    clear c78
                    obtain ⟨y238, hy238⟩ : ∃ y_ : List (S65), y_ = (y230 ++ y233) := ⟨_, rfl⟩
                    replace H : ((some (([] : List (S65)) : List (S65))).bind fun y242 => ((some (y181.drop ((ji75) : Int).toNat : List (S65))).bind fun y245 => (if y242.length + y245.length < 5864062014805 then (some ((l0.set (x5_17 : Int).toNat (⟨y238⟩ : S53)).set ((ji24) : Int).toNat (⟨(y242 ++ y245)⟩ : S53))) else (none)))) = some r := by first | (rw [hy238]; exact H) | exact H
                    have Ny238 := ak hy238
                    clear hy238
                    obtain ⟨y241, hy241⟩ : ∃ y_ : List (S53), y_ = (l0.set (x5_17 : Int).toNat (⟨y238⟩ : S53)) := ⟨_, rfl⟩
                    replace H : ((some (([] : List (S65)) : List (S65))).bind fun y242 => ((some (y181.drop ((ji75) : Int).toNat : List (S65))).bind fun y245 => (if y242.length + y245.length < 5864062014805 then (some (y241.set ((ji24) : Int).toNat (⟨(y242 ++ y245)⟩ : S53))) else (none)))) = some r := by first | (rw [hy241]; exact H) | exact H
                    have Ny241 := ak hy241
                    clear hy241
                    obtain ⟨y242, hy242⟩ : ∃ y_ : List (S65), y_ = (([] : List (S65))) := ⟨_, rfl⟩
                    replace H : ((some (y181.drop ((ji75) : Int).toNat : List (S65))).bind fun y245 => (if y242.length + y245.length < 5864062014805 then (some (y241.set ((ji24) : Int).toNat (⟨(y242 ++ y245)⟩ : S53))) else (none))) = some r := by first | (rw [hy242]; exact H) | exact H
                    have Ny242 := ak hy242
                    clear hy242
                    have c80b0 := eq_true (of_decide_eq_true (by assumption) : 0 ≤ (ji75))
                    have c81b0 := eq_true (of_decide_eq_true (by assumption) : (ji75) ≤ (y181.length : Int))
                    obtain ⟨y245, hy245⟩ : ∃ y_ : List (S65), y_ = (y181.drop ((ji75) : Int).toNat) := ⟨_, rfl⟩
                    replace H : (if y242.length + y245.length < 5864062014805 then (some (y241.set ((ji24) : Int).toNat (⟨(y242 ++ y245)⟩ : S53))) else (none)) = some r := by first | (rw [hy245]; exact H) | exact H
                    have Ny245 := ak hy245
                    clear hy245
                    by_cases c82 : y242.length + y245.length < 5864062014805
                    ·rw [if_pos c82] at H
                     have LMc82 := ak c82
                     clear c82
                     obtain ⟨y250, hy250⟩ : ∃ y_ : List (S65), y_ = (y242 ++ y245) := ⟨_, rfl⟩
                     replace H : (some (y241.set ((ji24) : Int).toNat (⟨y250⟩ : S53))) = some r := by first | (rw [hy250]; exact H) | exact H
                     have Ny250 := ak hy250
                     clear hy250
                     obtain ⟨y253, hy253⟩ : ∃ y_ : List (S53), y_ = (y241.set ((ji24) : Int).toNat (⟨y250⟩ : S53)) := ⟨_, rfl⟩
                     replace H : (some y253) = some r := by first | (rw [hy253]; exact H) | exact H
                     have Ny253 := ak hy253
                     clear hy253
                     obtain rfl := Option.some.inj H
                     try go_wp2
                     replace HO_0 := ak (Kd.N_drew HO_0.out)
                     replace HK := ak (Kept.drew HK.out)
                     replace HB := ak (below_drew1 HB.out)
                     have p176 : 0 ≤ (x5_17 : Int) := of_decide_eq_true (by assumption)
                     have q176 : x5_17 < (l0.length : Int) := of_decide_eq_true (by assumption)
                     obtain ⟨ad176, A176_0, c176_0, e176, hx176_0, hl176_0, hi176_0⟩ := at_T53 (Kd.N_reads' HO_0.out).2.2 x5_17 p176 q176
                     cases e176
                     obtain ⟨ce176, hce176, hMe176, hcc176⟩ := Kd.N_get HO_0.out z53 x5_17 p176 (by first | exact q176 | exact of_decide_eq_true (by assumption) | (have e_ := (Kd.N_reads' HO_0.out).1; omega))
                     obtain ⟨ua176_0, uc176_0, rfl, ul176_0, ge176_0⟩ := k53_openF hMe176
                     have hv176_0 := hcc176 0 _ rfl
                     rw [Nat.add_zero, show (k53).sz = 1 from rfl, Nat.mul_one] at hv176_0
                     replace hv176_0 := Option.some.inj (hv176_0.symm.trans hx176_0)
                     injection hv176_0 with hva_ hvn_ hvc_
                     rw [hva_] at ge176_0
                     rw [hvc_] at ul176_0
                     have HL176_0 := ak (show Kd.V k65 65 _ w0.heap.size _ _ ((rd_T53 l0 x5_17).f0) from Kd.V_mk ul176_0 ge176_0)
                     clear hva_ hvn_ hvc_ ge176_0 ul176_0
                     clear hcc176 hce176
                     have HR176_0 := ak hi176_0
                     have HC176_0 := ak hl176_0
                     clear hi176_0 hl176_0
                     replace p176 := eq_true p176
                     replace q176 := eq_true q176
                     have p180 : 0 ≤ ((ji24) : Int) := of_decide_eq_true (by assumption)
                     have q180 : (ji24) < (l0.length : Int) := of_decide_eq_true (by assumption)
                     obtain ⟨ad180, A180_0, c180_0, e180, hx180_0, hl180_0, hi180_0⟩ := at_T53 (Kd.N_reads' HO_0.out).2.2 (ji24) p180 q180
                     obtain rfl : ad176 = ad180 := (by injection e180)
                     obtain ⟨ce180, hce180, hMe180, hcc180⟩ := Kd.N_get HO_0.out z53 (ji24) p180 (by first | exact q180 | exact of_decide_eq_true (by assumption) | (have e_ := (Kd.N_reads' HO_0.out).1; omega))
                     obtain ⟨ua180_0, uc180_0, rfl, ul180_0, ge180_0⟩ := k53_openF hMe180
                     have hv180_0 := hcc180 0 _ rfl
                     rw [Nat.add_zero, show (k53).sz = 1 from rfl, Nat.mul_one] at hv180_0
                     replace hv180_0 := Option.some.inj (hv180_0.symm.trans hx180_0)
                     injection hv180_0 with hva_ hvn_ hvc_
                     rw [hva_] at ge180_0
                     rw [hvc_] at ul180_0
                     have HL180_0 := ak (show Kd.V k65 65 _ w0.heap.size _ _ ((rd_T53 l0 (ji24)).f0) from Kd.V_mk ul180_0 ge180_0)
                     clear hva_ hvn_ hvc_ ge180_0 ul180_0
                     clear hcc180 hce180
                     have HR180_0 := ak hi180_0
                     have HC180_0 := ak hl180_0
                     clear hi180_0 hl180_0
                     replace p180 := eq_true p180
                     replace q180 := eq_true q180
                     refine start_ (n := 15) (S := fun w' => w'.cell? (ad176.add (x5_17).toNat) = some (.slice A176_0 ((rd_T53 l0 x5_17).f0).length c176_0) ∧ w'.cell? (ad176.add ((ji24)).toNat) = some (.slice A180_0 ((rd_T53 l0 (ji24)).f0).length c180_0)) (ds := []) #[U,U,U,U,U,U,U,U,U,U,U,U,U,U,U] (by kernel_rfl) rfl rfl ⟨hx176_0, hx180_0⟩ (fun hHeld => ?_); refine with_tabW spec_l6Mend.tab8 spec_l6Mend.bits8 (fun HT_ HW_ => ?_)
                     generalize wc.drew = w84 at HO_0 HK HB HL176_0 HL180_0 HR176_0 HR180_0 hx176_0 hx180_0 hHeld ⊢
                     refine pu 1 (some 43) #[U,T,U,U,U,U,U,U,U,U,U,U,U,U,U] (any_of HT_.out (by kernel_rfl)) ?_
                     refine pu 2 (some 44) #[U,T,T,U,U,U,U,U,U,U,U,U,U,U,U] (any_of HT_.out (by kernel_rfl)) ?_
                     refine pu 3 (some 45) #[U,T,T,T,U,U,U,U,U,U,U,U,U,U,U] (any_of HT_.out (by kernel_rfl)) ?_
                     refine pu 4 (some 46) #[U,T,T,T,T,U,U,U,U,U,U,U,U,U,U] (any_of HT_.out (by kernel_rfl)) ?_
                     refine pu 7 (some 49) #[U,T,T,T,T,U,U,T,U,U,U,U,U,U,U] (any_of HT_.out (by kernel_rfl)) ?_
                     refine pu 8 (some 50) #[U,T,T,T,T,U,U,T,T,U,U,U,U,U,U] (any_of HT_.out (by kernel_rfl)) ?_
                     refine pu 9 (some 51) #[U,T,T,T,T,U,U,T,T,T,U,U,U,U,U] (any_of HT_.out (by kernel_rfl)) ?_
                     refine pu 10 (some 52) #[U,T,T,T,T,U,U,T,T,T,T,U,U,U,U] (any_of HT_.out (by kernel_rfl)) ?_
                     refine pu 11 (some 53) #[U,T,T,T,T,U,U,T,T,T,T,T,U,U,U] (any_of HT_.out (by kernel_rfl)) ?_
                     refine take_ (i := 5) (N := some 47) (v := ?_) (a' := ?_) #[U,T,T,T,T,T,U,T,T,T,T,T,U,U,U] rfl rfl (take_ofW HT_.out HW_.out (by kernel_rfl)) (fun _ _ _ h => h) (Or.inl ⟨by rfl, ?_⟩) hHeld ?_ ?_
                     rotate_left
                     ·rintro w' ⟨s0, s1⟩
                      go_simp
                      with_reducible rfl
                     rotate_left
                     ·simp only [Act.put, lT, lZ, lS, i64_w, i32_w]
                      rfl
                     refine take_ (i := 12) (N := some 54) (v := ?_) (a' := ?_) #[U,T,T,T,T,T,U,T,T,T,T,T,T,U,U] rfl rfl (take_ofW HT_.out HW_.out (by kernel_rfl)) (fun _ _ _ h => h) (Or.inl ⟨by rfl, ?_⟩) hHeld ?_ ?_
                     rotate_left
                     ·rintro w' ⟨s0, s1⟩
                      go_simp
                      with_reducible rfl
                     rotate_left
                     ·simp only [Act.put, lT, lZ, lS, i64_w, i32_w]
                      rfl
                     refine one_ (i := 0) (N := some 42) #[T,T,T,T,T,T,U,T,T,T,T,T,T,U,U] rfl rfl (one_of HT_.out (by kernel_rfl)) (by decide) (fun K hK => ?_)
                     refine Kd.R_lit_step k65 _ 65 ?hg (N := 42) ?hd (xs := ([] : List (S65))) (inner := []) (ok := fun _ => True) (okp := fun _ => True) ?hr ?hp (fun _ hk => hk) trivial (Below.refl _ _) (Nat.le_refl _) (by simp) ?_; (case hd => rfl); (case hg => rfl); (case hr => go_simp <;> rfl); (case hp => exact (Reps.none _ _))
                     intro v174 w85 ho86 hb hg_ hnew_
                     have HS0_ := (hb.cell (World.block_lt_of_cell? _ _ (hHeld.1))).trans (hHeld.1)
                     have HS1_ := (hb.cell (World.block_lt_of_cell? _ _ (hHeld.2))).trans (hHeld.2)
                     clear hg_ hnew_
                     (first | rw [← Ny173.out] at ho86 | (simp only [Int.reduceToNat] at ho86; rw [← Ny173.out] at ho86))
                     replace HO_0 := ak (Kd.N_elder' (hN HO_0.out) (Kd.R_base ho86) hb)
                     replace HL176_0 := ak (Kd.V_elder' (by (with_reducible repeat (first | apply Kd.V_alloc | apply Kd.V_drewN | apply Kd.V_drew)); exact HL176_0.out) (Kd.R_base ho86) hb)
                     replace HL180_0 := ak (Kd.V_elder' (by (with_reducible repeat (first | apply Kd.V_alloc | apply Kd.V_drewN | apply Kd.V_drew)); exact HL180_0.out) (Kd.R_base ho86) hb)
                     have HO175 := ak (Kd.R_lower (Kd.R_newM (M := fun k_ => (P0_ k_ ∨ w.heap.size ≤ k_)) ho86 (by first | exact HK.out.1 | exact (show Kept w _ (fun k_ => P0_ k_) from by repeat (first | exact HK.out | apply Kept.alloc | apply Kept.drewN | apply Kept.drew)).1) (fun k_ h_ => .inr h_)) (below_size (by exact hopb HB.out)))
                     replace HR176_0 := ak (Kd.C_below (by repeat (first | (with_reducible exact HR176_0.out) | (with_reducible refine Kd.C_alloc ?_ _) | (with_reducible refine Kd.C_drewN ?_ _) | (with_reducible refine Kd.C_drew ?_) | exact HR176_0.out)) hb)
                     replace HR180_0 := ak (Kd.C_below (by repeat (first | (with_reducible exact HR180_0.out) | (with_reducible refine Kd.C_alloc ?_ _) | (with_reducible refine Kd.C_drewN ?_ _) | (with_reducible refine Kd.C_drew ?_) | exact HR180_0.out)) hb)
                     replace HK := ak (Kept.below (S := (fun k_ => P0_ k_)) (by repeat (first | exact HK.out | apply Kept.alloc | apply Kept.drewN | apply Kept.drew)) hb)
                     replace HB := ak (below_step (by exact hopb HB.out) hb)
                     clear hb ho86
                     refine hK.out _ _ ⟨HS0_, HS1_⟩ (fun hHeld => ?_)
                     clear hK K
                     refine norm_ (a' := ?_) ?_ ?_
                     rotate_left
                     ·show Act.put _ (some 42) _ = _
                      simp only [Act.put, lT, lZ, lS, i64_w, i32_w]
                      rfl
                     refine one_ (i := 6) (N := some 48) #[T,T,T,T,T,T,T,T,T,T,T,T,T,U,U] rfl rfl (one_of HT_.out (by kernel_rfl)) (by decide) (fun K hK => ?_)
                     refine Kd.R_append_rows_step k65 (w0 := w0) w0.heap.size (by rfl) (.tmp 42) (.tmp 47) 36 65 (.agg #[(.string ⟨#[]⟩), (.int .i64 0)]) 24 rfl Try.underlying36 info65 rfl (by decide) (by omega) v174 y173 ((rd_T53 l0 x5_17).f0) _ _ _ (fun k_ => (P0_ k_ ∨ w.heap.size ≤ k_)) (fun _ => False) rfl rfl ?aO ?aR (fun _ _ h => h) (fun _ h => h.elim) ?aF ?aB ?aS ?aL ?_
                     (case aR => exact hC (by repeat (first | (with_reducible exact HR176_0.out) | (with_reducible refine Kd.C_alloc ?_ _) | (with_reducible refine Kd.C_drewN ?_ _) | (with_reducible refine Kd.C_drew ?_) | exact HR176_0.out)))
                     (case aB => exact (by exact hopb HB.out))
                     (case aF => exact (fun k_ hk => (.inr (Nat.le_trans (by first | exact HK.out.1 | exact (show Kept w _ (fun k_ => P0_ k_) from by repeat (first | exact HK.out | apply Kept.alloc | apply Kept.drewN | apply Kept.drew)).1) hk))))
                     (case aO => exact (by (with_reducible repeat (first | apply Kd.R_alloc | apply Kd.R_drewN | apply Kd.R_drew)); exact Kd.R_mono HO175.out (fun _ hk => hk.1)))
                     (case aS => exact (below_size (by exact hopb HB.out)))
                     (case aL => have := LMc23.out; omega)
                     intro v178 w87 ho hb hg hat
                     have HS0_ := cell_grown hg (hHeld.1) (by first | (rw [add_block]; exact (HO_0.out.1 _ rfl).2) | (show some (Addr.add _ _).block ≠ _; rw [add_block]; exact (HO_0.out.1 _ rfl).2) | exact (HO_0.out.1 _ rfl).2)
                     have HS1_ := cell_grown hg (hHeld.2) (by first | (rw [add_block]; exact (HO_0.out.1 _ rfl).2) | (show some (Addr.add _ _).block ≠ _; rw [add_block]; exact (HO_0.out.1 _ rfl).2) | exact (HO_0.out.1 _ rfl).2)
                     rw [← Ny177.out] at ho
                     replace HO_0 := ak (Kd.N_afterv (ok := (fun k_ => (P0_ k_ ∨ w.heap.size ≤ k_))) (hN HO_0.out) hg hat)
                     replace HL176_0 := ak (Kd.V_afterv (ok := (fun k_ => (P0_ k_ ∨ w.heap.size ≤ k_) ∧ some k_ ≠ (.slice (some ad176) l0.length co19 : Value).ownBlock)) (by (with_reducible repeat (first | apply Kd.V_alloc | apply Kd.V_drewN | apply Kd.V_drew)); exact HL176_0.out) hg hat)
                     replace HL180_0 := ak (Kd.V_afterv (ok := (fun k_ => (P0_ k_ ∨ w.heap.size ≤ k_) ∧ some k_ ≠ (.slice (some ad176) l0.length co19 : Value).ownBlock)) (by (with_reducible repeat (first | apply Kd.V_alloc | apply Kd.V_drewN | apply Kd.V_drew)); exact HL180_0.out) hg hat)
                     replace HB := ak (hb)
                     replace HK := ak (Kept.of_grown (S := (fun k_ => P0_ k_)) hg (by repeat (first | exact HK.out | apply Kept.alloc | apply Kept.drewN | apply Kept.drew)) (fun k_ e_ => (HO175.out.1 k_ e_).1))
                     have HO179 := ak (ho)
                     clear HO175
                     clear ho hb hg hat
                     refine hK.out _ _ ⟨HS0_, HS1_⟩ (fun hHeld => ?_)
                     clear hK K
                     refine norm_ (a' := ?_) ?_ ?_
                     rotate_left
                     ·show Act.put _ (some 48) _ = _
                      simp only [Act.put, lT, lZ, lS, i64_w, i32_w]
                      rfl
                     refine one_ (i := 13) (N := some 55) #[T,T,T,T,T,T,T,T,T,T,T,T,T,T,U] rfl rfl (one_of HT_.out (by kernel_rfl)) (by decide) (fun K hK => ?_)
                     refine Kd.R_append_rows_step k65 (w0 := w0) w0.heap.size (by rfl) (.tmp 48) (.tmp 54) 36 65 (.agg #[(.string ⟨#[]⟩), (.int .i64 0)]) 24 rfl Try.underlying36 info65 rfl (by decide) (by omega) v178 y177 ((rd_T53 l0 (ji24)).f0) _ _ _ (fun k_ => (P0_ k_ ∨ w.heap.size ≤ k_)) (fun _ => False) rfl rfl ?aO ?aR (fun _ _ h => h) (fun _ h => h.elim) ?aF ?aB ?aS ?aL ?_
                     (case aR => repeat (first | exact ((Kd.V_reads' (by (with_reducible repeat (first | apply Kd.V_alloc | apply Kd.V_drewN | apply Kd.V_drew)); exact HL180_0.out)).2.2) | (with_reducible refine Kd.C_alloc ?_ _) | (with_reducible refine Kd.C_drewN ?_ _) | (with_reducible refine Kd.C_drew ?_)))
                     (case aB => exact (by exact hopb HB.out))
                     (case aF => exact (fun k_ hk => (.inr (Nat.le_trans (by first | exact HK.out.1 | exact (show Kept w _ (fun k_ => P0_ k_) from by repeat (first | exact HK.out | apply Kept.alloc | apply Kept.drewN | apply Kept.drew)).1) hk))))
                     (case aO => exact (hR HO179.out))
                     (case aS => exact (below_size (by exact hopb HB.out)))
                     (case aL => have := LMc27.out; omega)
                     intro v182 w88 ho hb hg hat
                     have HS0_ := cell_grown hg (hHeld.1) (by first | (rw [add_block]; exact (HO_0.out.1 _ rfl).2) | (show some (Addr.add _ _).block ≠ _; rw [add_block]; exact (HO_0.out.1 _ rfl).2) | exact (HO_0.out.1 _ rfl).2)
                     have HS1_ := cell_grown hg (hHeld.2) (by first | (rw [add_block]; exact (HO_0.out.1 _ rfl).2) | (show some (Addr.add _ _).block ≠ _; rw [add_block]; exact (HO_0.out.1 _ rfl).2) | exact (HO_0.out.1 _ rfl).2)
                     rw [← Ny181.out] at ho
                     replace HO_0 := ak (Kd.N_afterv (ok := (fun k_ => (P0_ k_ ∨ w.heap.size ≤ k_))) (hN HO_0.out) hg hat)
                     replace HL176_0 := ak (Kd.V_afterv (ok := (fun k_ => (P0_ k_ ∨ w.heap.size ≤ k_) ∧ some k_ ≠ (.slice (some ad176) l0.length co19 : Value).ownBlock)) (by (with_reducible repeat (first | apply Kd.V_alloc | apply Kd.V_drewN | apply Kd.V_drew)); exact HL176_0.out) hg hat)
                     replace HL180_0 := ak (Kd.V_afterv (ok := (fun k_ => (P0_ k_ ∨ w.heap.size ≤ k_) ∧ some k_ ≠ (.slice (some ad176) l0.length co19 : Value).ownBlock)) (by (with_reducible repeat (first | apply Kd.V_alloc | apply Kd.V_drewN | apply Kd.V_drew)); exact HL180_0.out) hg hat)
                     replace HB := ak (hb)
                     replace HK := ak (Kept.of_grown (S := (fun k_ => P0_ k_)) hg (by repeat (first | exact HK.out | apply Kept.alloc | apply Kept.drewN | apply Kept.drew)) (fun k_ e_ => (HO179.out.1 k_ e_)))
                     have HO183 := ak (ho)
                     clear HO179
                     clear ho hb hg hat
                     refine hK.out _ _ ⟨HS0_, HS1_⟩ (fun hHeld => ?_)
                     clear hK K
                     refine norm_ (a' := ?_) ?_ ?_
                     rotate_left
                     ·show Act.put _ (some 55) _ = _
                      simp only [Act.put, lT, lZ, lS, i64_w, i32_w]
                      rfl
                     refine pu 14 (some 6) #[T,T,T,T,T,T,T,T,T,T,T,T,T,T,T] (any_of HT_.out (by kernel_rfl)) ?_
                     refine done_ (done_of HT_.out (by kernel_rfl)) ?_
                     obtain ⟨Ao89, co89, eo89⟩ := Kd.R_slice HO183.out
                     subst eo89
                     try go_wp2_with (first | ((with_reducible refine gate_dst (N := 83) rfl ?_); (try (refine gate_guard (by rfl) ?_; dsimp only)); refine Kd.R_lit k65 _ 65 ?hg (N := 83) ?hd (xs := ([] : List (S65))) (inner := []) (ok := fun _ => True) (okp := fun _ => True) ?hr ?hp (fun _ hk => hk) trivial (Below.refl _ _) (Nat.le_refl _) (by simp) ?_; (case hd => rfl); (case hg => rfl); (case hr => go_simp <;> rfl); (case hp => exact (Reps.none _ _)); intro v231 w90 ho91 hb hg_ hnew_; clear hg_ hnew_; (first | rw [← Ny230.out] at ho91 | (simp only [Int.reduceToNat] at ho91; rw [← Ny230.out] at ho91)); replace HO_0 := ak (Kd.N_elder' (hN HO_0.out) (Kd.R_base ho91) hb); replace HL176_0 := ak (Kd.V_elder' (by (with_reducible repeat (first | apply Kd.V_alloc | apply Kd.V_drewN | apply Kd.V_drew)); exact HL176_0.out) (Kd.R_base ho91) hb); replace HL180_0 := ak (Kd.V_elder' (by (with_reducible repeat (first | apply Kd.V_alloc | apply Kd.V_drewN | apply Kd.V_drew)); exact HL180_0.out) (Kd.R_base ho91) hb); have HO232 := ak (Kd.R_lower (Kd.R_new' (Kd.R_newM (M := fun k_ => (P0_ k_ ∨ w.heap.size ≤ k_)) ho91 (by first | exact HK.out.1 | exact (show Kept w _ (fun k_ => P0_ k_) from by repeat (first | exact HK.out | apply Kept.alloc | apply Kept.drewN | apply Kept.drew)).1) (fun k_ h_ => .inr h_)) (Kd.R_lt (hR HO183.out))) (below_size (by exact hopb HB.out))); replace HO183 := ak (Kd.R_elder' (hR HO183.out) (Kd.R_base ho91) hb); replace HK := ak (Kept.below (S := (fun k_ => P0_ k_)) (by repeat (first | exact HK.out | apply Kept.alloc | apply Kept.drewN | apply Kept.drew)) hb); replace HB := ak (below_step (by exact hopb HB.out) hb); clear hb ho91; have q92 : ((ji75) : Int) ≤ ((y181.length : Int) : Int) := of_decide_eq_true (by assumption); obtain ⟨i092, hi092, _, hsz92, _⟩ := info_parts info65; have hroom92 : y181.length ≤ co89 := (Kd.R_reads' HO183.out).2.1; have hC92 : Kd.F k65 _ _ Ao89 y181.length y181 := (Kd.V_at (base := w0.heap.size) (Kd.R_V (Kd.R_apart' (HO183.out) (Kd.N_typed HO_0.out) (by decide)))).2.2; have hcut92 := cut_to (P := Try.prog) 36 65 .i64 Try.underlying36 hi092 Ao89 y181.length co89 (ji75) (of_decide_eq_true (by assumption)) q92 hroom92; have hr92 := Kd.F_take (m := ((ji75) : Int).toNat) hC92 (by omega); have hy92 : y233.length = ((ji75) : Int).toNat := (by rw [Ny233.out, List.length_take]; omega); rw [← Ny233.out] at hr92; rw [← hy92] at hcut92; have HO237 := ak (show Kd.V k65 65 _ w0.heap.size _ (.slice Ao89 y233.length co89) y233 from Kd.V_mk (by omega) hr92); have HC237 := ak (show y233.length ≤ co89 from by omega); clear hr92 hC92 hroom92 hi092 hsz92; have KY92 := ak hy92; clear hy92; replace q92 := eq_true q92) | ((with_reducible refine gate_builtin (b := .append) (xs := #[.tmp 83, .tmp 86]) rfl ?_); (try (refine gate_guard (by rfl) ?_; dsimp only)); at_builtin; refine Kd.R_append_rows k65 (w0 := w0) w0.heap.size rfl (.tmp 83) (.tmp 86) 36 65 (.agg #[(.string ⟨#[]⟩), (.int .i64 0)]) 24 rfl Try.underlying36 info65 rfl (by decide) (by omega) v231 y230 y233 _ _ _ (fun k_ => (P0_ k_ ∨ w.heap.size ≤ k_) ∧ some k_ ≠ (.slice Ao89 y181.length co89 : Value).ownBlock) (fun _ => False) rfl rfl ?aO ?aR (fun _ _ h => h) (fun _ h => h.elim) ?aF ?aB ?aS ?aL ?_; (case aR => exact hC (Kd.V_reads' HO237.out).2.2); (case aB => exact (by exact hopb HB.out)); (case aF => exact (fun k_ hk => ⟨(.inr (Nat.le_trans (by first | exact HK.out.1 | exact (show Kept w _ (fun k_ => P0_ k_) from by repeat (first | exact HK.out | apply Kept.alloc | apply Kept.drewN | apply Kept.drew)).1) hk)), Kd.fresh' (Kd.R_lt (hR HO183.out)) k_ hk⟩)); (case aO => exact (by (with_reducible repeat (first | apply Kd.R_alloc | apply Kd.R_drewN | apply Kd.R_drew)); exact Kd.R_mono HO232.out (fun _ hk => ⟨hk.1.1, hk.2⟩))); (case aS => exact (below_size (by exact hopb HB.out))); (case aL => have := LMc78.out; omega); intro v239 w93 ho hb hg hat; rw [← Ny238.out] at ho; replace HO_0 := ak (Kd.N_afterv (ok := (fun k_ => (P0_ k_ ∨ w.heap.size ≤ k_) ∧ some k_ ≠ (.slice Ao89 y181.length co89 : Value).ownBlock)) (hN HO_0.out) hg hat); replace HL176_0 := ak (Kd.V_afterv (ok := (fun k_ => (P0_ k_ ∨ w.heap.size ≤ k_) ∧ some k_ ≠ (.slice (some ad176) l0.length co19 : Value).ownBlock ∧ some k_ ≠ (.slice Ao89 y181.length co89 : Value).ownBlock)) (by (with_reducible repeat (first | apply Kd.V_alloc | apply Kd.V_drewN | apply Kd.V_drew)); exact Kd.V_mono HL176_0.out (fun _ hk => ⟨⟨hk.1.1.1, ⟨hk.1.1.2, hk.1.2⟩⟩, hk.2⟩)) hg hat); replace HL180_0 := ak (Kd.V_afterv (ok := (fun k_ => (P0_ k_ ∨ w.heap.size ≤ k_) ∧ some k_ ≠ (.slice (some ad176) l0.length co19 : Value).ownBlock ∧ some k_ ≠ (.slice Ao89 y181.length co89 : Value).ownBlock)) (by (with_reducible repeat (first | apply Kd.V_alloc | apply Kd.V_drewN | apply Kd.V_drew)); exact Kd.V_mono HL180_0.out (fun _ hk => ⟨⟨hk.1.1.1, ⟨hk.1.1.2, hk.1.2⟩⟩, hk.2⟩)) hg hat); replace HO183 := ak (Kd.R_after (ok := (fun k_ => (P0_ k_ ∨ w.heap.size ≤ k_))) (hR HO183.out) hg hat); replace HO237 := ak (Kd.V_afterv (ok := (fun k_ => (P0_ k_ ∨ w.heap.size ≤ k_) ∧ some k_ ≠ (.slice (some ad176) l0.length co19 : Value).ownBlock)) (by (with_reducible repeat (first | apply Kd.V_alloc | apply Kd.V_drewN | apply Kd.V_drew)); exact Kd.V_mono HO237.out (fun _ hk => ⟨⟨hk.1.1, hk.2⟩, hk.1.2⟩)) hg hat); replace HB := ak (hb); replace HK := ak (Kept.of_grown (S := (fun k_ => P0_ k_)) hg (by repeat (first | exact HK.out | apply Kept.alloc | apply Kept.drewN | apply Kept.drew)) (fun k_ e_ => (HO232.out.1 k_ e_).1.1)); have HO240 := ak (ho); clear HO232; clear ho hb hg hat; have p79 : 0 ≤ (x5_17 : Int) := of_decide_eq_true (by assumption); have q79 : (x5_17 : Int) < ((l0.length : Int) : Int) := of_decide_eq_true (by assumption); obtain ⟨go79, co79, eo79, gb79, gl79, cl79, HG79⟩ := Kd.N_form HO_0.out (by omega); (first | cases eo79 | (injection eo79 with ea_ en_ ec_; (first | subst ea_ | (injection ea_ with ea_; subst ea_)); subst ec_; clear en_)); have GB79 := ak gb79; have GG79 := ak HG79; clear gb79 gl79 HG79; have HMgo79 := ak (show (P0_ go79 ∨ w.heap.size ≤ go79) from (HO_0.out.1 _ rfl).1.1); (first | simp only [add_plain] at hx176_0 | skip); (first | simp only [add_plain] at hx180_0 | skip); obtain ⟨ce79, hcl79, hM79, hcc79, hfr79⟩ := Kd.N_elem HO_0.out z53 (x5_17 : Int) p79 q79; obtain ⟨ua79_0, uc79_0, rfl, ul79_0, ge79_0⟩ := k53_openF hM79; have hx79_0 := hcc79 0 _ rfl; have hf79_0 := hfr79 0; (try simp only [show (k53).sz = 1 from rfl, Nat.mul_one, Nat.add_zero] at hx79_0); (try simp only [show (k53).sz = 1 from rfl, Nat.mul_one, Nat.add_zero] at hf79_0); clear hcl79 hcc79 hfr79 hM79; replace p79 := eq_true p79; replace q79 := eq_true q79; have n_ := ak (Kd.N_mono (ok' := (fun k_ => (P0_ k_ ∨ w.heap.size ≤ k_) ∧ some k_ ≠ (.slice Ao89 y181.length co89 : Value).ownBlock ∧ some k_ ≠ (v239 : Value).ownBlock)) HO_0.out (fun k_ hk => ⟨hk.1.1, ⟨hk.1.2, hk.2⟩⟩)); clear HO_0; have HO_0 := n_; clear n_; have HX94 := ak (show Kd.N k53 53 w93 w0.heap.size (fun k_ => (P0_ k_ ∨ w.heap.size ≤ k_) ∧ some k_ ≠ (.slice Ao89 y181.length co89 : Value).ownBlock) (.slice (some ⟨go79, 0, none⟩) l0.length co19) l0 from (by (with_reducible repeat (first | apply Kd.N_alloc | apply Kd.N_drewN | apply Kd.N_drew)); exact Kd.N_mono HO_0.out (fun _ hk => ⟨hk.1, hk.2.1⟩))); obtain ⟨ce94, hcl94, hM94, hcc94, hfr94⟩ := Kd.N_elem HX94.out z53 (x5_17 : Int) (of_decide_eq_true (by assumption)) (by have h_ : (x5_17 : Int) < ((l0.length : Int) : Int) := of_decide_eq_true (by assumption); first | exact h_ | (have e_ := (Kd.N_reads' HO_0.out).1; omega) | simpa using h_); obtain ⟨ua94_0, uc94_0, rfl, ul94_0, ge94_0⟩ := k53_openF hM94; have HP94 := Kd.N_seg HX94.out (x5_17 : Int) (of_decide_eq_true (by assumption)) (by have h_ : (x5_17 : Int) < ((l0.length : Int) : Int) := of_decide_eq_true (by assumption); first | exact h_ | (have e_ := (Kd.N_reads' HO_0.out).1; omega) | simpa using h_) (seg := [v239]) (j := 0) hcl94 hcc94 (show 1 ≤ 1 from by decide) (x' := (⟨y238⟩ : S53)) (by have hmk_ := Kd.R_mono (ok' := (fun k_ => ((fun k_ => (P0_ k_ ∨ w.heap.size ≤ k_) ∧ some k_ ≠ (.slice Ao89 y181.length co89 : Value).ownBlock)) k_ ∧ k_ ≠ go79)) (Kd.R_apart' (HO240.out) (Kd.N_typed HO_0.out) (by decide)) (fun k_ hk => ⟨⟨hk.1.1, hk.1.2⟩, fun e_ => (hk.2) (by rw [e_]; rfl)⟩); obtain ⟨Am_, cm_, em_⟩ := Kd.R_slice hmk_; rw [em_] at hmk_ ⊢; exact k53_mkF _ _ (⟨y238⟩ : S53) (Kd.R_reads' hmk_).2.1 (Kd.R_F hmk_)) (fun _ hk => hk); have hx94_0 := hcc94 0 _ rfl; (try simp only [show (k53).sz = 1 from rfl, Nat.mul_one, Nat.add_zero] at hx94_0); have hf94_0 := hfr94 0; (try simp only [show (k53).sz = 1 from rfl, Nat.mul_one, Nat.add_zero] at hf94_0); clear hcl94 hcc94 hfr94 hM94; (try simp only [show (k53).sz = 1 from rfl, Nat.mul_one, Nat.add_zero] at HP94); (try simp only [show (k53).sz = 1 from rfl, Nat.mul_one, Nat.add_zero] at HP94)) | ((with_reducible refine gate_store (t := 36) (p := 89) rfl ?_); refine store_event (t := 36) (p := 89) (v := ?vo_w95) (w1 := (w93.setCell ⟨go79, (x5_17 : Int).toNat, none⟩ (v239))) ?hg ?ho ?hn ?hr ?_; (case ho => rfl); (case hg => rfl); (case hn => rfl); (case hr => first | (go_simp; done) | (go_simp; rfl) | (obtain ⟨A_, c_, e_⟩ := Kd.R_slice (‹Aside0 (Kd.R _ _ _ _ _ v239 _)›).out; rw [e_]; go_simp <;> rfl) | (have one_ : Value.oneCell' v239 = true := (by (first | obtain ⟨A_, c_, e_⟩ := Kd.R_slice (‹Aside0 (Kd.R _ _ _ _ _ v239 _)›).out | obtain ⟨A_, c_, e_⟩ := Kd.N_slice (‹Aside0 (Kd.N _ _ _ _ _ v239 _)›).out | obtain ⟨A_, c_, e_⟩ := Kd.S_slice (‹Aside0 (Kd.S _ _ _ _ _ v239 _)›).out); rw [e_]; rfl); have sto_ := fun (a_ : Addr) m_ (w_ : World) => run_store Try.prog w_ a_ v239 m_ one_; go_simp <;> rfl)); intro w95 hw; have hg : w93.grownBy w95 (some go79) := (by rw [hw]; exact HP94.2); have hp_ : Kd.N k53 53 w95 w0.heap.size (fun k_ => (P0_ k_ ∨ w.heap.size ≤ k_) ∧ some k_ ≠ (.slice Ao89 y181.length co89 : Value).ownBlock) (.slice (some ⟨go79, 0, none⟩) l0.length co19) y241 := (by rw [hw, Ny241.out]; exact HP94.1); clear HP94; replace HL176_0 := ak (Kd.V_afterv (v := (.slice (some ⟨go79, 0, none⟩) l0.length co19)) (v1 := (.slice (some ⟨go79, 0, none⟩) l0.length co19)) (ok := (fun k_ => (P0_ k_ ∨ w.heap.size ≤ k_) ∧ some k_ ≠ (.slice Ao89 y181.length co89 : Value).ownBlock ∧ some k_ ≠ (v239 : Value).ownBlock)) (by (with_reducible repeat (first | apply Kd.V_alloc | apply Kd.V_drewN | apply Kd.V_drew)); exact Kd.V_mono HL176_0.out (fun _ hk => ⟨⟨hk.1.1, ⟨hk.1.2.2, hk.2⟩⟩, hk.1.2.1⟩)) hg (.inl rfl)); replace HL180_0 := ak (Kd.V_afterv (v := (.slice (some ⟨go79, 0, none⟩) l0.length co19)) (v1 := (.slice (some ⟨go79, 0, none⟩) l0.length co19)) (ok := (fun k_ => (P0_ k_ ∨ w.heap.size ≤ k_) ∧ some k_ ≠ (.slice Ao89 y181.length co89 : Value).ownBlock ∧ some k_ ≠ (v239 : Value).ownBlock)) (by (with_reducible repeat (first | apply Kd.V_alloc | apply Kd.V_drewN | apply Kd.V_drew)); exact Kd.V_mono HL180_0.out (fun _ hk => ⟨⟨hk.1.1, ⟨hk.1.2.2, hk.2⟩⟩, hk.1.2.1⟩)) hg (.inl rfl)); replace HO183 := ak (Kd.R_over' (v := (.slice (some ⟨go79, 0, none⟩) l0.length co19)) (hR HO183.out) (Kd.N_typed HO_0.out) (by decide) hg); replace HO237 := ak (Kd.V_afterv (v := (.slice (some ⟨go79, 0, none⟩) l0.length co19)) (v1 := (.slice (some ⟨go79, 0, none⟩) l0.length co19)) (ok := (fun k_ => (P0_ k_ ∨ w.heap.size ≤ k_) ∧ some k_ ≠ (v239 : Value).ownBlock)) (by (with_reducible repeat (first | apply Kd.V_alloc | apply Kd.V_drewN | apply Kd.V_drew)); exact Kd.V_mono HO237.out (fun _ hk => ⟨⟨hk.1.1, hk.2⟩, hk.1.2⟩)) hg (.inl rfl)); replace HB := ak ((by rw [hw]; exact below_set (HB.out) GB79.out : Below w0.heap.size w0 w95)); replace HK := ak (Kept.of_grown (S := (fun k_ => P0_ k_)) hg (by repeat (first | exact HK.out | apply Kept.alloc | apply Kept.drewN | apply Kept.drew)) (fun k_ e_ => (HO_0.out.1 k_ e_).1)); replace HO_0 := ak (hp_); clear HO240; clear hg hw hp_) | ((with_reducible refine gate_dst (N := 93) rfl ?_); (try (refine gate_guard (by rfl) ?_; dsimp only)); refine Kd.R_lit k65 _ 65 ?hg (N := 93) ?hd (xs := ([] : List (S65))) (inner := []) (ok := fun _ => True) (okp := fun _ => True) ?hr ?hp (fun _ hk => hk) trivial (Below.refl _ _) (Nat.le_refl _) (by simp) ?_; (case hd => rfl); (case hg => rfl); (case hr => go_simp <;> rfl); (case hp => exact (Reps.none _ _)); intro v243 w96 ho97 hb hg_ hnew_; clear hg_ hnew_; (first | rw [← Ny242.out] at ho97 | (simp only [Int.reduceToNat] at ho97; rw [← Ny242.out] at ho97)); replace HO_0 := ak (Kd.N_elder' (hN HO_0.out) (Kd.R_base ho97) hb); replace HL176_0 := ak (Kd.V_elder' (by (with_reducible repeat (first | apply Kd.V_alloc | apply Kd.V_drewN | apply Kd.V_drew)); exact HL176_0.out) (Kd.R_base ho97) hb); replace HL180_0 := ak (Kd.V_elder' (by (with_reducible repeat (first | apply Kd.V_alloc | apply Kd.V_drewN | apply Kd.V_drew)); exact HL180_0.out) (Kd.R_base ho97) hb); replace HO237 := ak (Kd.V_elder' (by (with_reducible repeat (first | apply Kd.V_alloc | apply Kd.V_drewN | apply Kd.V_drew)); exact HO237.out) (Kd.R_base ho97) hb); have HO244 := ak (Kd.R_lower (Kd.R_new' (Kd.R_newM (M := fun k_ => (P0_ k_ ∨ w.heap.size ≤ k_)) ho97 (by first | exact HK.out.1 | exact (show Kept w _ (fun k_ => P0_ k_) from by repeat (first | exact HK.out | apply Kept.alloc | apply Kept.drewN | apply Kept.drew)).1) (fun k_ h_ => .inr h_)) (Kd.R_lt (hR HO183.out))) (below_size (by exact hopb HB.out))); replace HO183 := ak (Kd.R_elder' (hR HO183.out) (Kd.R_base ho97) hb); replace HK := ak (Kept.below (S := (fun k_ => P0_ k_)) (by repeat (first | exact HK.out | apply Kept.alloc | apply Kept.drewN | apply Kept.drew)) hb); replace HB := ak (below_step (by exact hopb HB.out) hb); clear hb ho97; have q98 : ((ji75) : Int) ≤ ((y181.length : Int) : Int) := of_decide_eq_true (by assumption); obtain ⟨i098, hi098, _, hsz98, _⟩ := info_parts info65; have hroom98 : y181.length ≤ co89 := (Kd.R_reads' HO183.out).2.1; have hC98 : Kd.F k65 _ _ Ao89 y181.length y181 := (Kd.V_at (base := w0.heap.size) (Kd.R_V (Kd.R_apart' (HO183.out) (Kd.N_typed HO_0.out) (by decide)))).2.2; have q098 : (0 : Int) ≤ ((ji75) : Int) := of_decide_eq_true (by assumption); have hcut98 := cut_from (P := Try.prog) 36 65 .i64 Try.underlying36 hi098 2 hsz98 Ao89 y181.length co89 (ji75) q098 q98; have hr98 := Kd.F_cut (m := ((ji75) : Int).toNat) (c := co89) hC98 (by omega) hroom98; obtain ⟨A98, hA98⟩ : ∃ A1, A1 = (if co89 = ((ji75) : Int).toNat then Ao89 else (Ao89 : Option Addr).map (·.add (((ji75) : Int).toNat * 2))) := ⟨_, rfl⟩; obtain ⟨c98, hc98⟩ : ∃ c1, c1 = co89 - ((ji75) : Int).toNat := ⟨_, rfl⟩; have hy98 : y245.length = y181.length - ((ji75) : Int).toNat := (by rw [Ny245.out, List.length_drop] <;> omega); rw [show (y181).drop ((ji75) : Int).toNat = y245 from Ny245.out.symm] at hr98; replace hr98 : Kd.F k65 _ _ A98 y245.length y245 := (by rw [hA98]; exact hr98); rw [← hy98, ← hA98, ← hc98] at hcut98; have HO249 := ak (show Kd.V k65 65 _ w0.heap.size _ (.slice A98 y245.length c98) y245 from Kd.V_mk (by rw [hy98, hc98]; exact Nat.sub_le_sub_right hroom98 _) hr98); have HC249 := ak (show y245.length ≤ c98 from by rw [hy98, hc98]; exact Nat.sub_le_sub_right hroom98 _); clear hr98 hC98 hroom98 hi098 hsz98 hc98; have KY98 := ak hy98; have KA98 := ak hA98; clear hy98 hA98; replace q98 := eq_true q98) | ((with_reducible refine gate_builtin (b := .append) (xs := #[.tmp 93, .tmp 96]) rfl ?_); (try (refine gate_guard (by rfl) ?_; dsimp only)); at_builtin; refine Kd.R_append_rows k65 (w0 := w0) w0.heap.size rfl (.tmp 93) (.tmp 96) 36 65 (.agg #[(.string ⟨#[]⟩), (.int .i64 0)]) 24 rfl Try.underlying36 info65 rfl (by decide) (by omega) v243 y242 y245 _ _ _ (fun k_ => (P0_ k_ ∨ w.heap.size ≤ k_) ∧ some k_ ≠ (.slice Ao89 y181.length co89 : Value).ownBlock) (fun _ => False) rfl rfl ?aO ?aR (fun _ _ h => h) (fun _ h => h.elim) ?aF ?aB ?aS ?aL ?_; (case aR => exact hC (Kd.V_reads' HO249.out).2.2); (case aB => exact (by exact hopb HB.out)); (case aF => exact (fun k_ hk => ⟨(.inr (Nat.le_trans (by first | exact HK.out.1 | exact (show Kept w _ (fun k_ => P0_ k_) from by repeat (first | exact HK.out | apply Kept.alloc | apply Kept.drewN | apply Kept.drew)).1) hk)), Kd.fresh' (Kd.R_lt (hR HO183.out)) k_ hk⟩)); (case aO => exact (by (with_reducible repeat (first | apply Kd.R_alloc | apply Kd.R_drewN | apply Kd.R_drew)); exact Kd.R_mono HO244.out (fun _ hk => ⟨hk.1.1, hk.2⟩))); (case aS => exact (below_size (by exact hopb HB.out))); (case aL => have := LMc82.out; omega); intro v251 w99 ho hb hg hat; rw [← Ny250.out] at ho; replace HO_0 := ak (Kd.N_afterv (ok := (fun k_ => (P0_ k_ ∨ w.heap.size ≤ k_) ∧ some k_ ≠ (.slice Ao89 y181.length co89 : Value).ownBlock)) (hN HO_0.out) hg hat); replace HL176_0 := ak (Kd.V_afterv (ok := (fun k_ => (P0_ k_ ∨ w.heap.size ≤ k_) ∧ some k_ ≠ (.slice (some ⟨go79, 0, none⟩) l0.length co19 : Value).ownBlock ∧ some k_ ≠ (.slice Ao89 y181.length co89 : Value).ownBlock)) (by (with_reducible repeat (first | apply Kd.V_alloc | apply Kd.V_drewN | apply Kd.V_drew)); exact Kd.V_mono HL176_0.out (fun _ hk => ⟨⟨hk.1.1.1, ⟨hk.1.2, hk.1.1.2.1⟩⟩, hk.2⟩)) hg hat); replace HL180_0 := ak (Kd.V_afterv (ok := (fun k_ => (P0_ k_ ∨ w.heap.size ≤ k_) ∧ some k_ ≠ (.slice (some ⟨go79, 0, none⟩) l0.length co19 : Value).ownBlock ∧ some k_ ≠ (.slice Ao89 y181.length co89 : Value).ownBlock)) (by (with_reducible repeat (first | apply Kd.V_alloc | apply Kd.V_drewN | apply Kd.V_drew)); exact Kd.V_mono HL180_0.out (fun _ hk => ⟨⟨hk.1.1.1, ⟨hk.1.2, hk.1.1.2.1⟩⟩, hk.2⟩)) hg hat); replace HO183 := ak (Kd.R_after (ok := (fun k_ => (P0_ k_ ∨ w.heap.size ≤ k_))) (by (with_reducible repeat (first | apply Kd.R_alloc | apply Kd.R_drewN | apply Kd.R_drew)); exact Kd.R_mono HO183.out (fun _ hk => ⟨hk.1.1, hk.2⟩)) hg hat); replace HO237 := ak (Kd.V_afterv (ok := (fun k_ => (P0_ k_ ∨ w.heap.size ≤ k_) ∧ some k_ ≠ (.slice (some ⟨go79, 0, none⟩) l0.length co19 : Value).ownBlock)) (by (with_reducible repeat (first | apply Kd.V_alloc | apply Kd.V_drewN | apply Kd.V_drew)); exact Kd.V_mono HO237.out (fun _ hk => ⟨⟨hk.1.1.1, hk.1.2⟩, hk.2⟩)) hg hat); replace HO249 := ak (Kd.V_afterv (ok := (fun k_ => (P0_ k_ ∨ w.heap.size ≤ k_) ∧ some k_ ≠ (.slice (some ⟨go79, 0, none⟩) l0.length co19 : Value).ownBlock)) (by (with_reducible repeat (first | apply Kd.V_alloc | apply Kd.V_drewN | apply Kd.V_drew)); exact Kd.V_mono HO249.out (fun _ hk => ⟨⟨hk.1.1.1, hk.2⟩, hk.1.2⟩)) hg hat); replace HB := ak (hb); replace HK := ak (Kept.of_grown (S := (fun k_ => P0_ k_)) hg (by repeat (first | exact HK.out | apply Kept.alloc | apply Kept.drewN | apply Kept.drew)) (fun k_ e_ => (HO244.out.1 k_ e_).1.1)); have HO252 := ak (ho); clear HO244; clear ho hb hg hat; have p83 : 0 ≤ ((ji24) : Int) := of_decide_eq_true (by assumption); have q83 : ((ji24) : Int) < ((l0.length : Int) : Int) := of_decide_eq_true (by assumption); obtain ⟨ce83, hcl83, hM83, hcc83, hfr83⟩ := Kd.N_elem HO_0.out z53 ((ji24) : Int) p83 q83; obtain ⟨ua83_0, uc83_0, rfl, ul83_0, ge83_0⟩ := k53_openF hM83; have hx83_0 := hcc83 0 _ rfl; have hf83_0 := hfr83 0; (try simp only [show (k53).sz = 1 from rfl, Nat.mul_one, Nat.add_zero] at hx83_0); (try simp only [show (k53).sz = 1 from rfl, Nat.mul_one, Nat.add_zero] at hf83_0); clear hcl83 hcc83 hfr83 hM83; replace p83 := eq_true p83; replace q83 := eq_true q83; have n_ := ak (Kd.N_mono (ok' := (fun k_ => (P0_ k_ ∨ w.heap.size ≤ k_) ∧ some k_ ≠ (.slice Ao89 y181.length co89 : Value).ownBlock ∧ some k_ ≠ (v251 : Value).ownBlock)) HO_0.out (fun k_ hk => ⟨hk.1.1, ⟨hk.1.2, hk.2⟩⟩)); clear HO_0; have HO_0 := n_; clear n_; have HX100 := ak (show Kd.N k53 53 w99 w0.heap.size (fun k_ => (P0_ k_ ∨ w.heap.size ≤ k_) ∧ some k_ ≠ (.slice Ao89 y181.length co89 : Value).ownBlock) (.slice (some ⟨go79, 0, none⟩) l0.length co19) y241 from (by (with_reducible repeat (first | apply Kd.N_alloc | apply Kd.N_drewN | apply Kd.N_drew)); exact Kd.N_mono HO_0.out (fun _ hk => ⟨hk.1, hk.2.1⟩))); obtain ⟨ce100, hcl100, hM100, hcc100, hfr100⟩ := Kd.N_elem HX100.out z53 ((ji24) : Int) (of_decide_eq_true (by assumption)) (by have h_ : ((ji24) : Int) < ((l0.length : Int) : Int) := of_decide_eq_true (by assumption); first | exact h_ | (have e_ := (Kd.N_reads' HO_0.out).1; omega) | simpa using h_); obtain ⟨ua100_0, uc100_0, rfl, ul100_0, ge100_0⟩ := k53_openF hM100; have HP100 := Kd.N_seg HX100.out ((ji24) : Int) (of_decide_eq_true (by assumption)) (by have h_ : ((ji24) : Int) < ((l0.length : Int) : Int) := of_decide_eq_true (by assumption); first | exact h_ | (have e_ := (Kd.N_reads' HO_0.out).1; omega) | simpa using h_) (seg := [v251]) (j := 0) hcl100 hcc100 (show 1 ≤ 1 from by decide) (x' := (⟨y250⟩ : S53)) (by have hmk_ := Kd.R_mono (ok' := (fun k_ => ((fun k_ => (P0_ k_ ∨ w.heap.size ≤ k_) ∧ some k_ ≠ (.slice Ao89 y181.length co89 : Value).ownBlock)) k_ ∧ k_ ≠ go79)) (Kd.R_apart' (HO252.out) (Kd.N_typed HO_0.out) (by decide)) (fun k_ hk => ⟨⟨hk.1.1, hk.1.2⟩, fun e_ => (hk.2) (by rw [e_]; rfl)⟩); obtain ⟨Am_, cm_, em_⟩ := Kd.R_slice hmk_; rw [em_] at hmk_ ⊢; exact k53_mkF _ _ (⟨y250⟩ : S53) (Kd.R_reads' hmk_).2.1 (Kd.R_F hmk_)) (fun _ hk => hk); have hx100_0 := hcc100 0 _ rfl; (try simp only [show (k53).sz = 1 from rfl, Nat.mul_one, Nat.add_zero] at hx100_0); have hf100_0 := hfr100 0; (try simp only [show (k53).sz = 1 from rfl, Nat.mul_one, Nat.add_zero] at hf100_0); clear hcl100 hcc100 hfr100 hM100; (try simp only [show (k53).sz = 1 from rfl, Nat.mul_one, Nat.add_zero] at HP100); (try simp only [show (k53).sz = 1 from rfl, Nat.mul_one, Nat.add_zero] at HP100)) | ((with_reducible refine gate_store (t := 36) (p := 99) rfl ?_); refine store_event (t := 36) (p := 99) (v := ?vo_w101) (w1 := (w99.setCell ⟨go79, ((ji24) : Int).toNat, none⟩ (v251))) ?hg ?ho ?hn ?hr ?_; (case ho => rfl); (case hg => rfl); (case hn => rfl); (case hr => first | (go_simp; done) | (go_simp; rfl) | (obtain ⟨A_, c_, e_⟩ := Kd.R_slice (‹Aside0 (Kd.R _ _ _ _ _ v251 _)›).out; rw [e_]; go_simp <;> rfl) | (have one_ : Value.oneCell' v251 = true := (by (first | obtain ⟨A_, c_, e_⟩ := Kd.R_slice (‹Aside0 (Kd.R _ _ _ _ _ v251 _)›).out | obtain ⟨A_, c_, e_⟩ := Kd.N_slice (‹Aside0 (Kd.N _ _ _ _ _ v251 _)›).out | obtain ⟨A_, c_, e_⟩ := Kd.S_slice (‹Aside0 (Kd.S _ _ _ _ _ v251 _)›).out); rw [e_]; rfl); have sto_ := fun (a_ : Addr) m_ (w_ : World) => run_store Try.prog w_ a_ v251 m_ one_; go_simp <;> rfl)); intro w101 hw; have hg : w99.grownBy w101 (some go79) := (by rw [hw]; exact HP100.2); have hp_ : Kd.N k53 53 w101 w0.heap.size (fun k_ => (P0_ k_ ∨ w.heap.size ≤ k_) ∧ some k_ ≠ (.slice Ao89 y181.length co89 : Value).ownBlock) (.slice (some ⟨go79, 0, none⟩) l0.length co19) y253 := (by rw [hw, Ny253.out]; exact HP100.1); clear HP100; replace HL176_0 := ak (Kd.V_afterv (v := (.slice (some ⟨go79, 0, none⟩) l0.length co19)) (v1 := (.slice (some ⟨go79, 0, none⟩) l0.length co19)) (ok := (fun k_ => (P0_ k_ ∨ w.heap.size ≤ k_) ∧ some k_ ≠ (.slice Ao89 y181.length co89 : Value).ownBlock ∧ some k_ ≠ (v251 : Value).ownBlock)) (by (with_reducible repeat (first | apply Kd.V_alloc | apply Kd.V_drewN | apply Kd.V_drew)); exact Kd.V_mono HL176_0.out (fun _ hk => ⟨⟨hk.1.1, ⟨hk.1.2.2, hk.2⟩⟩, hk.1.2.1⟩)) hg (.inl rfl)); replace HL180_0 := ak (Kd.V_afterv (v := (.slice (some ⟨go79, 0, none⟩) l0.length co19)) (v1 := (.slice (some ⟨go79, 0, none⟩) l0.length co19)) (ok := (fun k_ => (P0_ k_ ∨ w.heap.size ≤ k_) ∧ some k_ ≠ (.slice Ao89 y181.length co89 : Value).ownBlock ∧ some k_ ≠ (v251 : Value).ownBlock)) (by (with_reducible repeat (first | apply Kd.V_alloc | apply Kd.V_drewN | apply Kd.V_drew)); exact Kd.V_mono HL180_0.out (fun _ hk => ⟨⟨hk.1.1, ⟨hk.1.2.2, hk.2⟩⟩, hk.1.2.1⟩)) hg (.inl rfl)); replace HO183 := ak (Kd.R_over' (v := (.slice (some ⟨go79, 0, none⟩) l0.length co19)) (hR HO183.out) (Kd.N_typed HO_0.out) (by decide) hg); replace HO237 := ak (Kd.V_afterv (v := (.slice (some ⟨go79, 0, none⟩) l0.length co19)) (v1 := (.slice (some ⟨go79, 0, none⟩) l0.length co19)) (ok := (fun k_ => (P0_ k_ ∨ w.heap.size ≤ k_) ∧ some k_ ≠ (v251 : Value).ownBlock)) (by (with_reducible repeat (first | apply Kd.V_alloc | apply Kd.V_drewN | apply Kd.V_drew)); exact Kd.V_mono HO237.out (fun _ hk => ⟨⟨hk.1.1, hk.2⟩, hk.1.2⟩)) hg (.inl rfl)); replace HO249 := ak (Kd.V_afterv (v := (.slice (some ⟨go79, 0, none⟩) l0.length co19)) (v1 := (.slice (some ⟨go79, 0, none⟩) l0.length co19)) (ok := (fun k_ => (P0_ k_ ∨ w.heap.size ≤ k_) ∧ some k_ ≠ (v251 : Value).ownBlock)) (by (with_reducible repeat (first | apply Kd.V_alloc | apply Kd.V_drewN | apply Kd.V_drew)); exact Kd.V_mono HO249.out (fun _ hk => ⟨⟨hk.1.1, hk.2⟩, hk.1.2⟩)) hg (.inl rfl)); replace HB := ak ((by rw [hw]; exact below_set (HB.out) GB79.out : Below w0.heap.size w0 w101)); replace HK := ak (Kept.of_grown (S := (fun k_ => P0_ k_)) hg (by repeat (first | exact HK.out | apply Kept.alloc | apply Kept.drewN | apply Kept.drew)) (fun k_ e_ => (HO_0.out.1 k_ e_).1)); replace HO_0 := ak (hp_); clear HO252; clear hg hw hp_))
                     go_ret
                     exact ⟨_, by first | rfl | (simp only [u8_w_, w64_u8_] <;> rfl) | (simp [errW_none, errW_some] <;> rfl) | (simp only [← hji24, ← hji75]; first | rfl | (simp [errW_none, errW_some] <;> rfl)) | (simp [*, errW_none, errW_some] <;> rfl), by (with_reducible repeat (first | apply Kd.N_alloc | apply Kd.N_drewN | apply Kd.N_drew)); exact Kd.N_mono HO_0.out (fun _ hk => hk.1), by exact hopb HB.out, by repeat (first | exact HK.out | apply Kept.alloc | apply Kept.drewN | apply Kept.drew)⟩
                    ·rw [if_neg c82] at H
                     exact absurd H (by simp)
                   ·rw [if_neg c78] at H
                    exact absurd H (by simp)
                  ·rw [if_neg c77] at H
                   exact absurd H (by simp)
                 ·rw [if_neg c76] at H
                  exact absurd H (by simp)
              ·rw [if_neg c27] at H
               exact absurd H (by simp)
             ·rw [if_neg c26] at H
              exact absurd H (by simp)
            ·rw [if_neg c25] at H
             exact absurd H (by simp)
           ·rw [if_neg c23] at H
            exact absurd H (by simp)
          ·rw [if_neg c22] at H
           exact absurd H (by simp)
         ·rw [if_neg c21] at H
          exact absurd H (by simp)

end Go.Proofs.Ytengnnhehjcfhaa.PFnPagesPut
