-- Written for this claim by a program of this session (wip/myprint in the proofs' repo)
import Derived.Test.YtebgpbcbbjpbfaaPFnPageFindx0
import Derived.Test.YtebgpbcbbjpbfaaPFnPageFindx2
import Derived.Test.YtebgpbcbbjpbfaaPFnPageFindx3
import Derived.Test.YtebgpbcbbjpbfaaPFnPageFindx4
import Derived.Test.YtebgpbcbbjpbfaaPFnPageFindx6
import Derived.Test.YtebgpbcbbjpbfaaWZip
-- slim3
namespace Go.Proofs.Ytebgpbcbbjpbfaa.PFnPageFind
open Go.RowKit Go.Proofs.YtebgpbcbbjpbfaaW.PrintWords Go.Proofs.YtebgpbcbbjpbfaaW.PrintLast Go.Proofs.YtebgpbcbbjpbfaaW.PrintMore
attribute [local go_sem] max2_int min2_int max_two min_two max_three min_three max_four min_four max2_strs min2_strs   -- for this text's walks alone
set_option linter.unusedVariables false
set_option linter.unusedSimpArgs false

/-! ### spec_PairPut: function 83 -/
mutual
def spec_PairPut.j0 : Nat → List (S71) → ByteArray → Int → List (S71) → Bool → Option ((List (S71)) × Bool)
 | 0, _, _, _, _, _ => none
 | k + 1, x0, x1, x2, x8, x23 => if x23 = true then (some (x8, false)) else ((spec_l4Place.f k x0 x1).bind fun t247 => (if t247 < (x0.length : Int) then (if 0 ≤ t247 then (spec_PairPut.j1 k x0 x1 x2 x8 t247 (((rd_T71 x0 t247).f0).toList == x1.toList)) else (none)) else (spec_PairPut.j1 k x0 x1 x2 x8 t247 false)))
def spec_PairPut.j1 : Nat → List (S71) → ByteArray → Int → List (S71) → Int → Bool → Option ((List (S71)) × Bool)
 | 0, _, _, _, _, _, _ => none
 | k + 1, x0, x1, x2, x8, x9, x40 => if x40 = true then (if x8.length + x0.length < 5864062014805 then ((some (x8 ++ x0 : List (S71))).bind fun y249 => (if 0 ≤ x9 then (if x9 < (y249.length : Int) then (some ((y249.set (x9 : Int).toNat (⟨(rd_T71 y249 x9).f0, x2⟩ : S71)), true)) else (none)) else (none))) else (none)) else (if (x0.length : Int) ≥ 48 then (if x8.length + x0.length < 5864062014805 then (some ((x8 ++ x0), false)) else (none)) else (if 0 ≤ x9 then (if x9 ≤ (x0.length : Int) then ((some (x0.take (x9 : Int).toNat : List (S71))).bind fun y256 => (if x8.length + y256.length < 5864062014805 then ((some (x8 ++ y256 : List (S71))).bind fun y260 => (if y260.length < 5864062014805 then ((some (y260 ++ [(⟨x1, x2⟩ : S71)] : List (S71))).bind fun y263 => ((some (x0.drop (x9 : Int).toNat : List (S71))).bind fun y266 => (if y263.length + y266.length < 5864062014805 then (some ((y263 ++ y266), true)) else (none)))) else (none))) else (none))) else (none)) else (none)))
end
def spec_PairPut.f (k : Nat) (l0 : List (S71)) (a1 : ByteArray) (a2 : Int) : Option ((List (S71)) × Bool) := (some (([] : List (S71)) : List (S71))).bind fun y241 => ((spec_PairsValid.f k l0).bind fun t244 => (if t244 = true then ((spec_KeyValid.f k a1).bind fun t245 => (if t245 = true then ((spec_l1In.f a2 0 999).bind fun t246 => (spec_PairPut.j0 k l0 a1 a2 y241 (!t246))) else (spec_PairPut.j0 k l0 a1 a2 y241 true))) else (spec_PairPut.j0 k l0 a1 a2 y241 true)))
theorem spec_PairPut.mono_l : ∀ k, (∀ y0 y1 y2 y3 y4, LeO (spec_PairPut.j0 k y0 y1 y2 y3 y4) (spec_PairPut.j0 (k + 1) y0 y1 y2 y3 y4)) ∧ (∀ y0 y1 y2 y3 y4 y5, LeO (spec_PairPut.j1 k y0 y1 y2 y3 y4 y5) (spec_PairPut.j1 (k + 1) y0 y1 y2 y3 y4 y5))
 | 0 => ⟨fun _ _ _ _ _ r h => by simp [spec_PairPut.j0] at h, fun _ _ _ _ _ _ r h => by simp [spec_PairPut.j1] at h⟩
 | k + 1 => by
  obtain ⟨ih0, ih1⟩ := spec_PairPut.mono_l k
  refine ⟨?_, ?_⟩
  ·intro y0 y1 y2 y3 y4
   unfold spec_PairPut.j0
   repeat' first
   | (with_reducible exact ih0 _ _ _ _ _)
   | (with_reducible exact ih1 _ _ _ _ _ _)
   | (with_reducible exact spec_KeyValid.mono _ _)
   | (with_reducible exact spec_PairsValid.mono _ _)
   | (with_reducible exact spec_l4Place.mono _ _ _)
   | (with_reducible exact LeO.refl _)
   | (with_reducible exact LeO.none _)
   | (with_reducible refine LeO.ite ?_ ?_)
   | (with_reducible refine LeO.bind ?_ (fun _ => ?_))
   | exact ih0 _ _ _ _ _
   | exact ih1 _ _ _ _ _ _
   | exact LeO.none _
   | refine LeO.ite ?_ ?_
   | refine LeO.bind ?_ (fun _ => ?_)
  ·intro y0 y1 y2 y3 y4 y5
   unfold spec_PairPut.j1
   repeat' first
   | (with_reducible exact ih0 _ _ _ _ _)
   | (with_reducible exact ih1 _ _ _ _ _ _)
   | (with_reducible exact spec_KeyValid.mono _ _)
   | (with_reducible exact spec_PairsValid.mono _ _)
   | (with_reducible exact spec_l4Place.mono _ _ _)
   | (with_reducible exact LeO.refl _)
   | (with_reducible exact LeO.none _)
   | (with_reducible refine LeO.ite ?_ ?_)
   | (with_reducible refine LeO.bind ?_ (fun _ => ?_))
   | exact ih0 _ _ _ _ _
   | exact ih1 _ _ _ _ _ _
   | exact LeO.none _
   | refine LeO.ite ?_ ?_
   | refine LeO.bind ?_ (fun _ => ?_)
theorem spec_PairPut.mono : ∀ a0 a1 a2 k, LeO (spec_PairPut.f k a0 a1 a2) (spec_PairPut.f (k + 1) a0 a1 a2) := by
 intro a0 a1 a2 k
 obtain ⟨ih0, ih1⟩ := spec_PairPut.mono_l k
 unfold spec_PairPut.f
 repeat' first
   | (with_reducible exact ih0 _ _ _ _ _)
   | (with_reducible exact ih1 _ _ _ _ _ _)
   | (with_reducible exact spec_KeyValid.mono _ _)
   | (with_reducible exact spec_PairsValid.mono _ _)
   | (with_reducible exact spec_l4Place.mono _ _ _)
   | (with_reducible exact LeO.refl _)
   | (with_reducible exact LeO.none _)
   | (with_reducible refine LeO.ite ?_ ?_)
   | (with_reducible refine LeO.bind ?_ (fun _ => ?_))
   | exact ih0 _ _ _ _ _
   | exact ih1 _ _ _ _ _ _
   | exact LeO.none _
   | refine LeO.ite ?_ ?_
   | refine LeO.bind ?_ (fun _ => ?_)
set_option maxHeartbeats 8000000 in
set_option maxRecDepth 100000 in
theorem spec_PairPut.calls (k : Nat) (A0 : Option Addr) (c0 : Nat) (l0 : List (S71)) (a1 : ByteArray) (a2 : Int) (r1 : List (S71)) (r2 : Bool) (w : World) (hr0 : Kd.C k71 w A0 l0.length l0) (hc0 : l0.length ≤ c0) (h : spec_PairPut.f k l0 a1 a2 = some (r1, r2)) :
  Calls Try.prog 83 #[.slice A0 l0.length c0, .string a1, .int .i64 a2] w fun e w' => ∃ v0_ : Value, e = .returned (.tuple #[v0_, .bool r2]) ∧ Kd.R k71 71 w' w.heap.size (fun _ => True) v0_ r1 ∧ Below w.heap.size w w' := by
 have hu71 := Try.underlying71
 have HR0 := ak hr0
 have HC0 := ak hc0
 clear hr0 hc0
 have HB := ak (Below.refl w.heap.size w)
 have H : ((some (([] : List (S71)) : List (S71))).bind fun y241 => ((spec_PairsValid.f k l0).bind fun t244 => (if t244 = true then ((spec_KeyValid.f k a1).bind fun t245 => (if t245 = true then ((spec_l1In.f a2 0 999).bind fun t246 => (spec_PairPut.j0 k l0 a1 a2 y241 (!t246))) else (spec_PairPut.j0 k l0 a1 a2 y241 true))) else (spec_PairPut.j0 k l0 a1 a2 y241 true)))) = some (r1, r2) := h
 clear h
 obtain ⟨y241, hy241⟩ : ∃ y_ : List (S71), y_ = (([] : List (S71))) := ⟨_, rfl⟩
 replace H : ((spec_PairsValid.f k l0).bind fun t244 => (if t244 = true then ((spec_KeyValid.f k a1).bind fun t245 => (if t245 = true then ((spec_l1In.f a2 0 999).bind fun t246 => (spec_PairPut.j0 k l0 a1 a2 y241 (!t246))) else (spec_PairPut.j0 k l0 a1 a2 y241 true))) else (spec_PairPut.j0 k l0 a1 a2 y241 true))) = some (r1, r2) := by first | (rw [hy241]; exact H) | exact H
 have Ny241 := ak hy241
 clear hy241
 have HC4 := ak H
 clear H
 go_enter Try.func83, Try.ntmps83
 go_upto_region 2 with (first | ((with_reducible refine gate_dst (N := 10) rfl ?_); refine Kd.R_lit k71 _ 71 ?hg (N := 10) ?hd (xs := ([] : List (S71))) (inner := []) (ok := fun _ => True) (okp := fun _ => True) ?hr ?hp (fun _ hk => hk) trivial (Below.refl _ _) (Nat.le_refl _) (by simp) ?_; (case hd => rfl); (case hg => rfl); (case hr => first | (go_simp; done) | (go_simp; rfl)); (case hp => exact (Reps.none _ _)); intro v242 w5 ho6 hb hg_ hnew_; clear hg_ hnew_; (first | rw [← Ny241.out] at ho6 | (simp only [Int.reduceToNat] at ho6; rw [← Ny241.out] at ho6)); have HO243 := ak (Kd.R_lower ho6 (below_size (by exact hopb HB.out))); replace HB := ak (below_step (by exact hopb HB.out) hb); clear hb ho6))
 (try simp only [Act.put, lT, lZ, lS])
 go_cut [23] (fun v23 wc => ∃ (kq : Nat) (x23_3 : Bool), v23 = .bool x23_3 ∧ Aside0 (spec_PairPut.j0 kq l0 a1 a2 y241 x23_3 = some (r1, r2)) ∧ Aside0 (kq ≤ k) ∧ Aside0 (Kd.R k71 71 wc w.heap.size (fun _ => True) v242 y241) ∧ Aside0 (Below w.heap.size w wc))
 case first =>
  have H := HC4.out
  clear HC4
  replace H := Option.bind_eq_some_iff.mp H
  obtain ⟨t244, A70, H⟩ := H
  try dsimp only at H
  have A7 := ak A70
  clear A70
  by_cases c8 : t244 = true
  ·subst c8
   rw [if_pos rfl] at H
   replace H := Option.bind_eq_some_iff.mp H
   obtain ⟨t245, A90, H⟩ := H
   try dsimp only at H
   have A9 := ak A90
   clear A90
   by_cases c10 : t245 = true
   ·subst c10
    rw [if_pos rfl] at H
    replace H := Option.bind_eq_some_iff.mp H
    obtain ⟨t246, A110, H⟩ := H
    try dsimp only at H
    have A11 := ak A110
    clear A110
    have H' := ak H
    clear H
    go_wp2_with (first | ((with_reducible refine gate_callee (f := 69) rfl ?_); refine goesL_ (some 12) rfl rfl Try.func69 (by kernel_rfl) rfl #[.slice A0 l0.length c0] rfl (by (try simp only [List.map_toArray, List.map_cons, List.map_nil]); first | done | rfl | (simp only [List.length_drop, List.length_take]; rfl)) ?_; (with_reducible refine (spec_PairsValid.calls k _ _ l0 true _ ?side1 ?side2 A7.out).mono ?_); (case side1 => repeat (first | exact (Kd.C_below HR0.out HB.out) | (with_reducible refine Kd.C_alloc ?_ _) | (with_reducible refine Kd.C_drewN ?_ _) | (with_reducible refine Kd.C_drew ?_))); (case side2 => exact HC0.out); rintro e w12 ⟨rfl, hb⟩; refine ⟨_, rfl, ?_⟩; replace HO243 := ak (Kd.R_below (by (with_reducible repeat (first | apply Kd.R_alloc | apply Kd.R_drewN | apply Kd.R_drew)); exact HO243.out) hb); replace HB := ak (below_step (by exact hopb HB.out) hb); (try clear hb)) | (go_at_call 76; (with_reducible refine (spec_KeyValid.calls k a1 true _ A9.out).mono ?_); rintro e w' ⟨rfl, ⟨nd, rfl⟩⟩) | (go_at_call 81; (with_reducible refine (spec_l1In.calls a2 0 999 t246 _ A11.out).mono ?_); rintro e w' ⟨rfl, ⟨nd, rfl⟩⟩))
    go_meet
    case rel => exact ⟨_, (!t246), (by first | rfl | (simp; done) | (simp [bne]; done) | (simp [*]; done)), H', ⟨by first | omega | exact Nat.le_refl _⟩, ⟨by (with_reducible repeat (first | apply Kd.R_alloc | apply Kd.R_drewN | apply Kd.R_drew)); exact HO243.out⟩, ⟨by exact hopb HB.out⟩⟩
   ·replace c10 := Bool.eq_false_iff.mpr c10
    subst c10
    rw [if_neg (show ¬ (false = true) by decide)] at H
    have H' := ak H
    clear H
    go_wp2_with (first | ((with_reducible refine gate_callee (f := 69) rfl ?_); refine goesL_ (some 12) rfl rfl Try.func69 (by kernel_rfl) rfl #[.slice A0 l0.length c0] rfl (by (try simp only [List.map_toArray, List.map_cons, List.map_nil]); first | done | rfl | (simp only [List.length_drop, List.length_take]; rfl)) ?_; (with_reducible refine (spec_PairsValid.calls k _ _ l0 true _ ?side1 ?side2 A7.out).mono ?_); (case side1 => repeat (first | exact (Kd.C_below HR0.out HB.out) | (with_reducible refine Kd.C_alloc ?_ _) | (with_reducible refine Kd.C_drewN ?_ _) | (with_reducible refine Kd.C_drew ?_))); (case side2 => exact HC0.out); rintro e w13 ⟨rfl, hb⟩; refine ⟨_, rfl, ?_⟩; replace HO243 := ak (Kd.R_below (by (with_reducible repeat (first | apply Kd.R_alloc | apply Kd.R_drewN | apply Kd.R_drew)); exact HO243.out) hb); replace HB := ak (below_step (by exact hopb HB.out) hb); (try clear hb)) | (go_at_call 76; (with_reducible refine (spec_KeyValid.calls k a1 false _ A9.out).mono ?_); rintro e w' ⟨rfl, ⟨nd, rfl⟩⟩))
    go_meet
    case rel => exact ⟨_, (true), (by first | rfl | (simp; done) | (simp [bne]; done) | (simp [*]; done)), H', ⟨by first | omega | exact Nat.le_refl _⟩, ⟨by (with_reducible repeat (first | apply Kd.R_alloc | apply Kd.R_drewN | apply Kd.R_drew)); exact HO243.out⟩, ⟨by exact hopb HB.out⟩⟩
  ·replace c8 := Bool.eq_false_iff.mpr c8
   subst c8
   rw [if_neg (show ¬ (false = true) by decide)] at H
   have H' := ak H
   clear H
   go_wp2_with (first | ((with_reducible refine gate_callee (f := 69) rfl ?_); refine goesL_ (some 12) rfl rfl Try.func69 (by kernel_rfl) rfl #[.slice A0 l0.length c0] rfl (by (try simp only [List.map_toArray, List.map_cons, List.map_nil]); first | done | rfl | (simp only [List.length_drop, List.length_take]; rfl)) ?_; (with_reducible refine (spec_PairsValid.calls k _ _ l0 false _ ?side1 ?side2 A7.out).mono ?_); (case side1 => repeat (first | exact (Kd.C_below HR0.out HB.out) | (with_reducible refine Kd.C_alloc ?_ _) | (with_reducible refine Kd.C_drewN ?_ _) | (with_reducible refine Kd.C_drew ?_))); (case side2 => exact HC0.out); rintro e w14 ⟨rfl, hb⟩; refine ⟨_, rfl, ?_⟩; replace HO243 := ak (Kd.R_below (by (with_reducible repeat (first | apply Kd.R_alloc | apply Kd.R_drewN | apply Kd.R_drew)); exact HO243.out) hb); replace HB := ak (below_step (by exact hopb HB.out) hb); (try clear hb)))
   go_meet
   case rel => exact ⟨_, (true), (by first | rfl | (simp; done) | (simp [bne]; done) | (simp [*]; done)), H', ⟨by first | omega | exact Nat.le_refl _⟩, ⟨by (with_reducible repeat (first | apply Kd.R_alloc | apply Kd.R_drewN | apply Kd.R_drew)); exact HO243.out⟩, ⟨by exact hopb HB.out⟩⟩
 case rest =>
  clear HC4
  try clear c1
  try clear p2
  try clear c6
  try clear c8
  try clear c10
  obtain ⟨kq, x23_3, rfl, HA, HJ3, HO_8, HB⟩ := hcut
  cases kq with
  | zero => exact absurd HA.out (by simp [spec_PairPut.j0])
  | succ kj3 =>
   have H := HA.out
   clear HA
   simp only [spec_PairPut.j0] at H
   by_cases c15 : x23_3 = true
   ·subst c15
    rw [if_pos rfl] at H
    simp only [Option.some.injEq, Prod.mk.injEq] at H
    obtain ⟨rfl, rfl⟩ := H
    go_wp2
    go_ret2
    exact ⟨_, by first | rfl | (simp only [u8_w_, w64_u8_] <;> rfl) | (simp [errW_none, errW_some] <;> rfl) | (simp [*, errW_none, errW_some] <;> rfl), by (with_reducible repeat (first | apply Kd.R_alloc | apply Kd.R_drewN | apply Kd.R_drew)); exact HO_8.out, by exact hopb HB.out⟩
   ·replace c15 := Bool.eq_false_iff.mpr c15
    subst c15
    rw [if_neg (show ¬ (false = true) by decide)] at H
    replace H := Option.bind_eq_some_iff.mp H
    obtain ⟨t247, A160, H⟩ := H
    try dsimp only at H
    have A16 := ak A160
    clear A160
    have HC17 := ak H
    clear H
    go_upto_region 5 with (first | ((with_reducible refine gate_callee (f := 107) rfl ?_); refine goesL_ (some 27) rfl rfl Try.func107 (by kernel_rfl) rfl #[.slice A0 l0.length c0, .string a1] rfl (by (try simp only [List.map_toArray, List.map_cons, List.map_nil]); first | done | rfl | (simp only [List.length_drop, List.length_take]; rfl)) ?_; (with_reducible refine (spec_l4Place.calls kj3 _ _ l0 a1 t247 _ ?side1 ?side2 A16.out).mono ?_); (case side1 => repeat (first | exact (Kd.C_below HR0.out HB.out) | (with_reducible refine Kd.C_alloc ?_ _) | (with_reducible refine Kd.C_drewN ?_ _) | (with_reducible refine Kd.C_drew ?_))); (case side2 => exact HC0.out); rintro e w' ⟨rfl, ⟨nd, rfl⟩⟩; refine ⟨_, rfl, ?_⟩))
    (try simp only [Act.put, lT, lZ, lS])
    go_cut [40] (fun v40 wc => ∃ (kq : Nat) (x40_16 : Bool), v40 = .bool x40_16 ∧ Aside0 (spec_PairPut.j1 kq l0 a1 a2 y241 t247 x40_16 = some (r1, r2)) ∧ Aside0 (kq ≤ kj3) ∧ Aside0 (Kd.R k71 71 wc w.heap.size (fun _ => True) v242 y241) ∧ Aside0 (Below w.heap.size w wc))
    case first =>
     have H := HC17.out
     clear HC17
     by_cases c18 : t247 < (l0.length : Int)
     ·rw [if_pos c18] at H
      have c18b0 : decide (t247 < (l0.length : Int)) = true := decide_eq_true c18
      clear c18
      (first | rw [c18b0] | (simp only [i64_w, i32_w]; rw [c18b0]) | skip)
      by_cases c19 : 0 ≤ t247
      ·rw [if_pos c19] at H
       have c19b0 : decide (0 ≤ t247) = true := decide_eq_true c19
       clear c19
       have H' := ak H
       clear H
       have p248 : 0 ≤ (t247 : Int) := of_decide_eq_true (by assumption)
       have q248 : t247 < (l0.length : Int) := of_decide_eq_true (by assumption)
       obtain ⟨ad248, e248, hx248_0, hx248_1⟩ := at_T71 HR0.out t247 p248 q248
       cases e248
       replace hx248_0 := bc HB.out hx248_0
       replace hx248_1 := bc HB.out hx248_1
       replace p248 := eq_true p248
       replace q248 := eq_true q248
       go_wp2
       go_meet
       case rel => exact ⟨_, ((((rd_T71 l0 t247).f0).toList == a1.toList)), (by first | rfl | (simp; done) | (simp [bne]; done) | (simp [*]; done)), H', ⟨by have := HJ3.out; first | omega | exact Nat.le_refl _⟩, ⟨by (with_reducible repeat (first | apply Kd.R_alloc | apply Kd.R_drewN | apply Kd.R_drew)); exact HO_8.out⟩, ⟨by exact hopb HB.out⟩⟩
      ·rw [if_neg c19] at H
       exact absurd H (by simp)
     ·rw [if_neg c18] at H
      have c18b0 : decide (t247 < (l0.length : Int)) = false := decide_eq_false c18
      clear c18
      (first | rw [c18b0] | (simp only [i64_w, i32_w]; rw [c18b0]) | skip)
      have H' := ak H
      clear H
      go_wp2
      go_meet
      case rel => exact ⟨_, (false), (by first | rfl | (simp; done) | (simp [bne]; done) | (simp [*]; done)), H', ⟨by have := HJ3.out; first | omega | exact Nat.le_refl _⟩, ⟨by (with_reducible repeat (first | apply Kd.R_alloc | apply Kd.R_drewN | apply Kd.R_drew)); exact HO_8.out⟩, ⟨by exact hopb HB.out⟩⟩
    case rest =>
     clear HC17
     try clear c1
     try clear p2
     try clear q2
     try clear hx2
     try clear c6
     try clear c8
     try clear c10
     try clear c15
     try clear c18
     try clear c18b0
     try clear c19
     try clear c19b0
     try clear hx248_0
     try clear hx248_1
     try clear p2
     try clear p248
     try clear q248
     obtain ⟨kq, x40_16, rfl, HA, HJ16, HO_8, HB⟩ := hcut
     cases kq with
     | zero => exact absurd HA.out (by simp [spec_PairPut.j1])
     | succ kj16 =>
      have H := HA.out
      clear HA
      simp only [spec_PairPut.j1] at H
      by_cases c20 : x40_16 = true
      ·subst c20
       rw [if_pos rfl] at H
       by_cases c21 : y241.length + l0.length < 5864062014805
       ·rw [if_pos c21] at H
        have LMc21 := ak c21
        clear c21
        obtain ⟨y249, hy249⟩ : ∃ y_ : List (S71), y_ = (y241 ++ l0) := ⟨_, rfl⟩
        replace H : (if 0 ≤ t247 then (if t247 < (y249.length : Int) then (some ((y249.set (t247 : Int).toNat (⟨(rd_T71 y249 t247).f0, a2⟩ : S71)), true)) else (none)) else (none)) = some (r1, r2) := by first | (rw [hy249]; exact H) | exact H
        have Ny249 := ak hy249
        clear hy249
        by_cases c22 : 0 ≤ t247
        ·rw [if_pos c22] at H
         have c22b0 : decide (0 ≤ t247) = true := decide_eq_true c22
         clear c22
         by_cases c23 : t247 < (y249.length : Int)
         ·rw [if_pos c23] at H
          have c23b0 : decide (t247 < (y249.length : Int)) = true := decide_eq_true c23
          clear c23
          obtain ⟨y252, hy252⟩ : ∃ y_ : List (S71), y_ = (y249.set (t247 : Int).toNat (⟨(rd_T71 y249 t247).f0, a2⟩ : S71)) := ⟨_, rfl⟩
          replace H : (some (y252, true)) = some (r1, r2) := by first | (rw [hy252]; exact H) | exact H
          have Ny252 := ak hy252
          clear hy252
          simp only [Option.some.injEq, Prod.mk.injEq] at H
          obtain ⟨rfl, rfl⟩ := H
          go_wp2_with (first | ((with_reducible refine gate_builtin (b := .append) (xs := #[.tmp 41, .tmp 42]) rfl ?_); at_builtin; refine Kd.R_append_rows k71 (w0 := w) w.heap.size rfl (.tmp 41) (.tmp 42) 32 71 (.agg #[(.string ⟨#[]⟩), (.int .i64 0)]) 24 rfl Try.underlying32 info71 rfl (by decide) (by omega) v242 y241 l0 _ _ _ (fun _ => True) (fun _ => False) rfl rfl ?aO ?aR (fun _ _ h => h) (fun _ h => h.elim) ?aF ?aB ?aS ?aL ?_; (case aR => repeat (first | exact (Kd.C_below HR0.out HB.out) | (with_reducible refine Kd.C_alloc ?_ _) | (with_reducible refine Kd.C_drewN ?_ _) | (with_reducible refine Kd.C_drew ?_))); (case aB => exact (by exact hopb HB.out)); (case aF => exact (fun _ _ => trivial)); (case aO => exact (by (with_reducible repeat (first | apply Kd.R_alloc | apply Kd.R_drewN | apply Kd.R_drew)); exact HO_8.out)); (case aS => exact (below_size (by exact hopb HB.out))); (case aL => have := LMc21.out; omega); intro v250 w25 ho hb hg hat; rw [← Ny249.out] at ho; replace HB := ak (hb); have HO251 := ak (ho); clear HO_8; clear ho hb hg hat; have p24 : 0 ≤ (t247 : Int) := of_decide_eq_true (by assumption); have q24 : (t247 : Int) < ((y249.length : Int) : Int) := of_decide_eq_true (by assumption); obtain ⟨go24, co24, eo24, gb24, gl24, cl24, HG24⟩ := Kd.R_form HO251.out (by omega); (first | cases eo24 | (injection eo24 with ea_ en_ ec_; (first | subst ea_ | (injection ea_ with ea_; subst ea_)); subst ec_; clear en_)); have GB24 := ak gb24; have GG24 := ak HG24; clear gb24 gl24 HG24; obtain ⟨ce24, hcl24, hM24, hcc24, hfr24⟩ := Kd.R_elem HO251.out z71 (t247 : Int) p24 q24; obtain rfl := k71_openM hM24; have hx24_0 : w25.cell? ⟨go24, (t247 : Int).toNat * 2, none⟩ = some (.string ((rd_T71 y249 t247).f0)) := hcc24 0 _ rfl; have hx24_1 : w25.cell? ⟨go24, (t247 : Int).toNat * 2 + 1, none⟩ = some (.int .i64 ((rd_T71 y249 t247).f1)) := hcc24 1 _ rfl; have hf24_0 : w25.frozen? ⟨go24, (t247 : Int).toNat * 2, none⟩ = false := hfr24 0; have hf24_1 : w25.frozen? ⟨go24, (t247 : Int).toNat * 2 + 1, none⟩ = false := hfr24 1; clear hcl24 hcc24 hfr24 hM24; replace p24 := eq_true p24; replace q24 := eq_true q24; have HX26 := ak (show Kd.R k71 71 w25 w.heap.size (fun _ => True) (.slice (some ⟨go24, 0, none⟩) y249.length co24) y249 from (by (with_reducible repeat (first | apply Kd.R_alloc | apply Kd.R_drewN | apply Kd.R_drew)); exact HO251.out)); obtain ⟨ce26, hcl26, hM26, hcc26, hfr26⟩ := Kd.R_elem HX26.out z71 (t247 : Int) (of_decide_eq_true (by assumption)) (by have h_ : (t247 : Int) < ((y249.length : Int) : Int) := of_decide_eq_true (by assumption); first | exact h_ | (have e_ := (Kd.R_reads' HO251.out).1; omega) | simpa using h_); obtain rfl := k71_openM hM26; have HP26 := Kd.R_seg HX26.out (t247 : Int) (of_decide_eq_true (by assumption)) (by have h_ : (t247 : Int) < ((y249.length : Int) : Int) := of_decide_eq_true (by assumption); first | exact h_ | (have e_ := (Kd.R_reads' HO251.out).1; omega) | simpa using h_) (seg := [.int .i64 a2]) (j := 1) hcl26 hcc26 (show 2 ≤ 2 from by decide) (x' := (⟨(rd_T71 y249 t247).f0, a2⟩ : S71)) (k71_mkM _ _ _ (⟨(rd_T71 y249 t247).f0, a2⟩ : S71) ) (fun _ hk => hk); have hx26_1 := hcc26 1 _ rfl; (try simp only [show (k71).sz = 2 from rfl, Nat.mul_one, Nat.add_zero] at hx26_1); have hf26_1 := hfr26 1; (try simp only [show (k71).sz = 2 from rfl, Nat.mul_one, Nat.add_zero] at hf26_1); clear hcl26 hcc26 hfr26 hM26) | ((with_reducible refine gate_store (t := 3) (p := 48) rfl ?_); refine store_event (t := 3) (p := 48) (v := ?vo_w27) (w1 := (w25.setCell ⟨go24, (t247 : Int).toNat * 2 + 1, none⟩ (.int .i64 a2))) ?hg ?ho ?hn ?hr ?_; (case ho => rfl); (case hg => rfl); (case hn => rfl); (case hr => first | (go_simp; done) | (go_simp; rfl)); intro w27 hw; have hg : w25.grownBy w27 (some go24) := (by rw [hw]; exact HP26.2); have hp_ : Kd.R k71 71 w27 w.heap.size (fun _ => True) (.slice (some ⟨go24, 0, none⟩) y249.length co24) y252 := (by rw [hw, Ny252.out]; exact HP26.1); clear HP26; replace HO251 := ak (hp_); replace HB := ak ((by rw [hw]; exact below_set (HB.out) GB24.out : Below w.heap.size w w27)); clear hg hw hp_))
          go_ret2
          exact ⟨_, by first | rfl | (simp only [u8_w_, w64_u8_] <;> rfl) | (simp [errW_none, errW_some] <;> rfl) | (simp [*, errW_none, errW_some] <;> rfl), by (with_reducible repeat (first | apply Kd.R_alloc | apply Kd.R_drewN | apply Kd.R_drew)); exact HO251.out, by exact hopb HB.out⟩
         ·rw [if_neg c23] at H
          exact absurd H (by simp)
        ·rw [if_neg c22] at H
         exact absurd H (by simp)
       ·rw [if_neg c21] at H
        exact absurd H (by simp)
      ·replace c20 := Bool.eq_false_iff.mpr c20
       subst c20
       rw [if_neg (show ¬ (false = true) by decide)] at H
       by_cases c28 : (l0.length : Int) ≥ 48
       ·rw [if_pos c28] at H
        have c28b0 : decide (48 ≤ (l0.length : Int)) = true := decide_eq_true c28
        have c28b1 : decide (48 ≤ l0.length) = true := decide_eq_true (by omega)
        clear c28
        by_cases c29 : y241.length + l0.length < 5864062014805
        ·rw [if_pos c29] at H
         have LMc29 := ak c29
         clear c29
         obtain ⟨y253, hy253⟩ : ∃ y_ : List (S71), y_ = (y241 ++ l0) := ⟨_, rfl⟩
         replace H : (some (y253, false)) = some (r1, r2) := by first | (rw [hy253]; exact H) | exact H
         have Ny253 := ak hy253
         clear hy253
         simp only [Option.some.injEq, Prod.mk.injEq] at H
         obtain ⟨rfl, rfl⟩ := H
         go_wp2_with (first | ((with_reducible refine gate_builtin (b := .append) (xs := #[.tmp 53, .tmp 54]) rfl ?_); at_builtin; refine Kd.R_append_rows k71 (w0 := w) w.heap.size rfl (.tmp 53) (.tmp 54) 32 71 (.agg #[(.string ⟨#[]⟩), (.int .i64 0)]) 24 rfl Try.underlying32 info71 rfl (by decide) (by omega) v242 y241 l0 _ _ _ (fun _ => True) (fun _ => False) rfl rfl ?aO ?aR (fun _ _ h => h) (fun _ h => h.elim) ?aF ?aB ?aS ?aL ?_; (case aR => repeat (first | exact (Kd.C_below HR0.out HB.out) | (with_reducible refine Kd.C_alloc ?_ _) | (with_reducible refine Kd.C_drewN ?_ _) | (with_reducible refine Kd.C_drew ?_))); (case aB => exact (by exact hopb HB.out)); (case aF => exact (fun _ _ => trivial)); (case aO => exact (by (with_reducible repeat (first | apply Kd.R_alloc | apply Kd.R_drewN | apply Kd.R_drew)); exact HO_8.out)); (case aS => exact (below_size (by exact hopb HB.out))); (case aL => have := LMc29.out; omega); intro v254 w30 ho hb hg hat; rw [← Ny253.out] at ho; replace HB := ak (hb); have HO255 := ak (ho); clear HO_8; clear ho hb hg hat))
         go_ret2
         exact ⟨_, by first | rfl | (simp only [u8_w_, w64_u8_] <;> rfl) | (simp [errW_none, errW_some] <;> rfl) | (simp [*, errW_none, errW_some] <;> rfl), by (with_reducible repeat (first | apply Kd.R_alloc | apply Kd.R_drewN | apply Kd.R_drew)); exact HO255.out, by exact hopb HB.out⟩
        ·rw [if_neg c29] at H
         exact absurd H (by simp)
       ·rw [if_neg c28] at H
        have c28b0 : decide (48 ≤ (l0.length : Int)) = false := decide_eq_false c28
        have c28b1 : decide (48 ≤ l0.length) = false := decide_eq_false (by omega)
        clear c28
        by_cases c31 : 0 ≤ t247
        ·rw [if_pos c31] at H
         have c31b0 := eq_true c31
         have c31b1 : decide (0 ≤ t247) = true := decide_eq_true c31
         clear c31
         by_cases c32 : t247 ≤ (l0.length : Int)
         ·rw [if_pos c32] at H
          have c32b0 := eq_true c32
          have c32b1 : decide (t247 ≤ (l0.length : Int)) = true := decide_eq_true c32
          clear c32
          obtain ⟨y256, hy256⟩ : ∃ y_ : List (S71), y_ = (l0.take (t247 : Int).toNat) := ⟨_, rfl⟩
          replace H : (if y241.length + y256.length < 5864062014805 then ((some (y241 ++ y256 : List (S71))).bind fun y260 => (if y260.length < 5864062014805 then ((some (y260 ++ [(⟨a1, a2⟩ : S71)] : List (S71))).bind fun y263 => ((some (l0.drop (t247 : Int).toNat : List (S71))).bind fun y266 => (if y263.length + y266.length < 5864062014805 then (some ((y263 ++ y266), true)) else (none)))) else (none))) else (none)) = some (r1, r2) := by first | (rw [hy256]; exact H) | exact H
          have Ny256 := ak hy256
          clear hy256
          by_cases c33 : y241.length + y256.length < 5864062014805
          ·rw [if_pos c33] at H
           have LMc33 := ak c33
           clear c33
           obtain ⟨y260, hy260⟩ : ∃ y_ : List (S71), y_ = (y241 ++ y256) := ⟨_, rfl⟩
           replace H : (if y260.length < 5864062014805 then ((some (y260 ++ [(⟨a1, a2⟩ : S71)] : List (S71))).bind fun y263 => ((some (l0.drop (t247 : Int).toNat : List (S71))).bind fun y266 => (if y263.length + y266.length < 5864062014805 then (some ((y263 ++ y266), true)) else (none)))) else (none)) = some (r1, r2) := by first | (rw [hy260]; exact H) | exact H
           have Ny260 := ak hy260
           clear hy260
           by_cases c34 : y260.length < 5864062014805
           ·rw [if_pos c34] at H
            have LMc34 := ak c34
            clear c34
            obtain ⟨y263, hy263⟩ : ∃ y_ : List (S71), y_ = (y260 ++ [(⟨a1, a2⟩ : S71)]) := ⟨_, rfl⟩
            replace H : ((some (l0.drop (t247 : Int).toNat : List (S71))).bind fun y266 => (if y263.length + y266.length < 5864062014805 then (some ((y263 ++ y266), true)) else (none))) = some (r1, r2) := by first | (rw [hy263]; exact H) | exact H
            have Ny263 := ak hy263
            clear hy263
            have c35b0 := eq_true (of_decide_eq_true (by assumption) : 0 ≤ t247)
            have c36b0 := eq_true (of_decide_eq_true (by assumption) : t247 ≤ (l0.length : Int))
            obtain ⟨y266, hy266⟩ : ∃ y_ : List (S71), y_ = (l0.drop (t247 : Int).toNat) := ⟨_, rfl⟩
            replace H : (if y263.length + y266.length < 5864062014805 then (some ((y263 ++ y266), true)) else (none)) = some (r1, r2) := by first | (rw [hy266]; exact H) | exact H
            have Ny266 := ak hy266
            clear hy266
            by_cases c37 : y263.length + y266.length < 5864062014805
            ·rw [if_pos c37] at H
             have LMc37 := ak c37
             clear c37
             obtain ⟨y270, hy270⟩ : ∃ y_ : List (S71), y_ = (y263 ++ y266) := ⟨_, rfl⟩
             replace H : (some (y270, true)) = some (r1, r2) := by first | (rw [hy270]; exact H) | exact H
             have Ny270 := ak hy270
             clear hy270
             simp only [Option.some.injEq, Prod.mk.injEq] at H
             obtain ⟨rfl, rfl⟩ := H
             have q38 : (t247 : Int) ≤ ((l0.length : Int) : Int) := of_decide_eq_true (by assumption)
             obtain ⟨i038, hi038, _, hsz38, _⟩ := info_parts info71
             have hroom38 : l0.length ≤ c0 := HC0.out
             have hC38 : Kd.C k71 _ A0 l0.length l0 := HR0.out
             have hcut38 := cut_to (P := Try.prog) 32 71 .i64 Try.underlying32 hi038 A0 l0.length c0 t247 (of_decide_eq_true (by assumption)) q38 hroom38
             have hr38 := Kd.C_take (m := (t247 : Int).toNat) hC38 (by omega)
             have hy38 : y256.length = (t247 : Int).toNat := (by rw [Ny256.out, List.length_take]; omega)
             rw [← Ny256.out] at hr38
             rw [← hy38] at hcut38
             have HR259 := ak hr38
             have HC259 := ak (show y256.length ≤ c0 from by omega)
             clear hr38 hC38 hroom38 hi038 hsz38
             have KY38 := ak hy38
             clear hy38
             replace q38 := eq_true q38
             go_wp2_with (first | ((with_reducible refine gate_builtin (b := .append) (xs := #[.tmp 56, .tmp 59]) rfl ?_); at_builtin; refine Kd.R_append_rows k71 (w0 := w) w.heap.size rfl (.tmp 56) (.tmp 59) 32 71 (.agg #[(.string ⟨#[]⟩), (.int .i64 0)]) 24 rfl Try.underlying32 info71 rfl (by decide) (by omega) v242 y241 y256 _ _ _ (fun _ => True) (fun _ => False) rfl rfl ?aO ?aR (fun _ _ h => h) (fun _ h => h.elim) ?aF ?aB ?aS ?aL ?_; (case aR => repeat (first | exact (Kd.C_below HR259.out HB.out) | (with_reducible refine Kd.C_alloc ?_ _) | (with_reducible refine Kd.C_drewN ?_ _) | (with_reducible refine Kd.C_drew ?_))); (case aB => exact (by exact hopb HB.out)); (case aF => exact (fun _ _ => trivial)); (case aO => exact (by (with_reducible repeat (first | apply Kd.R_alloc | apply Kd.R_drewN | apply Kd.R_drew)); exact HO_8.out)); (case aS => exact (below_size (by exact hopb HB.out))); (case aL => have := LMc33.out; omega); intro v261 w39 ho hb hg hat; rw [← Ny260.out] at ho; replace HB := ak (hb); have HO262 := ak (ho); clear HO_8; clear ho hb hg hat) | ((with_reducible refine gate_builtin (b := .append) (xs := #[.tmp 61, .tmp 65]) rfl ?_); at_builtin; refine Kd.R_append k71 (w0 := w) w.heap.size rfl (.tmp 61) (.tmp 65) 32 71 (.agg #[(.string ⟨#[]⟩), (.int .i64 0)]) 24 rfl Try.underlying32 info71 rfl (by decide) (by omega) v261 y260 (⟨a1, a2⟩ : S71) [.string a1, .int .i64 a2] (fun _ => True) (fun _ => False) rfl rfl ?aP (fun _ hk => hk.elim) ?aF ?aO ?aB ?aS ?aL ?_; (case aP => exact k71_mkM _ _ _ (⟨a1, a2⟩ : S71)); (case aB => exact (by exact hopb HB.out)); (case aF => exact (fun _ _ => trivial)); (case aO => exact (by (with_reducible repeat (first | apply Kd.R_alloc | apply Kd.R_drewN | apply Kd.R_drew)); exact HO262.out)); (case aS => exact (below_size (by exact hopb HB.out))); (case aL => have := LMc34.out; omega); intro v264 w40 ho hb hg hat; rw [← Ny263.out] at ho; replace HB := ak (hb); have HO265 := ak (ho); clear HO262; clear ho hb hg hat; have q41 : (t247 : Int) ≤ ((l0.length : Int) : Int) := of_decide_eq_true (by assumption); obtain ⟨i041, hi041, _, hsz41, _⟩ := info_parts info71; have hroom41 : l0.length ≤ c0 := HC0.out; have hC41 : Kd.C k71 _ A0 l0.length l0 := HR0.out; have q041 : (0 : Int) ≤ (t247 : Int) := of_decide_eq_true (by assumption); have hcut41 := cut_from (P := Try.prog) 32 71 .i64 Try.underlying32 hi041 2 hsz41 A0 l0.length c0 t247 q041 q41; have hr41 := Kd.C_drop (m := (t247 : Int).toNat) (c := c0) hC41 (by omega) hroom41; obtain ⟨A41, hA41⟩ : ∃ A1, A1 = (if c0 = (t247 : Int).toNat then A0 else (A0 : Option Addr).map (·.add ((t247 : Int).toNat * 2))) := ⟨_, rfl⟩; obtain ⟨c41, hc41⟩ : ∃ c1, c1 = c0 - (t247 : Int).toNat := ⟨_, rfl⟩; have hy41 : y266.length = l0.length - (t247 : Int).toNat := (by rw [Ny266.out, List.length_drop] <;> omega); rw [show (l0).drop (t247 : Int).toNat = y266 from Ny266.out.symm] at hr41; replace hr41 : Kd.C k71 _ A41 y266.length y266 := (by rw [hA41]; exact hr41); rw [← hy41, ← hA41, ← hc41] at hcut41; have HR269 := ak hr41; have HC269 := ak (show y266.length ≤ c41 from by rw [hy41, hc41]; exact Nat.sub_le_sub_right hroom41 _); clear hr41 hC41 hroom41 hi041 hsz41 hc41; have KY41 := ak hy41; have KA41 := ak hA41; clear hy41 hA41; replace q41 := eq_true q41) | ((with_reducible refine gate_builtin (b := .append) (xs := #[.tmp 67, .tmp 70]) rfl ?_); at_builtin; refine Kd.R_append_rows k71 (w0 := w) w.heap.size rfl (.tmp 67) (.tmp 70) 32 71 (.agg #[(.string ⟨#[]⟩), (.int .i64 0)]) 24 rfl Try.underlying32 info71 rfl (by decide) (by omega) v264 y263 y266 _ _ _ (fun _ => True) (fun _ => False) rfl rfl ?aO ?aR (fun _ _ h => h) (fun _ h => h.elim) ?aF ?aB ?aS ?aL ?_; (case aR => repeat (first | exact (Kd.C_below HR269.out HB.out) | (with_reducible refine Kd.C_alloc ?_ _) | (with_reducible refine Kd.C_drewN ?_ _) | (with_reducible refine Kd.C_drew ?_))); (case aB => exact (by exact hopb HB.out)); (case aF => exact (fun _ _ => trivial)); (case aO => exact (by (with_reducible repeat (first | apply Kd.R_alloc | apply Kd.R_drewN | apply Kd.R_drew)); exact HO265.out)); (case aS => exact (below_size (by exact hopb HB.out))); (case aL => have := LMc37.out; omega); intro v271 w42 ho hb hg hat; rw [← Ny270.out] at ho; replace HB := ak (hb); have HO272 := ak (ho); clear HO265; clear ho hb hg hat))
             go_ret2
             exact ⟨_, by first | rfl | (simp only [u8_w_, w64_u8_] <;> rfl) | (simp [errW_none, errW_some] <;> rfl) | (simp [*, errW_none, errW_some] <;> rfl), by (with_reducible repeat (first | apply Kd.R_alloc | apply Kd.R_drewN | apply Kd.R_drew)); exact HO272.out, by exact hopb HB.out⟩
            ·rw [if_neg c37] at H
             exact absurd H (by simp)
           ·rw [if_neg c34] at H
            exact absurd H (by simp)
          ·rw [if_neg c33] at H
           exact absurd H (by simp)
         ·rw [if_neg c32] at H
          exact absurd H (by simp)
        ·rw [if_neg c31] at H
         exact absurd H (by simp)

end Go.Proofs.Ytebgpbcbbjpbfaa.PFnPageFind
