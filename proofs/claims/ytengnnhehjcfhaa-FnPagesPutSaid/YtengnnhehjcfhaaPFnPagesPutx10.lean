-- Written for this claim by a program of this session (wip/myprint in the proofs' repo)
import Derived.Test.YtengnnhehjcfhaaPFnPagesPutx0
import Derived.Test.YtengnnhehjcfhaaPFnPagesPutx2
import Derived.Test.YtengnnhehjcfhaaPFnPagesPutx3
import Derived.Test.YtengnnhehjcfhaaWZip
-- slim4
namespace Go.Proofs.Ytengnnhehjcfhaa.PFnPagesPut
open Go.RowKit Go.Proofs.YtengnnhehjcfhaaW.PrintWords Go.Proofs.YtengnnhehjcfhaaW.PrintLast Go.Proofs.YtengnnhehjcfhaaW.PrintMore
attribute [local go_sem] max2_int min2_int max_two min_two max_three min_three max_four min_four max2_strs min2_strs   -- for this text's walks alone
set_option linter.unusedVariables false
set_option linter.unusedSimpArgs false
set_option maxHeartbeats 8000000
set_option maxRecDepth 100000

/-! ### spec_PagesOf: function 60 -/
def spec_PagesOf.l0 : Nat → List (S65) → List (S53) → Int → Option ((List (S53)))
 | 0, _, _, _ => none
 | k + 1, x0, x3, x4 => if x4 < (x0.length : Int) then (if (wrap64 ((x0.length : Int) - (mn (x0.length : Int) (wrap64 (x4 + 4))))) = 1 then ((some (([] : List (S65)) : List (S65))).bind fun y443 => (if 0 ≤ x4 then (if x4 ≤ (wrap64 ((mn (x0.length : Int) (wrap64 (x4 + 4))) - 1)) then (if (wrap64 ((mn (x0.length : Int) (wrap64 (x4 + 4))) - 1)) ≤ (x0.length : Int) then ((some ((x0.take ((wrap64 ((mn (x0.length : Int) (wrap64 (x4 + 4))) - 1)) : Int).toNat).drop (x4 : Int).toNat : List (S65))).bind fun y446 => (if y443.length + y446.length < 5864062014805 then (if x3.length < 5864062014805 then ((some (x3 ++ [(⟨(y443 ++ y446)⟩ : S53)] : List (S53))).bind fun y453 => (if (wrap64 ((mn (x0.length : Int) (wrap64 (x4 + 4))) - 1)) < (wrap64 (x4 + 4)) then (if (wrap64 ((mn (x0.length : Int) (wrap64 (x4 + 4))) - 1)) < (x0.length : Int) then ((some (([] : List (S65)) : List (S65))).bind fun y456 => (if 0 ≤ (wrap64 ((mn (x0.length : Int) (wrap64 (x4 + 4))) - 1)) then ((some (x0.drop ((wrap64 ((mn (x0.length : Int) (wrap64 (x4 + 4))) - 1)) : Int).toNat : List (S65))).bind fun y459 => (if y456.length + y459.length < 5864062014805 then (if y453.length < 5864062014805 then (some (y453 ++ [(⟨(y456 ++ y459)⟩ : S53)])) else (none)) else (none))) else (none))) else (spec_PagesOf.l0 k x0 y453 (wrap64 (x4 + 4)))) else (spec_PagesOf.l0 k x0 y453 (wrap64 (x4 + 4))))) else (none)) else (none))) else (none)) else (none)) else (none))) else ((some (([] : List (S65)) : List (S65))).bind fun y469 => (if 0 ≤ x4 then (if x4 ≤ (mn (x0.length : Int) (wrap64 (x4 + 4))) then (if (mn (x0.length : Int) (wrap64 (x4 + 4))) ≤ (x0.length : Int) then ((some ((x0.take ((mn (x0.length : Int) (wrap64 (x4 + 4))) : Int).toNat).drop (x4 : Int).toNat : List (S65))).bind fun y472 => (if y469.length + y472.length < 5864062014805 then (if x3.length < 5864062014805 then ((some (x3 ++ [(⟨(y469 ++ y472)⟩ : S53)] : List (S53))).bind fun y479 => (if (mn (x0.length : Int) (wrap64 (x4 + 4))) < (wrap64 (x4 + 4)) then (if (mn (x0.length : Int) (wrap64 (x4 + 4))) < (x0.length : Int) then ((some (([] : List (S65)) : List (S65))).bind fun y482 => (if 0 ≤ (mn (x0.length : Int) (wrap64 (x4 + 4))) then ((some (x0.drop ((mn (x0.length : Int) (wrap64 (x4 + 4))) : Int).toNat : List (S65))).bind fun y485 => (if y482.length + y485.length < 5864062014805 then (if y479.length < 5864062014805 then (some (y479 ++ [(⟨(y482 ++ y485)⟩ : S53)])) else (none)) else (none))) else (none))) else (spec_PagesOf.l0 k x0 y479 (wrap64 (x4 + 4)))) else (spec_PagesOf.l0 k x0 y479 (wrap64 (x4 + 4))))) else (none)) else (none))) else (none)) else (none)) else (none)))) else (some x3)
def spec_PagesOf.f (k : Nat) (l0 : List (S65)) : Option ((List (S53))) := (some (([] : List (S53)) : List (S53))).bind fun y439 => ((spec_PairsValid.f k l0).bind fun t442 => (if t442 = true then (spec_PagesOf.l0 k l0 y439 0) else (some y439)))
theorem spec_PagesOf.mono_l : ∀ k, (∀ y0 y1 y2, LeO (spec_PagesOf.l0 k y0 y1 y2) (spec_PagesOf.l0 (k + 1) y0 y1 y2))
 | 0 => fun _ _ _ r h => by simp [spec_PagesOf.l0] at h
 | k + 1 => by
  have ih0 := spec_PagesOf.mono_l k
  ·intro y0 y1 y2
   unfold spec_PagesOf.l0
   repeat' first
   | (with_reducible exact ih0 _ _ _)
   | (with_reducible exact spec_PairsValid.mono _ _)
   | (with_reducible exact LeO.refl _)
   | (with_reducible exact LeO.none _)
   | (with_reducible refine LeO.ite ?_ ?_)
   | (with_reducible refine LeO.bind ?_ (fun _ => ?_))
   | exact ih0 _ _ _
   | exact LeO.none _
   | refine LeO.ite ?_ ?_
   | refine LeO.bind ?_ (fun _ => ?_)
theorem spec_PagesOf.mono : ∀ a0 k, LeO (spec_PagesOf.f k a0) (spec_PagesOf.f (k + 1) a0) := by
 intro a0 k
 have ih0 := spec_PagesOf.mono_l k
 unfold spec_PagesOf.f
 repeat' first
   | (with_reducible exact ih0 _ _ _)
   | (with_reducible exact spec_PairsValid.mono _ _)
   | (with_reducible exact LeO.refl _)
   | (with_reducible exact LeO.none _)
   | (with_reducible refine LeO.ite ?_ ?_)
   | (with_reducible refine LeO.bind ?_ (fun _ => ?_))
   | exact ih0 _ _ _
   | exact LeO.none _
   | refine LeO.ite ?_ ?_
   | refine LeO.bind ?_ (fun _ => ?_)
theorem spec_PagesOf.calls (k : Nat) (A0 : Option Addr) (c0 : Nat) (l0 : List (S65)) (r : List (S53)) (w : World) (hr0 : Kd.C k65 w A0 l0.length l0) (hc0 : l0.length ≤ c0) (h : spec_PagesOf.f k l0 = some r) :
  Calls Try.prog 60 #[.slice A0 l0.length c0] w fun e w' => ∃ v0_ : Value, e = .returned (v0_) ∧ Kd.S k53 53 w' w.heap.size (fun _ => True) v0_ r ∧ Below w.heap.size w w' := by
 have hu53 := Try.underlying53
 have HR0 := ak hr0
 have HC0 := ak hc0
 clear hr0 hc0
 have HB := ak (Below.refl w.heap.size w)
 have H : ((some (([] : List (S53)) : List (S53))).bind fun y439 => ((spec_PairsValid.f k l0).bind fun t442 => (if t442 = true then (spec_PagesOf.l0 k l0 y439 0) else (some y439)))) = some r := h
 clear h
 obtain ⟨y439, hy439⟩ : ∃ y_ : List (S53), y_ = (([] : List (S53))) := ⟨_, rfl⟩
 replace H : ((spec_PairsValid.f k l0).bind fun t442 => (if t442 = true then (spec_PagesOf.l0 k l0 y439 0) else (some y439))) = some r := by first | (rw [hy439]; exact H) | exact H
 have Ny439 := ak hy439
 clear hy439
 replace H := Option.bind_eq_some_iff.mp H
 obtain ⟨t442, A20, H⟩ := H
 try dsimp only at H
 have A2 := ak A20
 clear A20
 by_cases c3 : t442 = true
 ·subst c3
  rw [if_pos rfl] at H
  have H' := ak H
  clear H
  go_enter Try.func60, Try.ntmps60
  go_wp2_with (first | ((with_reducible refine gate_dst (N := 6) rfl ?_); (try (refine gate_guard (by rfl) ?_; dsimp only)); refine Kd.S_lit k53 _ 53 ?hg (N := 6) ?hd (xs := ([] : List (S53))) (inner := []) (ok := fun _ => True) (okp := fun _ => True) ?hr ?hp (fun _ hk => hk) trivial (Below.refl _ _) (Nat.le_refl _) (by simp) ?_; (case hd => rfl); (case hg => rfl); (case hr => go_simp <;> rfl); (case hp => exact (Reps.none _ _)); intro v440 w4 ho5 hb hg_ hnew_; clear hg_ hnew_; (first | rw [← Ny439.out] at ho5 | (simp only [Int.reduceToNat] at ho5; rw [← Ny439.out] at ho5)); have HO441 := ak (Kd.S_lower ho5 (below_size (by exact hopb HB.out))); replace HB := ak (below_step (by exact hopb HB.out) hb); clear hb ho5) | ((with_reducible refine gate_callee (f := 54) rfl ?_); refine gL (some 8) Try.func54 #[.slice A0 l0.length c0] ?_; (with_reducible refine (spec_PairsValid.calls k _ _ l0 true _ ?side1 ?side2 A2.out).mono ?_); (case side1 => exact hC (Kd.C_below HR0.out HB.out)); (case side2 => exact HC0.out); rintro e w6 ⟨rfl, hb⟩; refine ⟨_, rfl, ?_⟩; replace HO441 := ak (Kd.S_below (hS HO441.out) hb); replace HB := ak (below_step (by exact hopb HB.out) hb); (try clear hb)))
  go_loopg [3, 4] k (fun kq v3 v4 w' => ∃ (x3_1 : List (S53)) (x4_1 : Int), v4 = .int .i64 x4_1 ∧ Aside0 (spec_PagesOf.l0 kq l0 x3_1 x4_1 = some r) ∧ Aside0 (kq ≤ k) ∧ Aside0 (Kd.S k53 53 w' w.heap.size (fun _ => True) v3 x3_1) ∧ Aside0 (Below w.heap.size w w'))
  case atStart => exact ⟨(y439), (0), (by first | rfl | (simp [*]; done)), H', ⟨Nat.le_refl _⟩, ⟨by (with_reducible repeat (first | apply Kd.S_alloc | apply Kd.S_drewN | apply Kd.S_drew)); exact HO441.out⟩, ⟨by exact hopb HB.out⟩⟩
  case round =>
   clear H'
   try clear p2
   try clear c3
   try clear c5
   try clear c6
   obtain ⟨x3_1, x4_1, rfl, HA, HK1, HO_3, HB⟩ := hrel
   cases gk with
   | zero => exact absurd HA.out (by simp [spec_PagesOf.l0])
   | succ k1 =>
    have H := HA.out
    clear HA
    simp only [spec_PagesOf.l0] at H
    by_cases c7 : x4_1 < (l0.length : Int)
    ·rw [if_pos c7] at H
     have c7b0 : decide (x4_1 < (l0.length : Int)) = true := decide_eq_true c7
     clear c7
     obtain ⟨ji8, hji8⟩ : ∃ j_ : Int, (mn (l0.length : Int) (wrap64 (x4_1 + 4))) = j_ := ⟨_, rfl⟩
     replace H : (if (wrap64 ((l0.length : Int) - (ji8))) = 1 then ((some (([] : List (S65)) : List (S65))).bind fun y443 => (if 0 ≤ x4_1 then (if x4_1 ≤ (wrap64 ((ji8) - 1)) then (if (wrap64 ((ji8) - 1)) ≤ (l0.length : Int) then ((some ((l0.take ((wrap64 ((ji8) - 1)) : Int).toNat).drop (x4_1 : Int).toNat : List (S65))).bind fun y446 => (if y443.length + y446.length < 5864062014805 then (if x3_1.length < 5864062014805 then ((some (x3_1 ++ [(⟨(y443 ++ y446)⟩ : S53)] : List (S53))).bind fun y453 => (if (wrap64 ((ji8) - 1)) < (wrap64 (x4_1 + 4)) then (if (wrap64 ((ji8) - 1)) < (l0.length : Int) then ((some (([] : List (S65)) : List (S65))).bind fun y456 => (if 0 ≤ (wrap64 ((ji8) - 1)) then ((some (l0.drop ((wrap64 ((ji8) - 1)) : Int).toNat : List (S65))).bind fun y459 => (if y456.length + y459.length < 5864062014805 then (if y453.length < 5864062014805 then (some (y453 ++ [(⟨(y456 ++ y459)⟩ : S53)])) else (none)) else (none))) else (none))) else (spec_PagesOf.l0 k1 l0 y453 (wrap64 (x4_1 + 4)))) else (spec_PagesOf.l0 k1 l0 y453 (wrap64 (x4_1 + 4))))) else (none)) else (none))) else (none)) else (none)) else (none))) else ((some (([] : List (S65)) : List (S65))).bind fun y469 => (if 0 ≤ x4_1 then (if x4_1 ≤ (ji8) then (if (ji8) ≤ (l0.length : Int) then ((some ((l0.take ((ji8) : Int).toNat).drop (x4_1 : Int).toNat : List (S65))).bind fun y472 => (if y469.length + y472.length < 5864062014805 then (if x3_1.length < 5864062014805 then ((some (x3_1 ++ [(⟨(y469 ++ y472)⟩ : S53)] : List (S53))).bind fun y479 => (if (ji8) < (wrap64 (x4_1 + 4)) then (if (ji8) < (l0.length : Int) then ((some (([] : List (S65)) : List (S65))).bind fun y482 => (if 0 ≤ (ji8) then ((some (l0.drop ((ji8) : Int).toNat : List (S65))).bind fun y485 => (if y482.length + y485.length < 5864062014805 then (if y479.length < 5864062014805 then (some (y479 ++ [(⟨(y482 ++ y485)⟩ : S53)])) else (none)) else (none))) else (none))) else (spec_PagesOf.l0 k1 l0 y479 (wrap64 (x4_1 + 4)))) else (spec_PagesOf.l0 k1 l0 y479 (wrap64 (x4_1 + 4))))) else (none)) else (none))) else (none)) else (none)) else (none)))) = some r := by first | (rw [hji8] at H; exact H) | (simp only [hji8] at H ⊢; exact H)
     have hji8_ : (if (wrap64 (x4_1 + 4)) < (l0.length : Int) then (wrap64 (x4_1 + 4)) else (l0.length : Int)) = ji8 := hji8
     by_cases c9 : (wrap64 ((l0.length : Int) - (ji8))) = 1
     ·rw [if_pos c9] at H
      have c9b0 : ((wrap64 ((l0.length : Int) - (ji8))) == 1) = true := beq_iff_eq.mpr c9
      have c9b1 : ((wrap64 ((l0.length : Int) - (ji8))) != 1) = false := bne_eq_false_iff_eq.mpr c9
      clear c9
      obtain ⟨y443, hy443⟩ : ∃ y_ : List (S65), y_ = (([] : List (S65))) := ⟨_, rfl⟩
      replace H : (if 0 ≤ x4_1 then (if x4_1 ≤ (wrap64 ((ji8) - 1)) then (if (wrap64 ((ji8) - 1)) ≤ (l0.length : Int) then ((some ((l0.take ((wrap64 ((ji8) - 1)) : Int).toNat).drop (x4_1 : Int).toNat : List (S65))).bind fun y446 => (if y443.length + y446.length < 5864062014805 then (if x3_1.length < 5864062014805 then ((some (x3_1 ++ [(⟨(y443 ++ y446)⟩ : S53)] : List (S53))).bind fun y453 => (if (wrap64 ((ji8) - 1)) < (wrap64 (x4_1 + 4)) then (if (wrap64 ((ji8) - 1)) < (l0.length : Int) then ((some (([] : List (S65)) : List (S65))).bind fun y456 => (if 0 ≤ (wrap64 ((ji8) - 1)) then ((some (l0.drop ((wrap64 ((ji8) - 1)) : Int).toNat : List (S65))).bind fun y459 => (if y456.length + y459.length < 5864062014805 then (if y453.length < 5864062014805 then (some (y453 ++ [(⟨(y456 ++ y459)⟩ : S53)])) else (none)) else (none))) else (none))) else (spec_PagesOf.l0 k1 l0 y453 (wrap64 (x4_1 + 4)))) else (spec_PagesOf.l0 k1 l0 y453 (wrap64 (x4_1 + 4))))) else (none)) else (none))) else (none)) else (none)) else (none)) = some r := by first | (rw [hy443]; exact H) | exact H
      have Ny443 := ak hy443
      clear hy443
      by_cases c10 : 0 ≤ x4_1
      ·rw [if_pos c10] at H
       have c10b0 := eq_true c10
       have c10b1 : decide (0 ≤ x4_1) = true := decide_eq_true c10
       clear c10
       by_cases c11 : x4_1 ≤ (wrap64 ((ji8) - 1))
       ·rw [if_pos c11] at H
        have c11b0 := eq_true c11
        have c11b1 : decide (x4_1 ≤ (wrap64 ((ji8) - 1))) = true := decide_eq_true c11
        clear c11
        by_cases c12 : (wrap64 ((ji8) - 1)) ≤ (l0.length : Int)
        ·rw [if_pos c12] at H
         have c12b0 := eq_true c12
         have c12b1 : decide ((wrap64 ((ji8) - 1)) ≤ (l0.length : Int)) = true := decide_eq_true c12
         clear c12
         obtain ⟨y446, hy446⟩ : ∃ y_ : List (S65), y_ = ((l0.take ((wrap64 ((ji8) - 1)) : Int).toNat).drop (x4_1 : Int).toNat) := ⟨_, rfl⟩
         replace H : (if y443.length + y446.length < 5864062014805 then (if x3_1.length < 5864062014805 then ((some (x3_1 ++ [(⟨(y443 ++ y446)⟩ : S53)] : List (S53))).bind fun y453 => (if (wrap64 ((ji8) - 1)) < (wrap64 (x4_1 + 4)) then (if (wrap64 ((ji8) - 1)) < (l0.length : Int) then ((some (([] : List (S65)) : List (S65))).bind fun y456 => (if 0 ≤ (wrap64 ((ji8) - 1)) then ((some (l0.drop ((wrap64 ((ji8) - 1)) : Int).toNat : List (S65))).bind fun y459 => (if y456.length + y459.length < 5864062014805 then (if y453.length < 5864062014805 then (some (y453 ++ [(⟨(y456 ++ y459)⟩ : S53)])) else (none)) else (none))) else (none))) else (spec_PagesOf.l0 k1 l0 y453 (wrap64 (x4_1 + 4)))) else (spec_PagesOf.l0 k1 l0 y453 (wrap64 (x4_1 + 4))))) else (none)) else (none)) = some r := by first | (rw [hy446]; exact H) | exact H
         have Ny446 := ak hy446
         clear hy446
         by_cases c13 : y443.length + y446.length < 5864062014805
         ·rw [if_pos c13] at H
          have LMc13 := ak c13
          clear c13
          obtain ⟨y450, hy450⟩ : ∃ y_ : List (S65), y_ = (y443 ++ y446) := ⟨_, rfl⟩
          replace H : (if x3_1.length < 5864062014805 then ((some (x3_1 ++ [(⟨y450⟩ : S53)] : List (S53))).bind fun y453 => (if (wrap64 ((ji8) - 1)) < (wrap64 (x4_1 + 4)) then (if (wrap64 ((ji8) - 1)) < (l0.length : Int) then ((some (([] : List (S65)) : List (S65))).bind fun y456 => (if 0 ≤ (wrap64 ((ji8) - 1)) then ((some (l0.drop ((wrap64 ((ji8) - 1)) : Int).toNat : List (S65))).bind fun y459 => (if y456.length + y459.length < 5864062014805 then (if y453.length < 5864062014805 then (some (y453 ++ [(⟨(y456 ++ y459)⟩ : S53)])) else (none)) else (none))) else (none))) else (spec_PagesOf.l0 k1 l0 y453 (wrap64 (x4_1 + 4)))) else (spec_PagesOf.l0 k1 l0 y453 (wrap64 (x4_1 + 4))))) else (none)) = some r := by first | (rw [hy450]; exact H) | exact H
          have Ny450 := ak hy450
          clear hy450
          by_cases c14 : x3_1.length < 5864062014805
          ·rw [if_pos c14] at H
           have LMc14 := ak c14
           clear c14
           obtain ⟨y453, hy453⟩ : ∃ y_ : List (S53), y_ = (x3_1 ++ [(⟨y450⟩ : S53)]) := ⟨_, rfl⟩
           replace H : (if (wrap64 ((ji8) - 1)) < (wrap64 (x4_1 + 4)) then (if (wrap64 ((ji8) - 1)) < (l0.length : Int) then ((some (([] : List (S65)) : List (S65))).bind fun y456 => (if 0 ≤ (wrap64 ((ji8) - 1)) then ((some (l0.drop ((wrap64 ((ji8) - 1)) : Int).toNat : List (S65))).bind fun y459 => (if y456.length + y459.length < 5864062014805 then (if y453.length < 5864062014805 then (some (y453 ++ [(⟨(y456 ++ y459)⟩ : S53)])) else (none)) else (none))) else (none))) else (spec_PagesOf.l0 k1 l0 y453 (wrap64 (x4_1 + 4)))) else (spec_PagesOf.l0 k1 l0 y453 (wrap64 (x4_1 + 4)))) = some r := by first | (rw [hy453]; exact H) | exact H
           have Ny453 := ak hy453
           clear hy453
           by_cases c15 : (wrap64 ((ji8) - 1)) < (wrap64 (x4_1 + 4))
           ·rw [if_pos c15] at H
            have c15b0 : decide ((wrap64 ((ji8) - 1)) < (wrap64 (x4_1 + 4))) = true := decide_eq_true c15
            clear c15
            by_cases c16 : (wrap64 ((ji8) - 1)) < (l0.length : Int)
            ·rw [if_pos c16] at H
             have c16b0 : decide ((wrap64 ((ji8) - 1)) < (l0.length : Int)) = true := decide_eq_true c16
             clear c16
             obtain ⟨y456, hy456⟩ : ∃ y_ : List (S65), y_ = (([] : List (S65))) := ⟨_, rfl⟩
             replace H : (if 0 ≤ (wrap64 ((ji8) - 1)) then ((some (l0.drop ((wrap64 ((ji8) - 1)) : Int).toNat : List (S65))).bind fun y459 => (if y456.length + y459.length < 5864062014805 then (if y453.length < 5864062014805 then (some (y453 ++ [(⟨(y456 ++ y459)⟩ : S53)])) else (none)) else (none))) else (none)) = some r := by first | (rw [hy456]; exact H) | exact H
             have Ny456 := ak hy456
             clear hy456
             obtain ⟨ji17, hji17⟩ : ∃ j_ : Int, (wrap64 ((ji8) - 1)) = j_ := ⟨_, rfl⟩
             replace H : (if 0 ≤ (ji17) then ((some (l0.drop ((ji17) : Int).toNat : List (S65))).bind fun y459 => (if y456.length + y459.length < 5864062014805 then (if y453.length < 5864062014805 then (some (y453 ++ [(⟨(y456 ++ y459)⟩ : S53)])) else (none)) else (none))) else (none)) = some r := by first | (rw [hji17] at H; exact H) | (simp only [hji17] at H ⊢; exact H)
             (try rw [hji17] at c11b0)
             (try rw [hji17] at c11b1)
             (try rw [hji17] at c12b0)
             (try rw [hji17] at c12b1)
             (try rw [hji17] at c15b0)
             (try rw [hji17] at c16b0)
             (try rw [hji17] at Ny446)
             (try rw [hji17] at Ny446)
             have hji17w : (IntKind.i64.wrap ((ji8) - 1)) = ji17 := (i64_w _).trans hji17
             by_cases c18 : 0 ≤ (ji17)
             ·rw [if_pos c18] at H
              have c18b0 := eq_true c18
              have c18b1 : decide (0 ≤ (ji17)) = true := decide_eq_true c18
              clear c18
              have c19b0 := eq_true (of_decide_eq_true (by assumption) : (ji17) ≤ (l0.length : Int))
              obtain ⟨y459, hy459⟩ : ∃ y_ : List (S65), y_ = (l0.drop ((ji17) : Int).toNat) := ⟨_, rfl⟩
              replace H : (if y456.length + y459.length < 5864062014805 then (if y453.length < 5864062014805 then (some (y453 ++ [(⟨(y456 ++ y459)⟩ : S53)])) else (none)) else (none)) = some r := by first | (rw [hy459]; exact H) | exact H
              have Ny459 := ak hy459
              clear hy459
              by_cases c20 : y456.length + y459.length < 5864062014805
              ·rw [if_pos c20] at H
               have LMc20 := ak c20
               clear c20
               obtain ⟨y463, hy463⟩ : ∃ y_ : List (S65), y_ = (y456 ++ y459) := ⟨_, rfl⟩
               replace H : (if y453.length < 5864062014805 then (some (y453 ++ [(⟨y463⟩ : S53)])) else (none)) = some r := by first | (rw [hy463]; exact H) | exact H
               have Ny463 := ak hy463
               clear hy463
               by_cases c21 : y453.length < 5864062014805
               ·rw [if_pos c21] at H
                have LMc21 := ak c21
                clear c21
                obtain ⟨y466, hy466⟩ : ∃ y_ : List (S53), y_ = (y453 ++ [(⟨y463⟩ : S53)]) := ⟨_, rfl⟩
                replace H : (some y466) = some r := by first | (rw [hy466]; exact H) | exact H
                have Ny466 := ak hy466
                clear hy466
                obtain rfl := Option.some.inj H
                go_wp2_with (first | ((with_reducible refine gate_dst (N := 30) rfl ?_); (try (refine gate_guard (by rfl) ?_; dsimp only)); refine Kd.R_lit k65 _ 65 ?hg (N := 30) ?hd (xs := ([] : List (S65))) (inner := []) (ok := fun _ => True) (okp := fun _ => True) ?hr ?hp (fun _ hk => hk) trivial (Below.refl _ _) (Nat.le_refl _) (by simp) ?_; (case hd => rfl); (case hg => rfl); (case hr => go_simp <;> rfl); (case hp => exact (Reps.none _ _)); intro v444 w22 ho23 hb hg_ hnew_; clear hg_ hnew_; (first | rw [← Ny443.out] at ho23 | (simp only [Int.reduceToNat] at ho23; rw [← Ny443.out] at ho23)); replace HO_3 := ak (Kd.S_elder' (hS HO_3.out) (Kd.R_base ho23) hb); have HO445 := ak (Kd.R_lower ho23 (below_size (by exact hopb HB.out))); replace HB := ak (below_step (by exact hopb HB.out) hb); clear hb ho23; have q24 : ((ji17) : Int) ≤ ((l0.length : Int) : Int) := of_decide_eq_true (by assumption); obtain ⟨i024, hi024, _, hsz24, _⟩ := info_parts info65; have hroom24 : l0.length ≤ c0 := HC0.out; have hC24 : Kd.C k65 _ A0 l0.length l0 := HR0.out; have ql24 : (x4_1 : Int) ≤ ((ji17) : Int) := of_decide_eq_true (by assumption); have q024 : (0 : Int) ≤ (x4_1 : Int) := of_decide_eq_true (by assumption); have hcut24 := cut_mid (P := Try.prog) 36 65 .i64 .i64 Try.underlying36 hi024 2 hsz24 A0 l0.length c0 x4_1 (ji17) q024 ql24 q24 hroom24; have hr24 := Kd.C_mid (lo := (x4_1 : Int).toNat) (hi := ((ji17) : Int).toNat) (c := c0) hC24 (by omega) (by omega) hroom24; obtain ⟨A24, hA24⟩ : ∃ A1, A1 = (if c0 = (x4_1 : Int).toNat then A0 else (A0 : Option Addr).map (·.add ((x4_1 : Int).toNat * 2))) := ⟨_, rfl⟩; obtain ⟨c24, hc24⟩ : ∃ c1, c1 = c0 - (x4_1 : Int).toNat := ⟨_, rfl⟩; have hy24 : y446.length = ((ji17) : Int).toNat - (x4_1 : Int).toNat := (by rw [Ny446.out, List.length_drop, List.length_take] <;> omega); rw [show ((l0).take ((ji17) : Int).toNat).drop (x4_1 : Int).toNat = y446 from Ny446.out.symm] at hr24; replace hr24 : Kd.C k65 _ A24 y446.length y446 := (by rw [hA24]; exact hr24); rw [← hy24, ← hA24, ← hc24] at hcut24; have HR449 := ak hr24; have HC449 := ak (show y446.length ≤ c24 from by rw [hy24, hc24]; exact Nat.sub_le_sub_right (Nat.le_trans (by omega) hroom24) _); clear hr24 hC24 hroom24 hi024 hsz24 hc24; have KY24 := ak hy24; have KA24 := ak hA24; clear hy24 hA24; replace q24 := eq_true q24) | ((with_reducible refine gate_builtin (b := .append) (xs := #[.tmp 30, .tmp 34]) rfl ?_); (try (refine gate_guard (by rfl) ?_; dsimp only)); at_builtin; refine Kd.R_append_rows k65 (w0 := w) w.heap.size rfl (.tmp 30) (.tmp 34) 36 65 (.agg #[(.string ⟨#[]⟩), (.int .i64 0)]) 24 rfl Try.underlying36 info65 rfl (by decide) (by omega) v444 y443 y446 _ _ _ (fun _ => True) (fun _ => False) rfl rfl ?aO ?aR (fun _ _ h => h) (fun _ h => h.elim) ?aF ?aB ?aS ?aL ?_; (case aR => exact hC (Kd.C_below HR449.out HB.out)); (case aB => exact (by exact hopb HB.out)); (case aF => exact (fun _ _ => trivial)); (case aO => exact (hR HO445.out)); (case aS => exact (below_size (by exact hopb HB.out))); (case aL => have := LMc13.out; omega); intro v451 w25 ho hb hg hat; rw [← Ny450.out] at ho; replace HO_3 := ak (Kd.S_after (ok := (fun _ => True)) (hS HO_3.out) hg hat); replace HB := ak (hb); have HO452 := ak (ho); clear HO445; clear ho hb hg hat; obtain ⟨Ao26, co26, eo26⟩ := Kd.R_slice HO452.out; subst eo26) | ((with_reducible refine gate_builtin (b := .append) (xs := #[.tmp 29, .tmp 37]) rfl ?_); (try (refine gate_guard (by rfl) ?_; dsimp only)); at_builtin; refine Kd.S_append k53 (w0 := w) w.heap.size rfl (.tmp 29) (.tmp 37) 24 53 (.agg #[(.slice none 0 0)]) 24 rfl Try.underlying24 info53 rfl (by decide) (by omega) u3 x3_1 (⟨y450⟩ : S53) [.slice Ao26 y450.length co26] (fun _ => True) (fun k_ => some k_ = (.slice Ao26 y450.length co26 : Value).ownBlock) rfl rfl ?aP (fun k_ hk_ => ((Kd.R_mono (ok' := fun k_ => ((fun _ => True)) k_ ∧ some k_ ≠ (u3 : Value).ownBlock) (Kd.R_apart' (HO452.out) (Kd.S_typed HO_3.out) (by decide)) (fun k_ hk => ⟨trivial, hk.2⟩))).1 k_ hk_.symm) ?aF ?aO ?aB ?aS ?aL ?_; (case aP => exact k53_mkM _ _ _ (⟨y450⟩ : S53) (Kd.R_mono (Kd.R_tight rfl (Kd.R_mono (ok' := fun k_ => ((fun _ => True)) k_ ∧ some k_ ≠ (u3 : Value).ownBlock) (Kd.R_apart' (HO452.out) (Kd.S_typed HO_3.out) (by decide)) (fun k_ hk => ⟨trivial, hk.2⟩))) (fun _ h_ => h_))); (case aB => exact (by exact hopb HB.out)); (case aF => exact (fun _ _ => trivial)); (case aO => exact (by (with_reducible repeat (first | apply Kd.S_alloc | apply Kd.S_drewN | apply Kd.S_drew)); exact Kd.S_mono HO_3.out (fun k_ hk => ⟨trivial, fun e_ => hk.2 e_⟩))); (case aS => exact (below_size (by exact hopb HB.out))); (case aL => have := LMc14.out; omega); intro v454 w27 ho hb hg hat; rw [← Ny453.out] at ho; replace HB := ak (hb); have HO455 := ak (ho); clear HO_3 HO452; clear ho hb hg hat) | ((with_reducible refine gate_dst (N := 50) rfl ?_); (try (refine gate_guard (by rfl) ?_; dsimp only)); refine Kd.R_lit k65 _ 65 ?hg (N := 50) ?hd (xs := ([] : List (S65))) (inner := []) (ok := fun _ => True) (okp := fun _ => True) ?hr ?hp (fun _ hk => hk) trivial (Below.refl _ _) (Nat.le_refl _) (by simp) ?_; (case hd => rfl); (case hg => rfl); (case hr => go_simp <;> rfl); (case hp => exact (Reps.none _ _)); intro v457 w28 ho29 hb hg_ hnew_; clear hg_ hnew_; (first | rw [← Ny456.out] at ho29 | (simp only [Int.reduceToNat] at ho29; rw [← Ny456.out] at ho29)); replace HO455 := ak (Kd.S_elder' (hS HO455.out) (Kd.R_base ho29) hb); have HO458 := ak (Kd.R_lower ho29 (below_size (by exact hopb HB.out))); replace HB := ak (below_step (by exact hopb HB.out) hb); clear hb ho29; have q30 : ((ji17) : Int) ≤ ((l0.length : Int) : Int) := of_decide_eq_true (by assumption); obtain ⟨i030, hi030, _, hsz30, _⟩ := info_parts info65; have hroom30 : l0.length ≤ c0 := HC0.out; have hC30 : Kd.C k65 _ A0 l0.length l0 := HR0.out; have q030 : (0 : Int) ≤ ((ji17) : Int) := of_decide_eq_true (by assumption); have hcut30 := cut_from (P := Try.prog) 36 65 .i64 Try.underlying36 hi030 2 hsz30 A0 l0.length c0 (ji17) q030 q30; have hr30 := Kd.C_drop (m := ((ji17) : Int).toNat) (c := c0) hC30 (by omega) hroom30; obtain ⟨A30, hA30⟩ : ∃ A1, A1 = (if c0 = ((ji17) : Int).toNat then A0 else (A0 : Option Addr).map (·.add (((ji17) : Int).toNat * 2))) := ⟨_, rfl⟩; obtain ⟨c30, hc30⟩ : ∃ c1, c1 = c0 - ((ji17) : Int).toNat := ⟨_, rfl⟩; have hy30 : y459.length = l0.length - ((ji17) : Int).toNat := (by rw [Ny459.out, List.length_drop] <;> omega); rw [show (l0).drop ((ji17) : Int).toNat = y459 from Ny459.out.symm] at hr30; replace hr30 : Kd.C k65 _ A30 y459.length y459 := (by rw [hA30]; exact hr30); rw [← hy30, ← hA30, ← hc30] at hcut30; have HR462 := ak hr30; have HC462 := ak (show y459.length ≤ c30 from by rw [hy30, hc30]; exact Nat.sub_le_sub_right hroom30 _); clear hr30 hC30 hroom30 hi030 hsz30 hc30; have KY30 := ak hy30; have KA30 := ak hA30; clear hy30 hA30; replace q30 := eq_true q30) | ((with_reducible refine gate_builtin (b := .append) (xs := #[.tmp 50, .tmp 53]) rfl ?_); (try (refine gate_guard (by rfl) ?_; dsimp only)); at_builtin; refine Kd.R_append_rows k65 (w0 := w) w.heap.size rfl (.tmp 50) (.tmp 53) 36 65 (.agg #[(.string ⟨#[]⟩), (.int .i64 0)]) 24 rfl Try.underlying36 info65 rfl (by decide) (by omega) v457 y456 y459 _ _ _ (fun _ => True) (fun _ => False) rfl rfl ?aO ?aR (fun _ _ h => h) (fun _ h => h.elim) ?aF ?aB ?aS ?aL ?_; (case aR => exact hC (Kd.C_below HR462.out HB.out)); (case aB => exact (by exact hopb HB.out)); (case aF => exact (fun _ _ => trivial)); (case aO => exact (hR HO458.out)); (case aS => exact (below_size (by exact hopb HB.out))); (case aL => have := LMc20.out; omega); intro v464 w31 ho hb hg hat; rw [← Ny463.out] at ho; replace HO455 := ak (Kd.S_after (ok := (fun _ => True)) (hS HO455.out) hg hat); replace HB := ak (hb); have HO465 := ak (ho); clear HO458; clear ho hb hg hat; obtain ⟨Ao32, co32, eo32⟩ := Kd.R_slice HO465.out; subst eo32) | ((with_reducible refine gate_builtin (b := .append) (xs := #[.tmp 49, .tmp 56]) rfl ?_); (try (refine gate_guard (by rfl) ?_; dsimp only)); at_builtin; refine Kd.S_append k53 (w0 := w) w.heap.size rfl (.tmp 49) (.tmp 56) 24 53 (.agg #[(.slice none 0 0)]) 24 rfl Try.underlying24 info53 rfl (by decide) (by omega) v454 y453 (⟨y463⟩ : S53) [.slice Ao32 y463.length co32] (fun _ => True) (fun k_ => some k_ = (.slice Ao32 y463.length co32 : Value).ownBlock) rfl rfl ?aP (fun k_ hk_ => ((Kd.R_mono (ok' := fun k_ => ((fun _ => True)) k_ ∧ some k_ ≠ (v454 : Value).ownBlock) (Kd.R_apart' (HO465.out) (Kd.S_typed HO455.out) (by decide)) (fun k_ hk => ⟨trivial, hk.2⟩))).1 k_ hk_.symm) ?aF ?aO ?aB ?aS ?aL ?_; (case aP => exact k53_mkM _ _ _ (⟨y463⟩ : S53) (Kd.R_mono (Kd.R_tight rfl (Kd.R_mono (ok' := fun k_ => ((fun _ => True)) k_ ∧ some k_ ≠ (v454 : Value).ownBlock) (Kd.R_apart' (HO465.out) (Kd.S_typed HO455.out) (by decide)) (fun k_ hk => ⟨trivial, hk.2⟩))) (fun _ h_ => h_))); (case aB => exact (by exact hopb HB.out)); (case aF => exact (fun _ _ => trivial)); (case aO => exact (by (with_reducible repeat (first | apply Kd.S_alloc | apply Kd.S_drewN | apply Kd.S_drew)); exact Kd.S_mono HO455.out (fun k_ hk => ⟨trivial, fun e_ => hk.2 e_⟩))); (case aS => exact (below_size (by exact hopb HB.out))); (case aL => have := LMc21.out; omega); intro v467 w33 ho hb hg hat; rw [← Ny466.out] at ho; replace HB := ak (hb); have HO468 := ak (ho); clear HO455 HO465; clear ho hb hg hat))
                go_ret
                exact ⟨_, by first | rfl | (simp only [u8_w_, w64_u8_] <;> rfl) | (simp [errW_none, errW_some] <;> rfl) | (simp only [← hji8, ← hji17]; first | rfl | (simp [errW_none, errW_some] <;> rfl)) | (simp [*, errW_none, errW_some] <;> rfl), by (with_reducible repeat (first | apply Kd.S_alloc | apply Kd.S_drewN | apply Kd.S_drew)); exact HO468.out, by exact hopb HB.out⟩
               ·rw [if_neg c21] at H
                exact absurd H (by simp)
              ·rw [if_neg c20] at H
               exact absurd H (by simp)
             ·rw [if_neg c18] at H
              exact absurd H (by simp)
            ·rw [if_neg c16] at H
             have c16b0 : decide ((wrap64 ((ji8) - 1)) < (l0.length : Int)) = false := decide_eq_false c16
             clear c16
             have H' := ak H
             clear H
             go_wp2_with (first | ((with_reducible refine gate_dst (N := 30) rfl ?_); (try (refine gate_guard (by rfl) ?_; dsimp only)); refine Kd.R_lit k65 _ 65 ?hg (N := 30) ?hd (xs := ([] : List (S65))) (inner := []) (ok := fun _ => True) (okp := fun _ => True) ?hr ?hp (fun _ hk => hk) trivial (Below.refl _ _) (Nat.le_refl _) (by simp) ?_; (case hd => rfl); (case hg => rfl); (case hr => go_simp <;> rfl); (case hp => exact (Reps.none _ _)); intro v444 w34 ho35 hb hg_ hnew_; clear hg_ hnew_; (first | rw [← Ny443.out] at ho35 | (simp only [Int.reduceToNat] at ho35; rw [← Ny443.out] at ho35)); replace HO_3 := ak (Kd.S_elder' (hS HO_3.out) (Kd.R_base ho35) hb); have HO445 := ak (Kd.R_lower ho35 (below_size (by exact hopb HB.out))); replace HB := ak (below_step (by exact hopb HB.out) hb); clear hb ho35; have q36 : ((wrap64 ((ji8) - 1)) : Int) ≤ ((l0.length : Int) : Int) := of_decide_eq_true (by assumption); obtain ⟨i036, hi036, _, hsz36, _⟩ := info_parts info65; have hroom36 : l0.length ≤ c0 := HC0.out; have hC36 : Kd.C k65 _ A0 l0.length l0 := HR0.out; have ql36 : (x4_1 : Int) ≤ ((wrap64 ((ji8) - 1)) : Int) := of_decide_eq_true (by assumption); have q036 : (0 : Int) ≤ (x4_1 : Int) := of_decide_eq_true (by assumption); have hcut36 := cut_mid (P := Try.prog) 36 65 .i64 .i64 Try.underlying36 hi036 2 hsz36 A0 l0.length c0 x4_1 (wrap64 ((ji8) - 1)) q036 ql36 q36 hroom36; have hr36 := Kd.C_mid (lo := (x4_1 : Int).toNat) (hi := ((wrap64 ((ji8) - 1)) : Int).toNat) (c := c0) hC36 (by omega) (by omega) hroom36; obtain ⟨A36, hA36⟩ : ∃ A1, A1 = (if c0 = (x4_1 : Int).toNat then A0 else (A0 : Option Addr).map (·.add ((x4_1 : Int).toNat * 2))) := ⟨_, rfl⟩; obtain ⟨c36, hc36⟩ : ∃ c1, c1 = c0 - (x4_1 : Int).toNat := ⟨_, rfl⟩; have hy36 : y446.length = ((wrap64 ((ji8) - 1)) : Int).toNat - (x4_1 : Int).toNat := (by rw [Ny446.out, List.length_drop, List.length_take] <;> omega); rw [show ((l0).take ((wrap64 ((ji8) - 1)) : Int).toNat).drop (x4_1 : Int).toNat = y446 from Ny446.out.symm] at hr36; replace hr36 : Kd.C k65 _ A36 y446.length y446 := (by rw [hA36]; exact hr36); rw [← hy36, ← hA36, ← hc36] at hcut36; have HR449 := ak hr36; have HC449 := ak (show y446.length ≤ c36 from by rw [hy36, hc36]; exact Nat.sub_le_sub_right (Nat.le_trans (by omega) hroom36) _); clear hr36 hC36 hroom36 hi036 hsz36 hc36; have KY36 := ak hy36; have KA36 := ak hA36; clear hy36 hA36; replace q36 := eq_true q36) | ((with_reducible refine gate_builtin (b := .append) (xs := #[.tmp 30, .tmp 34]) rfl ?_); (try (refine gate_guard (by rfl) ?_; dsimp only)); at_builtin; refine Kd.R_append_rows k65 (w0 := w) w.heap.size rfl (.tmp 30) (.tmp 34) 36 65 (.agg #[(.string ⟨#[]⟩), (.int .i64 0)]) 24 rfl Try.underlying36 info65 rfl (by decide) (by omega) v444 y443 y446 _ _ _ (fun _ => True) (fun _ => False) rfl rfl ?aO ?aR (fun _ _ h => h) (fun _ h => h.elim) ?aF ?aB ?aS ?aL ?_; (case aR => exact hC (Kd.C_below HR449.out HB.out)); (case aB => exact (by exact hopb HB.out)); (case aF => exact (fun _ _ => trivial)); (case aO => exact (hR HO445.out)); (case aS => exact (below_size (by exact hopb HB.out))); (case aL => have := LMc13.out; omega); intro v451 w37 ho hb hg hat; rw [← Ny450.out] at ho; replace HO_3 := ak (Kd.S_after (ok := (fun _ => True)) (hS HO_3.out) hg hat); replace HB := ak (hb); have HO452 := ak (ho); clear HO445; clear ho hb hg hat; obtain ⟨Ao38, co38, eo38⟩ := Kd.R_slice HO452.out; subst eo38) | ((with_reducible refine gate_builtin (b := .append) (xs := #[.tmp 29, .tmp 37]) rfl ?_); (try (refine gate_guard (by rfl) ?_; dsimp only)); at_builtin; refine Kd.S_append k53 (w0 := w) w.heap.size rfl (.tmp 29) (.tmp 37) 24 53 (.agg #[(.slice none 0 0)]) 24 rfl Try.underlying24 info53 rfl (by decide) (by omega) u3 x3_1 (⟨y450⟩ : S53) [.slice Ao38 y450.length co38] (fun _ => True) (fun k_ => some k_ = (.slice Ao38 y450.length co38 : Value).ownBlock) rfl rfl ?aP (fun k_ hk_ => ((Kd.R_mono (ok' := fun k_ => ((fun _ => True)) k_ ∧ some k_ ≠ (u3 : Value).ownBlock) (Kd.R_apart' (HO452.out) (Kd.S_typed HO_3.out) (by decide)) (fun k_ hk => ⟨trivial, hk.2⟩))).1 k_ hk_.symm) ?aF ?aO ?aB ?aS ?aL ?_; (case aP => exact k53_mkM _ _ _ (⟨y450⟩ : S53) (Kd.R_mono (Kd.R_tight rfl (Kd.R_mono (ok' := fun k_ => ((fun _ => True)) k_ ∧ some k_ ≠ (u3 : Value).ownBlock) (Kd.R_apart' (HO452.out) (Kd.S_typed HO_3.out) (by decide)) (fun k_ hk => ⟨trivial, hk.2⟩))) (fun _ h_ => h_))); (case aB => exact (by exact hopb HB.out)); (case aF => exact (fun _ _ => trivial)); (case aO => exact (by (with_reducible repeat (first | apply Kd.S_alloc | apply Kd.S_drewN | apply Kd.S_drew)); exact Kd.S_mono HO_3.out (fun k_ hk => ⟨trivial, fun e_ => hk.2 e_⟩))); (case aS => exact (below_size (by exact hopb HB.out))); (case aL => have := LMc14.out; omega); intro v454 w39 ho hb hg hat; rw [← Ny453.out] at ho; replace HB := ak (hb); have HO455 := ak (ho); clear HO_3 HO452; clear ho hb hg hat))
             go_roundg k1
             case measure => have := HK1.out; omega
             case rel => exact ⟨(y453), (wrap64 (x4_1 + 4)), (by first | rfl | (simp [*]; done)), H', ⟨by have := HK1.out; omega⟩, ⟨by (with_reducible repeat (first | apply Kd.S_alloc | apply Kd.S_drewN | apply Kd.S_drew)); exact HO455.out⟩, ⟨by exact hopb HB.out⟩⟩
           ·rw [if_neg c15] at H
            have c15b0 : decide ((wrap64 ((ji8) - 1)) < (wrap64 (x4_1 + 4))) = false := decide_eq_false c15
            clear c15
            have H' := ak H
            clear H
            go_wp2_with (first | ((with_reducible refine gate_dst (N := 30) rfl ?_); (try (refine gate_guard (by rfl) ?_; dsimp only)); refine Kd.R_lit k65 _ 65 ?hg (N := 30) ?hd (xs := ([] : List (S65))) (inner := []) (ok := fun _ => True) (okp := fun _ => True) ?hr ?hp (fun _ hk => hk) trivial (Below.refl _ _) (Nat.le_refl _) (by simp) ?_; (case hd => rfl); (case hg => rfl); (case hr => go_simp <;> rfl); (case hp => exact (Reps.none _ _)); intro v444 w40 ho41 hb hg_ hnew_; clear hg_ hnew_; (first | rw [← Ny443.out] at ho41 | (simp only [Int.reduceToNat] at ho41; rw [← Ny443.out] at ho41)); replace HO_3 := ak (Kd.S_elder' (hS HO_3.out) (Kd.R_base ho41) hb); have HO445 := ak (Kd.R_lower ho41 (below_size (by exact hopb HB.out))); replace HB := ak (below_step (by exact hopb HB.out) hb); clear hb ho41; have q42 : ((wrap64 ((ji8) - 1)) : Int) ≤ ((l0.length : Int) : Int) := of_decide_eq_true (by assumption); obtain ⟨i042, hi042, _, hsz42, _⟩ := info_parts info65; have hroom42 : l0.length ≤ c0 := HC0.out; have hC42 : Kd.C k65 _ A0 l0.length l0 := HR0.out; have ql42 : (x4_1 : Int) ≤ ((wrap64 ((ji8) - 1)) : Int) := of_decide_eq_true (by assumption); have q042 : (0 : Int) ≤ (x4_1 : Int) := of_decide_eq_true (by assumption); have hcut42 := cut_mid (P := Try.prog) 36 65 .i64 .i64 Try.underlying36 hi042 2 hsz42 A0 l0.length c0 x4_1 (wrap64 ((ji8) - 1)) q042 ql42 q42 hroom42; have hr42 := Kd.C_mid (lo := (x4_1 : Int).toNat) (hi := ((wrap64 ((ji8) - 1)) : Int).toNat) (c := c0) hC42 (by omega) (by omega) hroom42; obtain ⟨A42, hA42⟩ : ∃ A1, A1 = (if c0 = (x4_1 : Int).toNat then A0 else (A0 : Option Addr).map (·.add ((x4_1 : Int).toNat * 2))) := ⟨_, rfl⟩; obtain ⟨c42, hc42⟩ : ∃ c1, c1 = c0 - (x4_1 : Int).toNat := ⟨_, rfl⟩; have hy42 : y446.length = ((wrap64 ((ji8) - 1)) : Int).toNat - (x4_1 : Int).toNat := (by rw [Ny446.out, List.length_drop, List.length_take] <;> omega); rw [show ((l0).take ((wrap64 ((ji8) - 1)) : Int).toNat).drop (x4_1 : Int).toNat = y446 from Ny446.out.symm] at hr42; replace hr42 : Kd.C k65 _ A42 y446.length y446 := (by rw [hA42]; exact hr42); rw [← hy42, ← hA42, ← hc42] at hcut42; have HR449 := ak hr42; have HC449 := ak (show y446.length ≤ c42 from by rw [hy42, hc42]; exact Nat.sub_le_sub_right (Nat.le_trans (by omega) hroom42) _); clear hr42 hC42 hroom42 hi042 hsz42 hc42; have KY42 := ak hy42; have KA42 := ak hA42; clear hy42 hA42; replace q42 := eq_true q42) | ((with_reducible refine gate_builtin (b := .append) (xs := #[.tmp 30, .tmp 34]) rfl ?_); (try (refine gate_guard (by rfl) ?_; dsimp only)); at_builtin; refine Kd.R_append_rows k65 (w0 := w) w.heap.size rfl (.tmp 30) (.tmp 34) 36 65 (.agg #[(.string ⟨#[]⟩), (.int .i64 0)]) 24 rfl Try.underlying36 info65 rfl (by decide) (by omega) v444 y443 y446 _ _ _ (fun _ => True) (fun _ => False) rfl rfl ?aO ?aR (fun _ _ h => h) (fun _ h => h.elim) ?aF ?aB ?aS ?aL ?_; (case aR => exact hC (Kd.C_below HR449.out HB.out)); (case aB => exact (by exact hopb HB.out)); (case aF => exact (fun _ _ => trivial)); (case aO => exact (hR HO445.out)); (case aS => exact (below_size (by exact hopb HB.out))); (case aL => have := LMc13.out; omega); intro v451 w43 ho hb hg hat; rw [← Ny450.out] at ho; replace HO_3 := ak (Kd.S_after (ok := (fun _ => True)) (hS HO_3.out) hg hat); replace HB := ak (hb); have HO452 := ak (ho); clear HO445; clear ho hb hg hat; obtain ⟨Ao44, co44, eo44⟩ := Kd.R_slice HO452.out; subst eo44) | ((with_reducible refine gate_builtin (b := .append) (xs := #[.tmp 29, .tmp 37]) rfl ?_); (try (refine gate_guard (by rfl) ?_; dsimp only)); at_builtin; refine Kd.S_append k53 (w0 := w) w.heap.size rfl (.tmp 29) (.tmp 37) 24 53 (.agg #[(.slice none 0 0)]) 24 rfl Try.underlying24 info53 rfl (by decide) (by omega) u3 x3_1 (⟨y450⟩ : S53) [.slice Ao44 y450.length co44] (fun _ => True) (fun k_ => some k_ = (.slice Ao44 y450.length co44 : Value).ownBlock) rfl rfl ?aP (fun k_ hk_ => ((Kd.R_mono (ok' := fun k_ => ((fun _ => True)) k_ ∧ some k_ ≠ (u3 : Value).ownBlock) (Kd.R_apart' (HO452.out) (Kd.S_typed HO_3.out) (by decide)) (fun k_ hk => ⟨trivial, hk.2⟩))).1 k_ hk_.symm) ?aF ?aO ?aB ?aS ?aL ?_; (case aP => exact k53_mkM _ _ _ (⟨y450⟩ : S53) (Kd.R_mono (Kd.R_tight rfl (Kd.R_mono (ok' := fun k_ => ((fun _ => True)) k_ ∧ some k_ ≠ (u3 : Value).ownBlock) (Kd.R_apart' (HO452.out) (Kd.S_typed HO_3.out) (by decide)) (fun k_ hk => ⟨trivial, hk.2⟩))) (fun _ h_ => h_))); (case aB => exact (by exact hopb HB.out)); (case aF => exact (fun _ _ => trivial)); (case aO => exact (by (with_reducible repeat (first | apply Kd.S_alloc | apply Kd.S_drewN | apply Kd.S_drew)); exact Kd.S_mono HO_3.out (fun k_ hk => ⟨trivial, fun e_ => hk.2 e_⟩))); (case aS => exact (below_size (by exact hopb HB.out))); (case aL => have := LMc14.out; omega); intro v454 w45 ho hb hg hat; rw [← Ny453.out] at ho; replace HB := ak (hb); have HO455 := ak (ho); clear HO_3 HO452; clear ho hb hg hat))
            go_roundg k1
            case measure => have := HK1.out; omega
            case rel => exact ⟨(y453), (wrap64 (x4_1 + 4)), (by first | rfl | (simp [*]; done)), H', ⟨by have := HK1.out; omega⟩, ⟨by (with_reducible repeat (first | apply Kd.S_alloc | apply Kd.S_drewN | apply Kd.S_drew)); exact HO455.out⟩, ⟨by exact hopb HB.out⟩⟩
          ·rw [if_neg c14] at H
           exact absurd H (by simp)
         ·rw [if_neg c13] at H
          exact absurd H (by simp)
        ·rw [if_neg c12] at H
         exact absurd H (by simp)
       ·rw [if_neg c11] at H
        exact absurd H (by simp)
      ·rw [if_neg c10] at H
       exact absurd H (by simp)
     ·rw [if_neg c9] at H
      have c9b0 : ((wrap64 ((l0.length : Int) - (ji8))) == 1) = false := beq_eq_false_iff_ne.mpr c9
      have c9b1 : ((wrap64 ((l0.length : Int) - (ji8))) != 1) = true := bne_iff_ne.mpr c9
      obtain ⟨y469, hy469⟩ : ∃ y_ : List (S65), y_ = (([] : List (S65))) := ⟨_, rfl⟩
      replace H : (if 0 ≤ x4_1 then (if x4_1 ≤ (ji8) then (if (ji8) ≤ (l0.length : Int) then ((some ((l0.take ((ji8) : Int).toNat).drop (x4_1 : Int).toNat : List (S65))).bind fun y472 => (if y469.length + y472.length < 5864062014805 then (if x3_1.length < 5864062014805 then ((some (x3_1 ++ [(⟨(y469 ++ y472)⟩ : S53)] : List (S53))).bind fun y479 => (if (ji8) < (wrap64 (x4_1 + 4)) then (if (ji8) < (l0.length : Int) then ((some (([] : List (S65)) : List (S65))).bind fun y482 => (if 0 ≤ (ji8) then ((some (l0.drop ((ji8) : Int).toNat : List (S65))).bind fun y485 => (if y482.length + y485.length < 5864062014805 then (if y479.length < 5864062014805 then (some (y479 ++ [(⟨(y482 ++ y485)⟩ : S53)])) else (none)) else (none))) else (none))) else (spec_PagesOf.l0 k1 l0 y479 (wrap64 (x4_1 + 4)))) else (spec_PagesOf.l0 k1 l0 y479 (wrap64 (x4_1 + 4))))) else (none)) else (none))) else (none)) else (none)) else (none)) = some r := by first | (rw [hy469]; exact H) | exact H
      have Ny469 := ak hy469
      clear hy469
      by_cases c46 : 0 ≤ x4_1
      ·rw [if_pos c46] at H
       have c46b0 := eq_true c46
       have c46b1 : decide (0 ≤ x4_1) = true := decide_eq_true c46
       clear c46
       by_cases c47 : x4_1 ≤ (ji8)
       ·rw [if_pos c47] at H
        have c47b0 := eq_true c47
        have c47b1 : decide (x4_1 ≤ (ji8)) = true := decide_eq_true c47
        clear c47
        by_cases c48 : (ji8) ≤ (l0.length : Int)
        ·rw [if_pos c48] at H
         have c48b0 := eq_true c48
         have c48b1 : decide ((ji8) ≤ (l0.length : Int)) = true := decide_eq_true c48
         clear c48
         obtain ⟨y472, hy472⟩ : ∃ y_ : List (S65), y_ = ((l0.take ((ji8) : Int).toNat).drop (x4_1 : Int).toNat) := ⟨_, rfl⟩
         replace H : (if y469.length + y472.length < 5864062014805 then (if x3_1.length < 5864062014805 then ((some (x3_1 ++ [(⟨(y469 ++ y472)⟩ : S53)] : List (S53))).bind fun y479 => (if (ji8) < (wrap64 (x4_1 + 4)) then (if (ji8) < (l0.length : Int) then ((some (([] : List (S65)) : List (S65))).bind fun y482 => (if 0 ≤ (ji8) then ((some (l0.drop ((ji8) : Int).toNat : List (S65))).bind fun y485 => (if y482.length + y485.length < 5864062014805 then (if y479.length < 5864062014805 then (some (y479 ++ [(⟨(y482 ++ y485)⟩ : S53)])) else (none)) else (none))) else (none))) else (spec_PagesOf.l0 k1 l0 y479 (wrap64 (x4_1 + 4)))) else (spec_PagesOf.l0 k1 l0 y479 (wrap64 (x4_1 + 4))))) else (none)) else (none)) = some r := by first | (rw [hy472]; exact H) | exact H
         have Ny472 := ak hy472
         clear hy472
         by_cases c49 : y469.length + y472.length < 5864062014805
         ·rw [if_pos c49] at H
          have LMc49 := ak c49
          clear c49
          obtain ⟨y476, hy476⟩ : ∃ y_ : List (S65), y_ = (y469 ++ y472) := ⟨_, rfl⟩
          replace H : (if x3_1.length < 5864062014805 then ((some (x3_1 ++ [(⟨y476⟩ : S53)] : List (S53))).bind fun y479 => (if (ji8) < (wrap64 (x4_1 + 4)) then (if (ji8) < (l0.length : Int) then ((some (([] : List (S65)) : List (S65))).bind fun y482 => (if 0 ≤ (ji8) then ((some (l0.drop ((ji8) : Int).toNat : List (S65))).bind fun y485 => (if y482.length + y485.length < 5864062014805 then (if y479.length < 5864062014805 then (some (y479 ++ [(⟨(y482 ++ y485)⟩ : S53)])) else (none)) else (none))) else (none))) else (spec_PagesOf.l0 k1 l0 y479 (wrap64 (x4_1 + 4)))) else (spec_PagesOf.l0 k1 l0 y479 (wrap64 (x4_1 + 4))))) else (none)) = some r := by first | (rw [hy476]; exact H) | exact H
          have Ny476 := ak hy476
          clear hy476
          by_cases c50 : x3_1.length < 5864062014805
          ·rw [if_pos c50] at H
           have LMc50 := ak c50
           clear c50
           obtain ⟨y479, hy479⟩ : ∃ y_ : List (S53), y_ = (x3_1 ++ [(⟨y476⟩ : S53)]) := ⟨_, rfl⟩
           replace H : (if (ji8) < (wrap64 (x4_1 + 4)) then (if (ji8) < (l0.length : Int) then ((some (([] : List (S65)) : List (S65))).bind fun y482 => (if 0 ≤ (ji8) then ((some (l0.drop ((ji8) : Int).toNat : List (S65))).bind fun y485 => (if y482.length + y485.length < 5864062014805 then (if y479.length < 5864062014805 then (some (y479 ++ [(⟨(y482 ++ y485)⟩ : S53)])) else (none)) else (none))) else (none))) else (spec_PagesOf.l0 k1 l0 y479 (wrap64 (x4_1 + 4)))) else (spec_PagesOf.l0 k1 l0 y479 (wrap64 (x4_1 + 4)))) = some r := by first | (rw [hy479]; exact H) | exact H
           have Ny479 := ak hy479
           clear hy479
           by_cases c51 : (ji8) < (wrap64 (x4_1 + 4))
           ·rw [if_pos c51] at H
            have c51b0 : decide ((ji8) < (wrap64 (x4_1 + 4))) = true := decide_eq_true c51
            clear c51
            by_cases c52 : (ji8) < (l0.length : Int)
            ·rw [if_pos c52] at H
             have c52b0 : decide ((ji8) < (l0.length : Int)) = true := decide_eq_true c52
             clear c52
             obtain ⟨y482, hy482⟩ : ∃ y_ : List (S65), y_ = (([] : List (S65))) := ⟨_, rfl⟩
             replace H : (if 0 ≤ (ji8) then ((some (l0.drop ((ji8) : Int).toNat : List (S65))).bind fun y485 => (if y482.length + y485.length < 5864062014805 then (if y479.length < 5864062014805 then (some (y479 ++ [(⟨(y482 ++ y485)⟩ : S53)])) else (none)) else (none))) else (none)) = some r := by first | (rw [hy482]; exact H) | exact H
             have Ny482 := ak hy482
             clear hy482
             by_cases c53 : 0 ≤ (ji8)
             ·rw [if_pos c53] at H
              have c53b0 := eq_true c53
              have c53b1 : decide (0 ≤ (ji8)) = true := decide_eq_true c53
              clear c53
              have c54b0 := eq_true (of_decide_eq_true (by assumption) : (ji8) ≤ (l0.length : Int))
              obtain ⟨y485, hy485⟩ : ∃ y_ : List (S65), y_ = (l0.drop ((ji8) : Int).toNat) := ⟨_, rfl⟩
              replace H : (if y482.length + y485.length < 5864062014805 then (if y479.length < 5864062014805 then (some (y479 ++ [(⟨(y482 ++ y485)⟩ : S53)])) else (none)) else (none)) = some r := by first | (rw [hy485]; exact H) | exact H
              have Ny485 := ak hy485
              clear hy485
              by_cases c55 : y482.length + y485.length < 5864062014805
              ·rw [if_pos c55] at H
               have LMc55 := ak c55
               clear c55
               obtain ⟨y489, hy489⟩ : ∃ y_ : List (S65), y_ = (y482 ++ y485) := ⟨_, rfl⟩
               replace H : (if y479.length < 5864062014805 then (some (y479 ++ [(⟨y489⟩ : S53)])) else (none)) = some r := by first | (rw [hy489]; exact H) | exact H
               have Ny489 := ak hy489
               clear hy489
               by_cases c56 : y479.length < 5864062014805
               ·rw [if_pos c56] at H
                have LMc56 := ak c56
                clear c56
                obtain ⟨y492, hy492⟩ : ∃ y_ : List (S53), y_ = (y479 ++ [(⟨y489⟩ : S53)]) := ⟨_, rfl⟩
                replace H : (some y492) = some r := by first | (rw [hy492]; exact H) | exact H
                have Ny492 := ak hy492
                clear hy492
                obtain rfl := Option.some.inj H
                go_wp2_with (first | ((with_reducible refine gate_dst (N := 30) rfl ?_); (try (refine gate_guard (by rfl) ?_; dsimp only)); refine Kd.R_lit k65 _ 65 ?hg (N := 30) ?hd (xs := ([] : List (S65))) (inner := []) (ok := fun _ => True) (okp := fun _ => True) ?hr ?hp (fun _ hk => hk) trivial (Below.refl _ _) (Nat.le_refl _) (by simp) ?_; (case hd => rfl); (case hg => rfl); (case hr => go_simp <;> rfl); (case hp => exact (Reps.none _ _)); intro v470 w57 ho58 hb hg_ hnew_; clear hg_ hnew_; (first | rw [← Ny469.out] at ho58 | (simp only [Int.reduceToNat] at ho58; rw [← Ny469.out] at ho58)); replace HO_3 := ak (Kd.S_elder' (hS HO_3.out) (Kd.R_base ho58) hb); have HO471 := ak (Kd.R_lower ho58 (below_size (by exact hopb HB.out))); replace HB := ak (below_step (by exact hopb HB.out) hb); clear hb ho58; have q59 : ((ji8) : Int) ≤ ((l0.length : Int) : Int) := of_decide_eq_true (by assumption); obtain ⟨i059, hi059, _, hsz59, _⟩ := info_parts info65; have hroom59 : l0.length ≤ c0 := HC0.out; have hC59 : Kd.C k65 _ A0 l0.length l0 := HR0.out; have ql59 : (x4_1 : Int) ≤ ((ji8) : Int) := of_decide_eq_true (by assumption); have q059 : (0 : Int) ≤ (x4_1 : Int) := of_decide_eq_true (by assumption); have hcut59 := cut_mid (P := Try.prog) 36 65 .i64 .i64 Try.underlying36 hi059 2 hsz59 A0 l0.length c0 x4_1 (ji8) q059 ql59 q59 hroom59; have hr59 := Kd.C_mid (lo := (x4_1 : Int).toNat) (hi := ((ji8) : Int).toNat) (c := c0) hC59 (by omega) (by omega) hroom59; obtain ⟨A59, hA59⟩ : ∃ A1, A1 = (if c0 = (x4_1 : Int).toNat then A0 else (A0 : Option Addr).map (·.add ((x4_1 : Int).toNat * 2))) := ⟨_, rfl⟩; obtain ⟨c59, hc59⟩ : ∃ c1, c1 = c0 - (x4_1 : Int).toNat := ⟨_, rfl⟩; have hy59 : y472.length = ((ji8) : Int).toNat - (x4_1 : Int).toNat := (by rw [Ny472.out, List.length_drop, List.length_take] <;> omega); rw [show ((l0).take ((ji8) : Int).toNat).drop (x4_1 : Int).toNat = y472 from Ny472.out.symm] at hr59; replace hr59 : Kd.C k65 _ A59 y472.length y472 := (by rw [hA59]; exact hr59); rw [← hy59, ← hA59, ← hc59] at hcut59; have HR475 := ak hr59; have HC475 := ak (show y472.length ≤ c59 from by rw [hy59, hc59]; exact Nat.sub_le_sub_right (Nat.le_trans (by omega) hroom59) _); clear hr59 hC59 hroom59 hi059 hsz59 hc59; have KY59 := ak hy59; have KA59 := ak hA59; clear hy59 hA59; replace q59 := eq_true q59) | ((with_reducible refine gate_builtin (b := .append) (xs := #[.tmp 30, .tmp 34]) rfl ?_); (try (refine gate_guard (by rfl) ?_; dsimp only)); at_builtin; refine Kd.R_append_rows k65 (w0 := w) w.heap.size rfl (.tmp 30) (.tmp 34) 36 65 (.agg #[(.string ⟨#[]⟩), (.int .i64 0)]) 24 rfl Try.underlying36 info65 rfl (by decide) (by omega) v470 y469 y472 _ _ _ (fun _ => True) (fun _ => False) rfl rfl ?aO ?aR (fun _ _ h => h) (fun _ h => h.elim) ?aF ?aB ?aS ?aL ?_; (case aR => exact hC (Kd.C_below HR475.out HB.out)); (case aB => exact (by exact hopb HB.out)); (case aF => exact (fun _ _ => trivial)); (case aO => exact (hR HO471.out)); (case aS => exact (below_size (by exact hopb HB.out))); (case aL => have := LMc49.out; omega); intro v477 w60 ho hb hg hat; rw [← Ny476.out] at ho; replace HO_3 := ak (Kd.S_after (ok := (fun _ => True)) (hS HO_3.out) hg hat); replace HB := ak (hb); have HO478 := ak (ho); clear HO471; clear ho hb hg hat; obtain ⟨Ao61, co61, eo61⟩ := Kd.R_slice HO478.out; subst eo61) | ((with_reducible refine gate_builtin (b := .append) (xs := #[.tmp 29, .tmp 37]) rfl ?_); (try (refine gate_guard (by rfl) ?_; dsimp only)); at_builtin; refine Kd.S_append k53 (w0 := w) w.heap.size rfl (.tmp 29) (.tmp 37) 24 53 (.agg #[(.slice none 0 0)]) 24 rfl Try.underlying24 info53 rfl (by decide) (by omega) u3 x3_1 (⟨y476⟩ : S53) [.slice Ao61 y476.length co61] (fun _ => True) (fun k_ => some k_ = (.slice Ao61 y476.length co61 : Value).ownBlock) rfl rfl ?aP (fun k_ hk_ => ((Kd.R_mono (ok' := fun k_ => ((fun _ => True)) k_ ∧ some k_ ≠ (u3 : Value).ownBlock) (Kd.R_apart' (HO478.out) (Kd.S_typed HO_3.out) (by decide)) (fun k_ hk => ⟨trivial, hk.2⟩))).1 k_ hk_.symm) ?aF ?aO ?aB ?aS ?aL ?_; (case aP => exact k53_mkM _ _ _ (⟨y476⟩ : S53) (Kd.R_mono (Kd.R_tight rfl (Kd.R_mono (ok' := fun k_ => ((fun _ => True)) k_ ∧ some k_ ≠ (u3 : Value).ownBlock) (Kd.R_apart' (HO478.out) (Kd.S_typed HO_3.out) (by decide)) (fun k_ hk => ⟨trivial, hk.2⟩))) (fun _ h_ => h_))); (case aB => exact (by exact hopb HB.out)); (case aF => exact (fun _ _ => trivial)); (case aO => exact (by (with_reducible repeat (first | apply Kd.S_alloc | apply Kd.S_drewN | apply Kd.S_drew)); exact Kd.S_mono HO_3.out (fun k_ hk => ⟨trivial, fun e_ => hk.2 e_⟩))); (case aS => exact (below_size (by exact hopb HB.out))); (case aL => have := LMc50.out; omega); intro v480 w62 ho hb hg hat; rw [← Ny479.out] at ho; replace HB := ak (hb); have HO481 := ak (ho); clear HO_3 HO478; clear ho hb hg hat) | ((with_reducible refine gate_dst (N := 50) rfl ?_); (try (refine gate_guard (by rfl) ?_; dsimp only)); refine Kd.R_lit k65 _ 65 ?hg (N := 50) ?hd (xs := ([] : List (S65))) (inner := []) (ok := fun _ => True) (okp := fun _ => True) ?hr ?hp (fun _ hk => hk) trivial (Below.refl _ _) (Nat.le_refl _) (by simp) ?_; (case hd => rfl); (case hg => rfl); (case hr => go_simp <;> rfl); (case hp => exact (Reps.none _ _)); intro v483 w63 ho64 hb hg_ hnew_; clear hg_ hnew_; (first | rw [← Ny482.out] at ho64 | (simp only [Int.reduceToNat] at ho64; rw [← Ny482.out] at ho64)); replace HO481 := ak (Kd.S_elder' (hS HO481.out) (Kd.R_base ho64) hb); have HO484 := ak (Kd.R_lower ho64 (below_size (by exact hopb HB.out))); replace HB := ak (below_step (by exact hopb HB.out) hb); clear hb ho64; have q65 : ((ji8) : Int) ≤ ((l0.length : Int) : Int) := of_decide_eq_true (by assumption); obtain ⟨i065, hi065, _, hsz65, _⟩ := info_parts info65; have hroom65 : l0.length ≤ c0 := HC0.out; have hC65 : Kd.C k65 _ A0 l0.length l0 := HR0.out; have q065 : (0 : Int) ≤ ((ji8) : Int) := of_decide_eq_true (by assumption); have hcut65 := cut_from (P := Try.prog) 36 65 .i64 Try.underlying36 hi065 2 hsz65 A0 l0.length c0 (ji8) q065 q65; have hr65 := Kd.C_drop (m := ((ji8) : Int).toNat) (c := c0) hC65 (by omega) hroom65; obtain ⟨A65, hA65⟩ : ∃ A1, A1 = (if c0 = ((ji8) : Int).toNat then A0 else (A0 : Option Addr).map (·.add (((ji8) : Int).toNat * 2))) := ⟨_, rfl⟩; obtain ⟨c65, hc65⟩ : ∃ c1, c1 = c0 - ((ji8) : Int).toNat := ⟨_, rfl⟩; have hy65 : y485.length = l0.length - ((ji8) : Int).toNat := (by rw [Ny485.out, List.length_drop] <;> omega); rw [show (l0).drop ((ji8) : Int).toNat = y485 from Ny485.out.symm] at hr65; replace hr65 : Kd.C k65 _ A65 y485.length y485 := (by rw [hA65]; exact hr65); rw [← hy65, ← hA65, ← hc65] at hcut65; have HR488 := ak hr65; have HC488 := ak (show y485.length ≤ c65 from by rw [hy65, hc65]; exact Nat.sub_le_sub_right hroom65 _); clear hr65 hC65 hroom65 hi065 hsz65 hc65; have KY65 := ak hy65; have KA65 := ak hA65; clear hy65 hA65; replace q65 := eq_true q65) | ((with_reducible refine gate_builtin (b := .append) (xs := #[.tmp 50, .tmp 53]) rfl ?_); (try (refine gate_guard (by rfl) ?_; dsimp only)); at_builtin; refine Kd.R_append_rows k65 (w0 := w) w.heap.size rfl (.tmp 50) (.tmp 53) 36 65 (.agg #[(.string ⟨#[]⟩), (.int .i64 0)]) 24 rfl Try.underlying36 info65 rfl (by decide) (by omega) v483 y482 y485 _ _ _ (fun _ => True) (fun _ => False) rfl rfl ?aO ?aR (fun _ _ h => h) (fun _ h => h.elim) ?aF ?aB ?aS ?aL ?_; (case aR => exact hC (Kd.C_below HR488.out HB.out)); (case aB => exact (by exact hopb HB.out)); (case aF => exact (fun _ _ => trivial)); (case aO => exact (hR HO484.out)); (case aS => exact (below_size (by exact hopb HB.out))); (case aL => have := LMc55.out; omega); intro v490 w66 ho hb hg hat; rw [← Ny489.out] at ho; replace HO481 := ak (Kd.S_after (ok := (fun _ => True)) (hS HO481.out) hg hat); replace HB := ak (hb); have HO491 := ak (ho); clear HO484; clear ho hb hg hat; obtain ⟨Ao67, co67, eo67⟩ := Kd.R_slice HO491.out; subst eo67) | ((with_reducible refine gate_builtin (b := .append) (xs := #[.tmp 49, .tmp 56]) rfl ?_); (try (refine gate_guard (by rfl) ?_; dsimp only)); at_builtin; refine Kd.S_append k53 (w0 := w) w.heap.size rfl (.tmp 49) (.tmp 56) 24 53 (.agg #[(.slice none 0 0)]) 24 rfl Try.underlying24 info53 rfl (by decide) (by omega) v480 y479 (⟨y489⟩ : S53) [.slice Ao67 y489.length co67] (fun _ => True) (fun k_ => some k_ = (.slice Ao67 y489.length co67 : Value).ownBlock) rfl rfl ?aP (fun k_ hk_ => ((Kd.R_mono (ok' := fun k_ => ((fun _ => True)) k_ ∧ some k_ ≠ (v480 : Value).ownBlock) (Kd.R_apart' (HO491.out) (Kd.S_typed HO481.out) (by decide)) (fun k_ hk => ⟨trivial, hk.2⟩))).1 k_ hk_.symm) ?aF ?aO ?aB ?aS ?aL ?_; (case aP => exact k53_mkM _ _ _ (⟨y489⟩ : S53) (Kd.R_mono (Kd.R_tight rfl (Kd.R_mono (ok' := fun k_ => ((fun _ => True)) k_ ∧ some k_ ≠ (v480 : Value).ownBlock) (Kd.R_apart' (HO491.out) (Kd.S_typed HO481.out) (by decide)) (fun k_ hk => ⟨trivial, hk.2⟩))) (fun _ h_ => h_))); (case aB => exact (by exact hopb HB.out)); (case aF => exact (fun _ _ => trivial)); (case aO => exact (by (with_reducible repeat (first | apply Kd.S_alloc | apply Kd.S_drewN | apply Kd.S_drew)); exact Kd.S_mono HO481.out (fun k_ hk => ⟨trivial, fun e_ => hk.2 e_⟩))); (case aS => exact (below_size (by exact hopb HB.out))); (case aL => have := LMc56.out; omega); intro v493 w68 ho hb hg hat; rw [← Ny492.out] at ho; replace HB := ak (hb); have HO494 := ak (ho); clear HO481 HO491; clear ho hb hg hat))
                go_ret
                exact ⟨_, by first | rfl | (simp only [u8_w_, w64_u8_] <;> rfl) | (simp [errW_none, errW_some] <;> rfl) | (simp only [← hji8]; first | rfl | (simp [errW_none, errW_some] <;> rfl)) | (simp [*, errW_none, errW_some] <;> rfl), by (with_reducible repeat (first | apply Kd.S_alloc | apply Kd.S_drewN | apply Kd.S_drew)); exact HO494.out, by exact hopb HB.out⟩
               ·rw [if_neg c56] at H
                exact absurd H (by simp)
              ·rw [if_neg c55] at H
               exact absurd H (by simp)
             ·rw [if_neg c53] at H
              exact absurd H (by simp)
            ·rw [if_neg c52] at H
             have c52b0 : decide ((ji8) < (l0.length : Int)) = false := decide_eq_false c52
             clear c52
             have H' := ak H
             clear H
             go_wp2_with (first | ((with_reducible refine gate_dst (N := 30) rfl ?_); (try (refine gate_guard (by rfl) ?_; dsimp only)); refine Kd.R_lit k65 _ 65 ?hg (N := 30) ?hd (xs := ([] : List (S65))) (inner := []) (ok := fun _ => True) (okp := fun _ => True) ?hr ?hp (fun _ hk => hk) trivial (Below.refl _ _) (Nat.le_refl _) (by simp) ?_; (case hd => rfl); (case hg => rfl); (case hr => go_simp <;> rfl); (case hp => exact (Reps.none _ _)); intro v470 w69 ho70 hb hg_ hnew_; clear hg_ hnew_; (first | rw [← Ny469.out] at ho70 | (simp only [Int.reduceToNat] at ho70; rw [← Ny469.out] at ho70)); replace HO_3 := ak (Kd.S_elder' (hS HO_3.out) (Kd.R_base ho70) hb); have HO471 := ak (Kd.R_lower ho70 (below_size (by exact hopb HB.out))); replace HB := ak (below_step (by exact hopb HB.out) hb); clear hb ho70; have q71 : ((ji8) : Int) ≤ ((l0.length : Int) : Int) := of_decide_eq_true (by assumption); obtain ⟨i071, hi071, _, hsz71, _⟩ := info_parts info65; have hroom71 : l0.length ≤ c0 := HC0.out; have hC71 : Kd.C k65 _ A0 l0.length l0 := HR0.out; have ql71 : (x4_1 : Int) ≤ ((ji8) : Int) := of_decide_eq_true (by assumption); have q071 : (0 : Int) ≤ (x4_1 : Int) := of_decide_eq_true (by assumption); have hcut71 := cut_mid (P := Try.prog) 36 65 .i64 .i64 Try.underlying36 hi071 2 hsz71 A0 l0.length c0 x4_1 (ji8) q071 ql71 q71 hroom71; have hr71 := Kd.C_mid (lo := (x4_1 : Int).toNat) (hi := ((ji8) : Int).toNat) (c := c0) hC71 (by omega) (by omega) hroom71; obtain ⟨A71, hA71⟩ : ∃ A1, A1 = (if c0 = (x4_1 : Int).toNat then A0 else (A0 : Option Addr).map (·.add ((x4_1 : Int).toNat * 2))) := ⟨_, rfl⟩; obtain ⟨c71, hc71⟩ : ∃ c1, c1 = c0 - (x4_1 : Int).toNat := ⟨_, rfl⟩; have hy71 : y472.length = ((ji8) : Int).toNat - (x4_1 : Int).toNat := (by rw [Ny472.out, List.length_drop, List.length_take] <;> omega); rw [show ((l0).take ((ji8) : Int).toNat).drop (x4_1 : Int).toNat = y472 from Ny472.out.symm] at hr71; replace hr71 : Kd.C k65 _ A71 y472.length y472 := (by rw [hA71]; exact hr71); rw [← hy71, ← hA71, ← hc71] at hcut71; have HR475 := ak hr71; have HC475 := ak (show y472.length ≤ c71 from by rw [hy71, hc71]; exact Nat.sub_le_sub_right (Nat.le_trans (by omega) hroom71) _); clear hr71 hC71 hroom71 hi071 hsz71 hc71; have KY71 := ak hy71; have KA71 := ak hA71; clear hy71 hA71; replace q71 := eq_true q71) | ((with_reducible refine gate_builtin (b := .append) (xs := #[.tmp 30, .tmp 34]) rfl ?_); (try (refine gate_guard (by rfl) ?_; dsimp only)); at_builtin; refine Kd.R_append_rows k65 (w0 := w) w.heap.size rfl (.tmp 30) (.tmp 34) 36 65 (.agg #[(.string ⟨#[]⟩), (.int .i64 0)]) 24 rfl Try.underlying36 info65 rfl (by decide) (by omega) v470 y469 y472 _ _ _ (fun _ => True) (fun _ => False) rfl rfl ?aO ?aR (fun _ _ h => h) (fun _ h => h.elim) ?aF ?aB ?aS ?aL ?_; (case aR => exact hC (Kd.C_below HR475.out HB.out)); (case aB => exact (by exact hopb HB.out)); (case aF => exact (fun _ _ => trivial)); (case aO => exact (hR HO471.out)); (case aS => exact (below_size (by exact hopb HB.out))); (case aL => have := LMc49.out; omega); intro v477 w72 ho hb hg hat; rw [← Ny476.out] at ho; replace HO_3 := ak (Kd.S_after (ok := (fun _ => True)) (hS HO_3.out) hg hat); replace HB := ak (hb); have HO478 := ak (ho); clear HO471; clear ho hb hg hat; obtain ⟨Ao73, co73, eo73⟩ := Kd.R_slice HO478.out; subst eo73) | ((with_reducible refine gate_builtin (b := .append) (xs := #[.tmp 29, .tmp 37]) rfl ?_); (try (refine gate_guard (by rfl) ?_; dsimp only)); at_builtin; refine Kd.S_append k53 (w0 := w) w.heap.size rfl (.tmp 29) (.tmp 37) 24 53 (.agg #[(.slice none 0 0)]) 24 rfl Try.underlying24 info53 rfl (by decide) (by omega) u3 x3_1 (⟨y476⟩ : S53) [.slice Ao73 y476.length co73] (fun _ => True) (fun k_ => some k_ = (.slice Ao73 y476.length co73 : Value).ownBlock) rfl rfl ?aP (fun k_ hk_ => ((Kd.R_mono (ok' := fun k_ => ((fun _ => True)) k_ ∧ some k_ ≠ (u3 : Value).ownBlock) (Kd.R_apart' (HO478.out) (Kd.S_typed HO_3.out) (by decide)) (fun k_ hk => ⟨trivial, hk.2⟩))).1 k_ hk_.symm) ?aF ?aO ?aB ?aS ?aL ?_; (case aP => exact k53_mkM _ _ _ (⟨y476⟩ : S53) (Kd.R_mono (Kd.R_tight rfl (Kd.R_mono (ok' := fun k_ => ((fun _ => True)) k_ ∧ some k_ ≠ (u3 : Value).ownBlock) (Kd.R_apart' (HO478.out) (Kd.S_typed HO_3.out) (by decide)) (fun k_ hk => ⟨trivial, hk.2⟩))) (fun _ h_ => h_))); (case aB => exact (by exact hopb HB.out)); (case aF => exact (fun _ _ => trivial)); (case aO => exact (by (with_reducible repeat (first | apply Kd.S_alloc | apply Kd.S_drewN | apply Kd.S_drew)); exact Kd.S_mono HO_3.out (fun k_ hk => ⟨trivial, fun e_ => hk.2 e_⟩))); (case aS => exact (below_size (by exact hopb HB.out))); (case aL => have := LMc50.out; omega); intro v480 w74 ho hb hg hat; rw [← Ny479.out] at ho; replace HB := ak (hb); have HO481 := ak (ho); clear HO_3 HO478; clear ho hb hg hat))
             go_roundg k1
             case measure => have := HK1.out; omega
             case rel => exact ⟨(y479), (wrap64 (x4_1 + 4)), (by first | rfl | (simp [*]; done)), H', ⟨by have := HK1.out; omega⟩, ⟨by (with_reducible repeat (first | apply Kd.S_alloc | apply Kd.S_drewN | apply Kd.S_drew)); exact HO481.out⟩, ⟨by exact hopb HB.out⟩⟩
           ·rw [if_neg c51] at H
            have c51b0 : decide ((ji8) < (wrap64 (x4_1 + 4))) = false := decide_eq_false c51
            clear c51
            have H' := ak H
            clear H
            go_wp2_with (first | ((with_reducible refine gate_dst (N := 30) rfl ?_); (try (refine gate_guard (by rfl) ?_; dsimp only)); refine Kd.R_lit k65 _ 65 ?hg (N := 30) ?hd (xs := ([] : List (S65))) (inner := []) (ok := fun _ => True) (okp := fun _ => True) ?hr ?hp (fun _ hk => hk) trivial (Below.refl _ _) (Nat.le_refl _) (by simp) ?_; (case hd => rfl); (case hg => rfl); (case hr => go_simp <;> rfl); (case hp => exact (Reps.none _ _)); intro v470 w75 ho76 hb hg_ hnew_; clear hg_ hnew_; (first | rw [← Ny469.out] at ho76 | (simp only [Int.reduceToNat] at ho76; rw [← Ny469.out] at ho76)); replace HO_3 := ak (Kd.S_elder' (hS HO_3.out) (Kd.R_base ho76) hb); have HO471 := ak (Kd.R_lower ho76 (below_size (by exact hopb HB.out))); replace HB := ak (below_step (by exact hopb HB.out) hb); clear hb ho76; have q77 : ((ji8) : Int) ≤ ((l0.length : Int) : Int) := of_decide_eq_true (by assumption); obtain ⟨i077, hi077, _, hsz77, _⟩ := info_parts info65; have hroom77 : l0.length ≤ c0 := HC0.out; have hC77 : Kd.C k65 _ A0 l0.length l0 := HR0.out; have ql77 : (x4_1 : Int) ≤ ((ji8) : Int) := of_decide_eq_true (by assumption); have q077 : (0 : Int) ≤ (x4_1 : Int) := of_decide_eq_true (by assumption); have hcut77 := cut_mid (P := Try.prog) 36 65 .i64 .i64 Try.underlying36 hi077 2 hsz77 A0 l0.length c0 x4_1 (ji8) q077 ql77 q77 hroom77; have hr77 := Kd.C_mid (lo := (x4_1 : Int).toNat) (hi := ((ji8) : Int).toNat) (c := c0) hC77 (by omega) (by omega) hroom77; obtain ⟨A77, hA77⟩ : ∃ A1, A1 = (if c0 = (x4_1 : Int).toNat then A0 else (A0 : Option Addr).map (·.add ((x4_1 : Int).toNat * 2))) := ⟨_, rfl⟩; obtain ⟨c77, hc77⟩ : ∃ c1, c1 = c0 - (x4_1 : Int).toNat := ⟨_, rfl⟩; have hy77 : y472.length = ((ji8) : Int).toNat - (x4_1 : Int).toNat := (by rw [Ny472.out, List.length_drop, List.length_take] <;> omega); rw [show ((l0).take ((ji8) : Int).toNat).drop (x4_1 : Int).toNat = y472 from Ny472.out.symm] at hr77; replace hr77 : Kd.C k65 _ A77 y472.length y472 := (by rw [hA77]; exact hr77); rw [← hy77, ← hA77, ← hc77] at hcut77; have HR475 := ak hr77; have HC475 := ak (show y472.length ≤ c77 from by rw [hy77, hc77]; exact Nat.sub_le_sub_right (Nat.le_trans (by omega) hroom77) _); clear hr77 hC77 hroom77 hi077 hsz77 hc77; have KY77 := ak hy77; have KA77 := ak hA77; clear hy77 hA77; replace q77 := eq_true q77) | ((with_reducible refine gate_builtin (b := .append) (xs := #[.tmp 30, .tmp 34]) rfl ?_); (try (refine gate_guard (by rfl) ?_; dsimp only)); at_builtin; refine Kd.R_append_rows k65 (w0 := w) w.heap.size rfl (.tmp 30) (.tmp 34) 36 65 (.agg #[(.string ⟨#[]⟩), (.int .i64 0)]) 24 rfl Try.underlying36 info65 rfl (by decide) (by omega) v470 y469 y472 _ _ _ (fun _ => True) (fun _ => False) rfl rfl ?aO ?aR (fun _ _ h => h) (fun _ h => h.elim) ?aF ?aB ?aS ?aL ?_; (case aR => exact hC (Kd.C_below HR475.out HB.out)); (case aB => exact (by exact hopb HB.out)); (case aF => exact (fun _ _ => trivial)); (case aO => exact (hR HO471.out)); (case aS => exact (below_size (by exact hopb HB.out))); (case aL => have := LMc49.out; omega); intro v477 w78 ho hb hg hat; rw [← Ny476.out] at ho; replace HO_3 := ak (Kd.S_after (ok := (fun _ => True)) (hS HO_3.out) hg hat); replace HB := ak (hb); have HO478 := ak (ho); clear HO471; clear ho hb hg hat; obtain ⟨Ao79, co79, eo79⟩ := Kd.R_slice HO478.out; subst eo79) | ((with_reducible refine gate_builtin (b := .append) (xs := #[.tmp 29, .tmp 37]) rfl ?_); (try (refine gate_guard (by rfl) ?_; dsimp only)); at_builtin; refine Kd.S_append k53 (w0 := w) w.heap.size rfl (.tmp 29) (.tmp 37) 24 53 (.agg #[(.slice none 0 0)]) 24 rfl Try.underlying24 info53 rfl (by decide) (by omega) u3 x3_1 (⟨y476⟩ : S53) [.slice Ao79 y476.length co79] (fun _ => True) (fun k_ => some k_ = (.slice Ao79 y476.length co79 : Value).ownBlock) rfl rfl ?aP (fun k_ hk_ => ((Kd.R_mono (ok' := fun k_ => ((fun _ => True)) k_ ∧ some k_ ≠ (u3 : Value).ownBlock) (Kd.R_apart' (HO478.out) (Kd.S_typed HO_3.out) (by decide)) (fun k_ hk => ⟨trivial, hk.2⟩))).1 k_ hk_.symm) ?aF ?aO ?aB ?aS ?aL ?_; (case aP => exact k53_mkM _ _ _ (⟨y476⟩ : S53) (Kd.R_mono (Kd.R_tight rfl (Kd.R_mono (ok' := fun k_ => ((fun _ => True)) k_ ∧ some k_ ≠ (u3 : Value).ownBlock) (Kd.R_apart' (HO478.out) (Kd.S_typed HO_3.out) (by decide)) (fun k_ hk => ⟨trivial, hk.2⟩))) (fun _ h_ => h_))); (case aB => exact (by exact hopb HB.out)); (case aF => exact (fun _ _ => trivial)); (case aO => exact (by (with_reducible repeat (first | apply Kd.S_alloc | apply Kd.S_drewN | apply Kd.S_drew)); exact Kd.S_mono HO_3.out (fun k_ hk => ⟨trivial, fun e_ => hk.2 e_⟩))); (case aS => exact (below_size (by exact hopb HB.out))); (case aL => have := LMc50.out; omega); intro v480 w80 ho hb hg hat; rw [← Ny479.out] at ho; replace HB := ak (hb); have HO481 := ak (ho); clear HO_3 HO478; clear ho hb hg hat))
            go_roundg k1
            case measure => have := HK1.out; omega
            case rel => exact ⟨(y479), (wrap64 (x4_1 + 4)), (by first | rfl | (simp [*]; done)), H', ⟨by have := HK1.out; omega⟩, ⟨by (with_reducible repeat (first | apply Kd.S_alloc | apply Kd.S_drewN | apply Kd.S_drew)); exact HO481.out⟩, ⟨by exact hopb HB.out⟩⟩
          ·rw [if_neg c50] at H
           exact absurd H (by simp)
         ·rw [if_neg c49] at H
          exact absurd H (by simp)
        ·rw [if_neg c48] at H
         exact absurd H (by simp)
       ·rw [if_neg c47] at H
        exact absurd H (by simp)
      ·rw [if_neg c46] at H
       exact absurd H (by simp)
    ·rw [if_neg c7] at H
     have c7b0 : decide (x4_1 < (l0.length : Int)) = false := decide_eq_false c7
     clear c7
     obtain rfl := Option.some.inj H
     go_wp2
     go_ret
     exact ⟨_, by first | rfl | (simp [*, errW_none, errW_some] <;> rfl), by (with_reducible repeat (first | apply Kd.S_alloc | apply Kd.S_drewN | apply Kd.S_drew)); exact HO_3.out, by exact hopb HB.out⟩
 ·replace c3 := Bool.eq_false_iff.mpr c3
  subst c3
  rw [if_neg (show ¬ (false = true) by decide)] at H
  obtain rfl := Option.some.inj H
  go_enter Try.func60, Try.ntmps60
  go_wp2_with (first | ((with_reducible refine gate_dst (N := 6) rfl ?_); (try (refine gate_guard (by rfl) ?_; dsimp only)); refine Kd.S_lit k53 _ 53 ?hg (N := 6) ?hd (xs := ([] : List (S53))) (inner := []) (ok := fun _ => True) (okp := fun _ => True) ?hr ?hp (fun _ hk => hk) trivial (Below.refl _ _) (Nat.le_refl _) (by simp) ?_; (case hd => rfl); (case hg => rfl); (case hr => go_simp <;> rfl); (case hp => exact (Reps.none _ _)); intro v440 w81 ho82 hb hg_ hnew_; clear hg_ hnew_; (first | rw [← Ny439.out] at ho82 | (simp only [Int.reduceToNat] at ho82; rw [← Ny439.out] at ho82)); have HO441 := ak (Kd.S_lower ho82 (below_size (by exact hopb HB.out))); replace HB := ak (below_step (by exact hopb HB.out) hb); clear hb ho82) | ((with_reducible refine gate_callee (f := 54) rfl ?_); refine gL (some 8) Try.func54 #[.slice A0 l0.length c0] ?_; (with_reducible refine (spec_PairsValid.calls k _ _ l0 false _ ?side1 ?side2 A2.out).mono ?_); (case side1 => exact hC (Kd.C_below HR0.out HB.out)); (case side2 => exact HC0.out); rintro e w83 ⟨rfl, hb⟩; refine ⟨_, rfl, ?_⟩; replace HO441 := ak (Kd.S_below (hS HO441.out) hb); replace HB := ak (below_step (by exact hopb HB.out) hb); (try clear hb)))
  go_ret
  exact ⟨_, by first | rfl | (simp [*, errW_none, errW_some] <;> rfl), by (with_reducible repeat (first | apply Kd.S_alloc | apply Kd.S_drewN | apply Kd.S_drew)); exact HO441.out, by exact hopb HB.out⟩

/-! ### spec_l1Weight: function 75 -/
def spec_l1Weight.f (a0 : Int) : Option (Int) := if a0 = 0 then (some 18279) else (if a0 = 1 then (some 703) else (if a0 = 2 then (some 27) else (some 1)))
theorem spec_l1Weight.calls (a0 : Int) (r : Int) (w : World) (h : spec_l1Weight.f a0 = some r) :
  Calls Try.prog 75 #[.int .i64 a0] w fun e w' => e = .returned (.int .i64 r) ∧ Drawn0 w w' := by
 have H : (if a0 = 0 then (some 18279) else (if a0 = 1 then (some 703) else (if a0 = 2 then (some 27) else (some 1)))) = some r := h
 clear h
 by_cases c2 : a0 = 0
 ·rw [if_pos c2] at H
  have c2b0 : (a0 == 0) = true := beq_iff_eq.mpr c2
  have c2b1 : (a0 != 0) = false := bne_eq_false_iff_eq.mpr c2
  clear c2
  obtain rfl := Option.some.inj H
  go_enter Try.func75, Try.ntmps75
  go_wp2
  go_ret
  exact ⟨by first | rfl | (simp; done) | (simp [*]; done), by repeat (first | exact Drawn0.refl _ | apply Drawn0.step)⟩
 ·rw [if_neg c2] at H
  have c2b0 : (a0 == 0) = false := beq_eq_false_iff_ne.mpr c2
  have c2b1 : (a0 != 0) = true := bne_iff_ne.mpr c2
  by_cases c3 : a0 = 1
  ·rw [if_pos c3] at H
   have c3b0 : (a0 == 1) = true := beq_iff_eq.mpr c3
   have c3b1 : (a0 != 1) = false := bne_eq_false_iff_eq.mpr c3
   clear c3
   obtain rfl := Option.some.inj H
   go_enter Try.func75, Try.ntmps75
   go_wp2
   go_ret
   exact ⟨by first | rfl | (simp; done) | (simp [*]; done), by repeat (first | exact Drawn0.refl _ | apply Drawn0.step)⟩
  ·rw [if_neg c3] at H
   have c3b0 : (a0 == 1) = false := beq_eq_false_iff_ne.mpr c3
   have c3b1 : (a0 != 1) = true := bne_iff_ne.mpr c3
   by_cases c4 : a0 = 2
   ·rw [if_pos c4] at H
    have c4b0 : (a0 == 2) = true := beq_iff_eq.mpr c4
    have c4b1 : (a0 != 2) = false := bne_eq_false_iff_eq.mpr c4
    clear c4
    obtain rfl := Option.some.inj H
    go_enter Try.func75, Try.ntmps75
    go_wp2
    go_ret
    exact ⟨by first | rfl | (simp; done) | (simp [*]; done), by repeat (first | exact Drawn0.refl _ | apply Drawn0.step)⟩
   ·rw [if_neg c4] at H
    have c4b0 : (a0 == 2) = false := beq_eq_false_iff_ne.mpr c4
    have c4b1 : (a0 != 2) = true := bne_iff_ne.mpr c4
    obtain rfl := Option.some.inj H
    go_enter Try.func75, Try.ntmps75
    go_wp2
    go_ret
    exact ⟨by first | rfl | (simp; done) | (simp [*]; done), by repeat (first | exact Drawn0.refl _ | apply Drawn0.step)⟩

/-! ### spec_KeyAt: function 72 -/
def spec_KeyAt.l0 : Nat → Int → ByteArray → Int → Option (ByteArray)
 | 0, _, _, _ => none
 | k + 1, x0, x3, x4 => if x4 < 4 then ((spec_l1Weight.f x4).bind fun t496 => (if t496 = 0 then (none) else ((some (([(wrap64 (97 + (wrap64 (Int.tdiv x0 t496)))) % 256] : List Int) : List Int)).bind fun y497 => (if x3.size + (strOfNums y497).size ≤ 9223372036854775807 then ((spec_l1Weight.f x4).bind fun t500 => (if t500 = 0 then (none) else (if (Int.tmod x0 t500) = 0 then (some (x3 ++ (strOfNums y497))) else (spec_KeyAt.l0 k (wrap64 ((Int.tmod x0 t500) - 1)) (x3 ++ (strOfNums y497)) (wrap64 (x4 + 1)))))) else (none))))) else (some x3)
def spec_KeyAt.f (k : Nat) (a0 : Int) : Option (ByteArray) := (spec_l1In.f a0 0 475253).bind fun t495 => (if t495 = true then (spec_KeyAt.l0 k a0 (⟨#[]⟩ : ByteArray) 0) else (some (⟨#[]⟩ : ByteArray)))
theorem spec_KeyAt.mono_l : ∀ k, (∀ y0 y1 y2, LeO (spec_KeyAt.l0 k y0 y1 y2) (spec_KeyAt.l0 (k + 1) y0 y1 y2))
 | 0 => fun _ _ _ r h => by simp [spec_KeyAt.l0] at h
 | k + 1 => by
  have ih0 := spec_KeyAt.mono_l k
  ·intro y0 y1 y2
   unfold spec_KeyAt.l0
   repeat' first
   | (with_reducible exact ih0 _ _ _)
   | (with_reducible exact LeO.refl _)
   | (with_reducible exact LeO.none _)
   | (with_reducible refine LeO.ite ?_ ?_)
   | (with_reducible refine LeO.bind ?_ (fun _ => ?_))
   | exact ih0 _ _ _
   | exact LeO.none _
   | refine LeO.ite ?_ ?_
   | refine LeO.bind ?_ (fun _ => ?_)
theorem spec_KeyAt.mono : ∀ a0 k, LeO (spec_KeyAt.f k a0) (spec_KeyAt.f (k + 1) a0) := by
 intro a0 k
 have ih0 := spec_KeyAt.mono_l k
 unfold spec_KeyAt.f
 repeat' first
   | (with_reducible exact ih0 _ _ _)
   | (with_reducible exact LeO.refl _)
   | (with_reducible exact LeO.none _)
   | (with_reducible refine LeO.ite ?_ ?_)
   | (with_reducible refine LeO.bind ?_ (fun _ => ?_))
   | exact ih0 _ _ _
   | exact LeO.none _
   | refine LeO.ite ?_ ?_
   | refine LeO.bind ?_ (fun _ => ?_)
theorem spec_KeyAt.calls (k : Nat) (a0 : Int) (r : ByteArray) (w : World) (h : spec_KeyAt.f k a0 = some r) :
  Calls Try.prog 72 #[.int .i64 a0] w fun e w' => e = .returned (.string r) ∧ Below w.heap.size w w' := by
 have HB := ak (Below.refl w.heap.size w)
 have H : ((spec_l1In.f a0 0 475253).bind fun t495 => (if t495 = true then (spec_KeyAt.l0 k a0 (⟨#[]⟩ : ByteArray) 0) else (some (⟨#[]⟩ : ByteArray)))) = some r := h
 clear h
 replace H := Option.bind_eq_some_iff.mp H
 obtain ⟨t495, A20, H⟩ := H
 try dsimp only at H
 have A2 := ak A20
 clear A20
 by_cases c3 : t495 = true
 ·subst c3
  rw [if_pos rfl] at H
  have H' := ak H
  clear H
  go_enter Try.func72, Try.ntmps72
  go_wp2_with (first | ((with_reducible refine gate_callee (f := 48) rfl ?_); refine gL (some 6) Try.func48 #[.int .i64 a0, .int .i64 0, .int .i64 475253] ?_; (with_reducible refine (spec_l1In.calls a0 0 475253 true _ A2.out).mono ?_); rintro e w' ⟨rfl, ⟨nd, rfl⟩⟩; refine ⟨_, rfl, ?_⟩))
  go_loopg [0, 3, 4] k (fun kq v0 v3 v4 w' => ∃ (x0_1 : Int) (x3_1 : ByteArray) (x4_1 : Int), v0 = .int .i64 x0_1 ∧ v3 = .string x3_1 ∧ v4 = .int .i64 x4_1 ∧ Aside0 (spec_KeyAt.l0 kq x0_1 x3_1 x4_1 = some r) ∧ Aside0 (kq ≤ k) ∧ Aside0 (Below w.heap.size w w'))
  case atStart => exact ⟨(a0), ((⟨#[]⟩ : ByteArray)), (0), (by first | rfl | (simp [*]; done)), (by first | rfl | (simp [*]; done)), (by first | rfl | (simp [*]; done)), H', ⟨Nat.le_refl _⟩, ⟨by exact hopb HB.out⟩⟩
  case round =>
   clear H'
   try clear p2
   try clear c3
   obtain ⟨x0_1, x3_1, x4_1, rfl, rfl, rfl, HA, HK1, HB⟩ := hrel
   cases gk with
   | zero => exact absurd HA.out (by simp [spec_KeyAt.l0])
   | succ k1 =>
    have H := HA.out
    clear HA
    simp only [spec_KeyAt.l0] at H
    by_cases c4 : x4_1 < 4
    ·rw [if_pos c4] at H
     have c4b0 : decide (x4_1 < 4) = true := decide_eq_true c4
     clear c4
     replace H := Option.bind_eq_some_iff.mp H
     obtain ⟨t496, A50, H⟩ := H
     try dsimp only at H
     have A5 := ak A50
     clear A50
     by_cases c6 : t496 = 0
     ·rw [if_pos c6] at H
      exact absurd H (by simp)
     ·rw [if_neg c6] at H
      have c6b0 : (t496 == 0) = false := beq_eq_false_iff_ne.mpr c6
      have c6b1 : (t496 != 0) = true := bne_iff_ne.mpr c6
      obtain ⟨y497, hy497⟩ : ∃ y_ : List Int, y_ = (([(wrap64 (97 + (wrap64 (Int.tdiv x0_1 t496)))) % 256] : List Int)) := ⟨_, rfl⟩
      replace H : (if x3_1.size + (strOfNums y497).size ≤ 9223372036854775807 then ((spec_l1Weight.f x4_1).bind fun t500 => (if t500 = 0 then (none) else (if (Int.tmod x0_1 t500) = 0 then (some (x3_1 ++ (strOfNums y497))) else (spec_KeyAt.l0 k1 (wrap64 ((Int.tmod x0_1 t500) - 1)) (x3_1 ++ (strOfNums y497)) (wrap64 (x4_1 + 1)))))) else (none)) = some r := by first | (rw [hy497]; exact H) | exact H
      have Ny497 := ak hy497
      clear hy497
      by_cases c7 : x3_1.size + (strOfNums y497).size ≤ 9223372036854775807
      ·rw [if_pos c7] at H
       have c7b0 := eq_true c7
       have c7b1 : decide (x3_1.size + (strOfNums y497).size ≤ 9223372036854775807) = true := decide_eq_true c7
       try have c7b2 : (9223372036854775807 < x3_1.size + (strOfNums y497).size) = False := eq_false (Nat.not_lt.2 c7)
       replace H := Option.bind_eq_some_iff.mp H
       obtain ⟨t500, A80, H⟩ := H
       try dsimp only at H
       have A8 := ak A80
       clear A80
       by_cases c9 : t500 = 0
       ·rw [if_pos c9] at H
        exact absurd H (by simp)
       ·rw [if_neg c9] at H
        have c9b0 : (t500 == 0) = false := beq_eq_false_iff_ne.mpr c9
        have c9b1 : (t500 != 0) = true := bne_iff_ne.mpr c9
        by_cases c10 : (Int.tmod x0_1 t500) = 0
        ·rw [if_pos c10] at H
         have c10b0 : ((Int.tmod x0_1 t500) == 0) = true := beq_iff_eq.mpr c10
         have c10b1 : ((Int.tmod x0_1 t500) != 0) = false := bne_eq_false_iff_eq.mpr c10
         clear c10
         obtain rfl := Option.some.inj H
         go_wp2_with (first | ((with_reducible refine gate_callee (f := 75) rfl ?_); refine gL (some 15) Try.func75 #[.int .i64 x4_1] ?_; (with_reducible refine (spec_l1Weight.calls x4_1 t496 _ A5.out).mono ?_); rintro e w' ⟨rfl, ⟨nd, rfl⟩⟩; refine ⟨_, rfl, ?_⟩) | ((with_reducible refine gate_dst (N := 19) rfl ?_); refine Kd.R_lit (Kd.int .u8) _ 5 ?hg (N := 19) ?hd (xs := ([(wrap64 (97 + (wrap64 (Int.tdiv x0_1 t496)))) % 256] : List Int)) (inner := [.int .u8 ((wrap64 (97 + (wrap64 (Int.tdiv x0_1 t496)))) % 256)]) (ok := fun _ => True) (okp := fun _ => True) ?hr ?hp (fun _ hk => hk) trivial (Below.refl _ _) (Nat.le_refl _) (by simp) ?_; (case hd => rfl); (case hg => rfl); (case hr => go_simp <;> rfl); (case hp => exact (Reps.one (show Kd.M (Kd.int .u8) _ _ _ ((wrap64 (97 + (wrap64 (Int.tdiv x0_1 t496)))) % 256) [.int .u8 ((wrap64 (97 + (wrap64 (Int.tdiv x0_1 t496)))) % 256)] from rfl) (Reps.none _ _))); intro v498 w11 ho12 hb hg_ hnew_; clear hg_ hnew_; (first | rw [← Ny497.out] at ho12 | (simp only [Int.reduceToNat] at ho12; rw [← Ny497.out] at ho12)); have HO499 := ak (Kd.R_lower ho12 (below_size (by exact hopb HB.out))); replace HB := ak (below_step (by exact hopb HB.out) hb); clear hb ho12; have hcv13 := own_string (P := Try.prog) Try.underlying31 Try.underlying5 Try.underlying9 (Kd.own_of_R HO499.out)) | ((with_reducible refine gate_callee (f := 75) rfl ?_); refine gL (some 24) Try.func75 #[.int .i64 x4_1] ?_; (with_reducible refine (spec_l1Weight.calls x4_1 t500 _ A8.out).mono ?_); rintro e w' ⟨rfl, ⟨nd, rfl⟩⟩; refine ⟨_, rfl, ?_⟩))
         go_ret
         exact ⟨by first | rfl | (simp [*, errW_none, errW_some] <;> rfl), by exact hopb HB.out⟩
        ·rw [if_neg c10] at H
         have c10b0 : ((Int.tmod x0_1 t500) == 0) = false := beq_eq_false_iff_ne.mpr c10
         have c10b1 : ((Int.tmod x0_1 t500) != 0) = true := bne_iff_ne.mpr c10
         have H' := ak H
         clear H
         go_wp2_with (first | ((with_reducible refine gate_callee (f := 75) rfl ?_); refine gL (some 15) Try.func75 #[.int .i64 x4_1] ?_; (with_reducible refine (spec_l1Weight.calls x4_1 t496 _ A5.out).mono ?_); rintro e w' ⟨rfl, ⟨nd, rfl⟩⟩; refine ⟨_, rfl, ?_⟩) | ((with_reducible refine gate_dst (N := 19) rfl ?_); refine Kd.R_lit (Kd.int .u8) _ 5 ?hg (N := 19) ?hd (xs := ([(wrap64 (97 + (wrap64 (Int.tdiv x0_1 t496)))) % 256] : List Int)) (inner := [.int .u8 ((wrap64 (97 + (wrap64 (Int.tdiv x0_1 t496)))) % 256)]) (ok := fun _ => True) (okp := fun _ => True) ?hr ?hp (fun _ hk => hk) trivial (Below.refl _ _) (Nat.le_refl _) (by simp) ?_; (case hd => rfl); (case hg => rfl); (case hr => go_simp <;> rfl); (case hp => exact (Reps.one (show Kd.M (Kd.int .u8) _ _ _ ((wrap64 (97 + (wrap64 (Int.tdiv x0_1 t496)))) % 256) [.int .u8 ((wrap64 (97 + (wrap64 (Int.tdiv x0_1 t496)))) % 256)] from rfl) (Reps.none _ _))); intro v498 w14 ho15 hb hg_ hnew_; clear hg_ hnew_; (first | rw [← Ny497.out] at ho15 | (simp only [Int.reduceToNat] at ho15; rw [← Ny497.out] at ho15)); have HO499 := ak (Kd.R_lower ho15 (below_size (by exact hopb HB.out))); replace HB := ak (below_step (by exact hopb HB.out) hb); clear hb ho15; have hcv16 := own_string (P := Try.prog) Try.underlying31 Try.underlying5 Try.underlying9 (Kd.own_of_R HO499.out)) | ((with_reducible refine gate_callee (f := 75) rfl ?_); refine gL (some 24) Try.func75 #[.int .i64 x4_1] ?_; (with_reducible refine (spec_l1Weight.calls x4_1 t500 _ A8.out).mono ?_); rintro e w' ⟨rfl, ⟨nd, rfl⟩⟩; refine ⟨_, rfl, ?_⟩))
         go_roundg k1
         case measure => have := HK1.out; omega
         case rel => exact ⟨(wrap64 ((Int.tmod x0_1 t500) - 1)), (x3_1 ++ (strOfNums y497)), (wrap64 (x4_1 + 1)), (by first | rfl | (simp [*]; done)), (by first | rfl | (simp [*]; done)), (by first | rfl | (simp [*]; done)), H', ⟨by have := HK1.out; omega⟩, ⟨by exact hopb HB.out⟩⟩
      ·rw [if_neg c7] at H
       exact absurd H (by simp)
    ·rw [if_neg c4] at H
     have c4b0 : decide (x4_1 < 4) = false := decide_eq_false c4
     clear c4
     obtain rfl := Option.some.inj H
     go_wp2
     go_ret
     exact ⟨by first | rfl | (simp [*, errW_none, errW_some] <;> rfl), by exact hopb HB.out⟩
 ·replace c3 := Bool.eq_false_iff.mpr c3
  subst c3
  rw [if_neg (show ¬ (false = true) by decide)] at H
  obtain rfl := Option.some.inj H
  go_enter Try.func72, Try.ntmps72
  go_wp2_with (first | ((with_reducible refine gate_callee (f := 48) rfl ?_); refine gL (some 6) Try.func48 #[.int .i64 a0, .int .i64 0, .int .i64 475253] ?_; (with_reducible refine (spec_l1In.calls a0 0 475253 false _ A2.out).mono ?_); rintro e w' ⟨rfl, ⟨nd, rfl⟩⟩; refine ⟨_, rfl, ?_⟩))
  go_ret
  exact ⟨by first | rfl | (simp [*, errW_none, errW_some] <;> rfl), by exact hopb HB.out⟩

end Go.Proofs.Ytengnnhehjcfhaa.PFnPagesPut
