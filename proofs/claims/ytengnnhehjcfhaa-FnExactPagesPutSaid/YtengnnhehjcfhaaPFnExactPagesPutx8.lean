-- Written for this claim by a program of this session (wip/myprint in the proofs' repo)
import Derived.Test.YtengnnhehjcfhaaPFnExactPagesPutx0
import Derived.Test.YtengnnhehjcfhaaPFnExactPagesPutx6
import Derived.Test.YtengnnhehjcfhaaPFnExactPagesPutx7
import Derived.Test.YtengnnhehjcfhaaWZip
-- slim3
namespace Go.Proofs.Ytengnnhehjcfhaa.PFnExactPagesPut
open Go.RowKit Go.Proofs.YtengnnhehjcfhaaW.PrintWords Go.Proofs.YtengnnhehjcfhaaW.PrintLast Go.Proofs.YtengnnhehjcfhaaW.PrintMore
attribute [local go_sem] max2_int min2_int max_two min_two max_three min_three max_four min_four max2_strs min2_strs   -- for this text's walks alone
set_option linter.unusedVariables false
set_option linter.unusedSimpArgs false
set_option maxHeartbeats 8000000
set_option maxRecDepth 100000

/-! ### spec_PagesValid: function 23 -/
def spec_PagesValid.l0 : Nat → List (S53) → List (S65) → Int → Option (Bool)
 | 0, _, _, _ => none
 | k + 1, x0, x3, x4 => if x4 < (x0.length : Int) then (if 0 ≤ x4 then (if (((rd_T53 x0 x4).f0).length : Int) > 4 then (some false) else (if (((rd_T53 x0 x4).f0).length : Int) < 2 then (if (x0.length : Int) > 1 then (some false) else (if (((rd_T53 x0 x4).f0).length : Int) < 1 then (some false) else (if (x3.length : Int) > 48 then (some false) else (if x3.length + ((rd_T53 x0 x4).f0).length < 5864062014805 then (spec_PagesValid.l0 k x0 (x3 ++ ((rd_T53 x0 x4).f0)) (wrap64 (x4 + 1))) else (none))))) else (if (x3.length : Int) > 48 then (some false) else (if x3.length + ((rd_T53 x0 x4).f0).length < 5864062014805 then (spec_PagesValid.l0 k x0 (x3 ++ ((rd_T53 x0 x4).f0)) (wrap64 (x4 + 1))) else (none))))) else (none)) else ((spec_PairsValid.f k x3).bind fun t226 => (some t226))
def spec_PagesValid.f (k : Nat) (l0 : List (S53)) : Option (Bool) := spec_PagesValid.l0 k l0 (([] : List (S65))) 0
theorem spec_PagesValid.mono_l : ∀ k, (∀ y0 y1 y2, LeO (spec_PagesValid.l0 k y0 y1 y2) (spec_PagesValid.l0 (k + 1) y0 y1 y2))
 | 0 => fun _ _ _ r h => by simp [spec_PagesValid.l0] at h
 | k + 1 => by
  have ih0 := spec_PagesValid.mono_l k
  ·intro y0 y1 y2
   unfold spec_PagesValid.l0
   repeat' first
   | (with_reducible exact ih0 _ _ _)
   | (with_reducible exact spec_PairsValid.mono _ _)
   | (with_reducible exact LeO.refl _)
   | (with_reducible exact LeO.none _)
   | (with_reducible refine LeO.ite ?_ ?_)
   | (with_reducible refine LeO.bind ?_ (fun _ => ?_))
   | exact ih0 _ _ _
   | exact LeO.none _
   | refine LeO.ite ?_ ?_
   | refine LeO.bind ?_ (fun _ => ?_)
theorem spec_PagesValid.mono : ∀ a0 k, LeO (spec_PagesValid.f k a0) (spec_PagesValid.f (k + 1) a0) := by
 intro a0 k
 have ih0 := spec_PagesValid.mono_l k
 unfold spec_PagesValid.f
 repeat' first
   | (with_reducible exact ih0 _ _ _)
   | (with_reducible exact spec_PairsValid.mono _ _)
   | (with_reducible exact LeO.refl _)
   | (with_reducible exact LeO.none _)
   | (with_reducible refine LeO.ite ?_ ?_)
   | (with_reducible refine LeO.bind ?_ (fun _ => ?_))
   | exact ih0 _ _ _
   | exact LeO.none _
   | refine LeO.ite ?_ ?_
   | refine LeO.bind ?_ (fun _ => ?_)
theorem spec_PagesValid.calls (k : Nat) (A0 : Option Addr) (c0 : Nat) (l0 : List (S53)) (r : Bool) (w : World) (hr0 : Kd.C k53 w A0 l0.length l0) (hc0 : l0.length ≤ c0) (h : spec_PagesValid.f k l0 = some r) :
  Calls Try.prog 23 #[.slice A0 l0.length c0] w fun e w' => e = .returned (.bool r) ∧ Below w.heap.size w w' := by
 have HR0 := ak hr0
 have HC0 := ak hc0
 clear hr0 hc0
 have HB := ak (Below.refl w.heap.size w)
 have H : (spec_PagesValid.l0 k l0 (([] : List (S65))) 0) = some r := h
 clear h
 obtain ⟨y214, hy214⟩ : ∃ y_ : List (S65), y_ = (([] : List (S65))) := ⟨_, rfl⟩
 replace H : (spec_PagesValid.l0 k l0 y214 0) = some r := by first | (rw [hy214]; exact H) | exact H
 have Ny214 := ak hy214
 clear hy214
 have H' := ak H
 clear H
 go_enter Try.func23, Try.ntmps23
 go_wp2_with (first | ((with_reducible refine gate_dst (N := 6) rfl ?_); (try (refine gate_guard (by rfl) ?_; dsimp only)); refine Kd.R_lit k65 _ 65 ?hg (N := 6) ?hd (xs := ([] : List (S65))) (inner := []) (ok := fun _ => True) (okp := fun _ => True) ?hr ?hp (fun _ hk => hk) trivial (Below.refl _ _) (Nat.le_refl _) (by simp) ?_; (case hd => rfl); (case hg => rfl); (case hr => first | (go_simp; done) | (go_simp; rfl)); (case hp => exact (Reps.none _ _)); intro v215 w2 ho3 hb hg_ hnew_; clear hg_ hnew_; (first | rw [← Ny214.out] at ho3 | (simp only [Int.reduceToNat] at ho3; rw [← Ny214.out] at ho3)); have HO216 := ak (Kd.R_lower ho3 (below_size (by exact hopb HB.out))); replace HB := ak (below_step (by exact hopb HB.out) hb); clear hb ho3))
 go_loopg [3, 4] k (fun kq v3 v4 w' => ∃ (x3_1 : List (S65)) (x4_1 : Int), v4 = .int .i64 x4_1 ∧ Aside0 (spec_PagesValid.l0 kq l0 x3_1 x4_1 = some r) ∧ Aside0 (kq ≤ k) ∧ Aside0 (Kd.R k65 65 w' w.heap.size (fun _ => True) v3 x3_1) ∧ Aside0 (Below w.heap.size w w'))
 case atStart => exact ⟨(y214), (0), (by first | rfl | (simp [*]; done)), H', ⟨Nat.le_refl _⟩, ⟨by (with_reducible repeat (first | apply Kd.R_alloc | apply Kd.R_drewN | apply Kd.R_drew)); exact HO216.out⟩, ⟨by exact hopb HB.out⟩⟩
 case round =>
  clear H'
  try clear c2
  try clear p2
  obtain ⟨x3_1, x4_1, rfl, HA, HK1, HO_3, HB⟩ := hrel
  cases gk with
  | zero => exact absurd HA.out (by simp [spec_PagesValid.l0])
  | succ k1 =>
   have H := HA.out
   clear HA
   simp only [spec_PagesValid.l0] at H
   by_cases c4 : x4_1 < (l0.length : Int)
   ·rw [if_pos c4] at H
    have c4b0 : decide (x4_1 < (l0.length : Int)) = true := decide_eq_true c4
    clear c4
    by_cases c5 : 0 ≤ x4_1
    ·rw [if_pos c5] at H
     have c5b0 : decide (0 ≤ x4_1) = true := decide_eq_true c5
     clear c5
     by_cases c6 : (((rd_T53 l0 x4_1).f0).length : Int) > 4
     ·rw [if_pos c6] at H
      have c6b0 : decide (4 < (((rd_T53 l0 x4_1).f0).length : Int)) = true := decide_eq_true c6
      have c6b1 : decide (4 < ((rd_T53 l0 x4_1).f0).length) = true := decide_eq_true (by omega)
      clear c6
      obtain rfl := Option.some.inj H
      have p217 : 0 ≤ (x4_1 : Int) := of_decide_eq_true (by assumption)
      have q217 : x4_1 < (l0.length : Int) := of_decide_eq_true (by assumption)
      obtain ⟨ad217, A217_0, c217_0, e217, hx217_0, hl217_0, hi217_0⟩ := at_T53 HR0.out x4_1 p217 q217
      cases e217
      replace hx217_0 := bc HB.out hx217_0
      have HR217_0 := ak hi217_0
      have HC217_0 := ak hl217_0
      clear hi217_0 hl217_0
      replace p217 := eq_true p217
      replace q217 := eq_true q217
      go_wp2
      go_ret
      exact ⟨by first | rfl | (simp [*, errW_none, errW_some] <;> rfl), by exact hopb HB.out⟩
     ·rw [if_neg c6] at H
      have c6b0 : decide (4 < (((rd_T53 l0 x4_1).f0).length : Int)) = false := decide_eq_false c6
      have c6b1 : decide (4 < ((rd_T53 l0 x4_1).f0).length) = false := decide_eq_false (by omega)
      clear c6
      by_cases c7 : (((rd_T53 l0 x4_1).f0).length : Int) < 2
      ·rw [if_pos c7] at H
       have c7b0 : decide ((((rd_T53 l0 x4_1).f0).length : Int) < 2) = true := decide_eq_true c7
       have c7b1 : decide (((rd_T53 l0 x4_1).f0).length < 2) = true := decide_eq_true (by omega)
       clear c7
       by_cases c8 : (l0.length : Int) > 1
       ·rw [if_pos c8] at H
        have c8b0 : decide (1 < (l0.length : Int)) = true := decide_eq_true c8
        have c8b1 : decide (1 < l0.length) = true := decide_eq_true (by omega)
        clear c8
        obtain rfl := Option.some.inj H
        have p217 : 0 ≤ (x4_1 : Int) := of_decide_eq_true (by assumption)
        have q217 : x4_1 < (l0.length : Int) := of_decide_eq_true (by assumption)
        obtain ⟨ad217, A217_0, c217_0, e217, hx217_0, hl217_0, hi217_0⟩ := at_T53 HR0.out x4_1 p217 q217
        cases e217
        replace hx217_0 := bc HB.out hx217_0
        have HR217_0 := ak hi217_0
        have HC217_0 := ak hl217_0
        clear hi217_0 hl217_0
        replace p217 := eq_true p217
        replace q217 := eq_true q217
        go_wp2
        go_ret
        exact ⟨by first | rfl | (simp [*, errW_none, errW_some] <;> rfl), by exact hopb HB.out⟩
       ·rw [if_neg c8] at H
        have c8b0 : decide (1 < (l0.length : Int)) = false := decide_eq_false c8
        have c8b1 : decide (1 < l0.length) = false := decide_eq_false (by omega)
        clear c8
        by_cases c9 : (((rd_T53 l0 x4_1).f0).length : Int) < 1
        ·rw [if_pos c9] at H
         have c9b0 : decide ((((rd_T53 l0 x4_1).f0).length : Int) < 1) = true := decide_eq_true c9
         have c9b1 : decide (((rd_T53 l0 x4_1).f0).length < 1) = true := decide_eq_true (by omega)
         clear c9
         obtain rfl := Option.some.inj H
         have p217 : 0 ≤ (x4_1 : Int) := of_decide_eq_true (by assumption)
         have q217 : x4_1 < (l0.length : Int) := of_decide_eq_true (by assumption)
         obtain ⟨ad217, A217_0, c217_0, e217, hx217_0, hl217_0, hi217_0⟩ := at_T53 HR0.out x4_1 p217 q217
         cases e217
         replace hx217_0 := bc HB.out hx217_0
         have HR217_0 := ak hi217_0
         have HC217_0 := ak hl217_0
         clear hi217_0 hl217_0
         replace p217 := eq_true p217
         replace q217 := eq_true q217
         go_wp2
         go_ret
         exact ⟨by first | rfl | (simp [*, errW_none, errW_some] <;> rfl), by exact hopb HB.out⟩
        ·rw [if_neg c9] at H
         have c9b0 : decide ((((rd_T53 l0 x4_1).f0).length : Int) < 1) = false := decide_eq_false c9
         have c9b1 : decide (((rd_T53 l0 x4_1).f0).length < 1) = false := decide_eq_false (by omega)
         clear c9
         by_cases c10 : (x3_1.length : Int) > 48
         ·rw [if_pos c10] at H
          have c10b0 : decide (48 < (x3_1.length : Int)) = true := decide_eq_true c10
          have c10b1 : decide (48 < x3_1.length) = true := decide_eq_true (by omega)
          clear c10
          obtain rfl := Option.some.inj H
          have p217 : 0 ≤ (x4_1 : Int) := of_decide_eq_true (by assumption)
          have q217 : x4_1 < (l0.length : Int) := of_decide_eq_true (by assumption)
          obtain ⟨ad217, A217_0, c217_0, e217, hx217_0, hl217_0, hi217_0⟩ := at_T53 HR0.out x4_1 p217 q217
          cases e217
          replace hx217_0 := bc HB.out hx217_0
          have HR217_0 := ak hi217_0
          have HC217_0 := ak hl217_0
          clear hi217_0 hl217_0
          replace p217 := eq_true p217
          replace q217 := eq_true q217
          obtain ⟨Ao11, co11, eo11⟩ := Kd.R_slice HO_3.out
          subst eo11
          go_wp2
          go_ret
          exact ⟨by first | rfl | (simp [*, errW_none, errW_some] <;> rfl), by exact hopb HB.out⟩
         ·rw [if_neg c10] at H
          have c10b0 : decide (48 < (x3_1.length : Int)) = false := decide_eq_false c10
          have c10b1 : decide (48 < x3_1.length) = false := decide_eq_false (by omega)
          clear c10
          by_cases c12 : x3_1.length + ((rd_T53 l0 x4_1).f0).length < 5864062014805
          ·rw [if_pos c12] at H
           have LMc12 := ak c12
           clear c12
           obtain ⟨y219, hy219⟩ : ∃ y_ : List (S65), y_ = (x3_1 ++ ((rd_T53 l0 x4_1).f0)) := ⟨_, rfl⟩
           replace H : (spec_PagesValid.l0 k1 l0 y219 (wrap64 (x4_1 + 1))) = some r := by first | (rw [hy219]; exact H) | exact H
           have Ny219 := ak hy219
           clear hy219
           have H' := ak H
           clear H
           have p217 : 0 ≤ (x4_1 : Int) := of_decide_eq_true (by assumption)
           have q217 : x4_1 < (l0.length : Int) := of_decide_eq_true (by assumption)
           obtain ⟨ad217, A217_0, c217_0, e217, hx217_0, hl217_0, hi217_0⟩ := at_T53 HR0.out x4_1 p217 q217
           cases e217
           replace hx217_0 := bc HB.out hx217_0
           have HR217_0 := ak hi217_0
           have HC217_0 := ak hl217_0
           clear hi217_0 hl217_0
           replace p217 := eq_true p217
           replace q217 := eq_true q217
           obtain ⟨Ao13, co13, eo13⟩ := Kd.R_slice HO_3.out
           subst eo13
           have p218 : 0 ≤ (x4_1 : Int) := of_decide_eq_true (by assumption)
           have q218 : x4_1 < (l0.length : Int) := of_decide_eq_true (by assumption)
           obtain ⟨ad218, A218_0, c218_0, e218, hx218_0, hl218_0, hi218_0⟩ := at_T53 HR0.out x4_1 p218 q218
           obtain rfl : ad217 = ad218 := (by injection e218)
           replace hx218_0 := bc HB.out hx218_0
           have HR218_0 := ak hi218_0
           have HC218_0 := ak hl218_0
           clear hi218_0 hl218_0
           replace p218 := eq_true p218
           replace q218 := eq_true q218
           have ea_ := Option.some.inj (hx217_0.symm.trans hx218_0)
           injection ea_ with ea_ en_ ec_
           subst ea_
           subst ec_
           clear en_
           go_wp2_with (first | ((with_reducible refine gate_builtin (b := .append) (xs := #[.tmp 39, .tmp 44]) rfl ?_); (try (refine gate_guard (by rfl) ?_; dsimp only)); at_builtin; refine Kd.R_append_rows k65 (w0 := w) w.heap.size rfl (.tmp 39) (.tmp 44) 36 65 (.agg #[(.string ⟨#[]⟩), (.int .i64 0)]) 24 rfl Try.underlying36 info65 rfl (by decide) (by omega) (.slice Ao13 x3_1.length co13) x3_1 ((rd_T53 l0 x4_1).f0) _ _ _ (fun _ => True) (fun _ => False) rfl rfl ?aO ?aR (fun _ _ h => h) (fun _ h => h.elim) ?aF ?aB ?aS ?aL ?_; (case aR => repeat (first | exact (Kd.C_below HR218_0.out HB.out) | (with_reducible refine Kd.C_alloc ?_ _) | (with_reducible refine Kd.C_drewN ?_ _) | (with_reducible refine Kd.C_drew ?_))); (case aB => exact (by exact hopb HB.out)); (case aF => exact (fun _ _ => trivial)); (case aO => exact (by (with_reducible repeat (first | apply Kd.R_alloc | apply Kd.R_drewN | apply Kd.R_drew)); exact HO_3.out)); (case aS => exact (below_size (by exact hopb HB.out))); (case aL => have := LMc12.out; omega); intro v220 w14 ho hb hg hat; rw [← Ny219.out] at ho; replace HB := ak (hb); have HO221 := ak (ho); clear HO_3; clear ho hb hg hat))
           go_roundg k1
           case measure => have := HK1.out; omega
           case rel => exact ⟨(y219), (wrap64 (x4_1 + 1)), (by first | rfl | (simp [*]; done)), H', ⟨by have := HK1.out; omega⟩, ⟨by (with_reducible repeat (first | apply Kd.R_alloc | apply Kd.R_drewN | apply Kd.R_drew)); exact HO221.out⟩, ⟨by exact hopb HB.out⟩⟩
          ·rw [if_neg c12] at H
           exact absurd H (by simp)
      ·rw [if_neg c7] at H
       have c7b0 : decide ((((rd_T53 l0 x4_1).f0).length : Int) < 2) = false := decide_eq_false c7
       have c7b1 : decide (((rd_T53 l0 x4_1).f0).length < 2) = false := decide_eq_false (by omega)
       clear c7
       by_cases c15 : (x3_1.length : Int) > 48
       ·rw [if_pos c15] at H
        have c15b0 : decide (48 < (x3_1.length : Int)) = true := decide_eq_true c15
        have c15b1 : decide (48 < x3_1.length) = true := decide_eq_true (by omega)
        clear c15
        obtain rfl := Option.some.inj H
        have p217 : 0 ≤ (x4_1 : Int) := of_decide_eq_true (by assumption)
        have q217 : x4_1 < (l0.length : Int) := of_decide_eq_true (by assumption)
        obtain ⟨ad217, A217_0, c217_0, e217, hx217_0, hl217_0, hi217_0⟩ := at_T53 HR0.out x4_1 p217 q217
        cases e217
        replace hx217_0 := bc HB.out hx217_0
        have HR217_0 := ak hi217_0
        have HC217_0 := ak hl217_0
        clear hi217_0 hl217_0
        replace p217 := eq_true p217
        replace q217 := eq_true q217
        obtain ⟨Ao16, co16, eo16⟩ := Kd.R_slice HO_3.out
        subst eo16
        go_wp2
        go_ret
        exact ⟨by first | rfl | (simp [*, errW_none, errW_some] <;> rfl), by exact hopb HB.out⟩
       ·rw [if_neg c15] at H
        have c15b0 : decide (48 < (x3_1.length : Int)) = false := decide_eq_false c15
        have c15b1 : decide (48 < x3_1.length) = false := decide_eq_false (by omega)
        clear c15
        by_cases c17 : x3_1.length + ((rd_T53 l0 x4_1).f0).length < 5864062014805
        ·rw [if_pos c17] at H
         have LMc17 := ak c17
         clear c17
         obtain ⟨y223, hy223⟩ : ∃ y_ : List (S65), y_ = (x3_1 ++ ((rd_T53 l0 x4_1).f0)) := ⟨_, rfl⟩
         replace H : (spec_PagesValid.l0 k1 l0 y223 (wrap64 (x4_1 + 1))) = some r := by first | (rw [hy223]; exact H) | exact H
         have Ny223 := ak hy223
         clear hy223
         have H' := ak H
         clear H
         have p217 : 0 ≤ (x4_1 : Int) := of_decide_eq_true (by assumption)
         have q217 : x4_1 < (l0.length : Int) := of_decide_eq_true (by assumption)
         obtain ⟨ad217, A217_0, c217_0, e217, hx217_0, hl217_0, hi217_0⟩ := at_T53 HR0.out x4_1 p217 q217
         cases e217
         replace hx217_0 := bc HB.out hx217_0
         have HR217_0 := ak hi217_0
         have HC217_0 := ak hl217_0
         clear hi217_0 hl217_0
         replace p217 := eq_true p217
         replace q217 := eq_true q217
         obtain ⟨Ao18, co18, eo18⟩ := Kd.R_slice HO_3.out
         subst eo18
         have p222 : 0 ≤ (x4_1 : Int) := of_decide_eq_true (by assumption)
         have q222 : x4_1 < (l0.length : Int) := of_decide_eq_true (by assumption)
         obtain ⟨ad222, A222_0, c222_0, e222, hx222_0, hl222_0, hi222_0⟩ := at_T53 HR0.out x4_1 p222 q222
         obtain rfl : ad217 = ad222 := (by injection e222)
         replace hx222_0 := bc HB.out hx222_0
         have HR222_0 := ak hi222_0
         have HC222_0 := ak hl222_0
         clear hi222_0 hl222_0
         replace p222 := eq_true p222
         replace q222 := eq_true q222
         have ea_ := Option.some.inj (hx217_0.symm.trans hx222_0)
         injection ea_ with ea_ en_ ec_
         subst ea_
         subst ec_
         clear en_
         go_wp2_with (first | ((with_reducible refine gate_builtin (b := .append) (xs := #[.tmp 39, .tmp 44]) rfl ?_); (try (refine gate_guard (by rfl) ?_; dsimp only)); at_builtin; refine Kd.R_append_rows k65 (w0 := w) w.heap.size rfl (.tmp 39) (.tmp 44) 36 65 (.agg #[(.string ⟨#[]⟩), (.int .i64 0)]) 24 rfl Try.underlying36 info65 rfl (by decide) (by omega) (.slice Ao18 x3_1.length co18) x3_1 ((rd_T53 l0 x4_1).f0) _ _ _ (fun _ => True) (fun _ => False) rfl rfl ?aO ?aR (fun _ _ h => h) (fun _ h => h.elim) ?aF ?aB ?aS ?aL ?_; (case aR => repeat (first | exact (Kd.C_below HR222_0.out HB.out) | (with_reducible refine Kd.C_alloc ?_ _) | (with_reducible refine Kd.C_drewN ?_ _) | (with_reducible refine Kd.C_drew ?_))); (case aB => exact (by exact hopb HB.out)); (case aF => exact (fun _ _ => trivial)); (case aO => exact (by (with_reducible repeat (first | apply Kd.R_alloc | apply Kd.R_drewN | apply Kd.R_drew)); exact HO_3.out)); (case aS => exact (below_size (by exact hopb HB.out))); (case aL => have := LMc17.out; omega); intro v224 w19 ho hb hg hat; rw [← Ny223.out] at ho; replace HB := ak (hb); have HO225 := ak (ho); clear HO_3; clear ho hb hg hat))
         go_roundg k1
         case measure => have := HK1.out; omega
         case rel => exact ⟨(y223), (wrap64 (x4_1 + 1)), (by first | rfl | (simp [*]; done)), H', ⟨by have := HK1.out; omega⟩, ⟨by (with_reducible repeat (first | apply Kd.R_alloc | apply Kd.R_drewN | apply Kd.R_drew)); exact HO225.out⟩, ⟨by exact hopb HB.out⟩⟩
        ·rw [if_neg c17] at H
         exact absurd H (by simp)
    ·rw [if_neg c5] at H
     exact absurd H (by simp)
   ·rw [if_neg c4] at H
    have c4b0 : decide (x4_1 < (l0.length : Int)) = false := decide_eq_false c4
    clear c4
    replace H := Option.bind_eq_some_iff.mp H
    obtain ⟨t226, A200, H⟩ := H
    try dsimp only at H
    have A20 := ak A200
    clear A200
    obtain rfl := Option.some.inj H
    obtain ⟨Ao21, co21, eo21⟩ := Kd.R_slice HO_3.out
    subst eo21
    go_wp2_with (first | ((with_reducible refine gate_callee (f := 54) rfl ?_); refine goesL_ (some 47) rfl rfl Try.func54 (by kernel_rfl) rfl #[.slice Ao21 x3_1.length co21] rfl (by (try simp only [List.map_toArray, List.map_cons, List.map_nil]); first | done | rfl | (simp only [List.length_drop, List.length_take]; rfl)) ?_; (with_reducible refine (spec_PairsValid.calls k1 _ _ x3_1 t226 _ ?side1 ?side2 A20.out).mono ?_); (case side1 => repeat (first | exact (Kd.R_reads' HO_3.out).2.2 | (with_reducible refine Kd.C_alloc ?_ _) | (with_reducible refine Kd.C_drewN ?_ _) | (with_reducible refine Kd.C_drew ?_))); (case side2 => exact (Kd.R_reads' HO_3.out).2.1); rintro e w22 ⟨rfl, hb⟩; refine ⟨_, rfl, ?_⟩; replace HO_3 := ak (Kd.R_below (by (with_reducible repeat (first | apply Kd.R_alloc | apply Kd.R_drewN | apply Kd.R_drew)); exact HO_3.out) hb); replace HB := ak (below_step (by exact hopb HB.out) hb); (try clear hb)))
    go_ret
    exact ⟨by first | rfl | (simp [*, errW_none, errW_some] <;> rfl), by exact hopb HB.out⟩

/-! ### spec_l6Copy: function 25 -/
def spec_l6Copy.l0 : Nat → List (S53) → List (S53) → Int → Option ((List (S53)))
 | 0, _, _, _ => none
 | k + 1, x0, x3, x4 => if x4 < (x0.length : Int) then ((some (([] : List (S65)) : List (S65))).bind fun y230 => (if 0 ≤ x4 then (if y230.length + ((rd_T53 x0 x4).f0).length < 5864062014805 then (if x3.length < 5864062014805 then (spec_l6Copy.l0 k x0 (x3 ++ [(⟨(y230 ++ ((rd_T53 x0 x4).f0))⟩ : S53)]) (wrap64 (x4 + 1))) else (none)) else (none)) else (none))) else (some x3)
def spec_l6Copy.f (k : Nat) (l0 : List (S53)) : Option ((List (S53))) := spec_l6Copy.l0 k l0 (([] : List (S53))) 0
theorem spec_l6Copy.mono_l : ∀ k, (∀ y0 y1 y2, LeO (spec_l6Copy.l0 k y0 y1 y2) (spec_l6Copy.l0 (k + 1) y0 y1 y2))
 | 0 => fun _ _ _ r h => by simp [spec_l6Copy.l0] at h
 | k + 1 => by
  have ih0 := spec_l6Copy.mono_l k
  ·intro y0 y1 y2
   unfold spec_l6Copy.l0
   repeat' first
   | (with_reducible exact ih0 _ _ _)
   | (with_reducible exact LeO.refl _)
   | (with_reducible exact LeO.none _)
   | (with_reducible refine LeO.ite ?_ ?_)
   | (with_reducible refine LeO.bind ?_ (fun _ => ?_))
   | exact ih0 _ _ _
   | exact LeO.none _
   | refine LeO.ite ?_ ?_
   | refine LeO.bind ?_ (fun _ => ?_)
theorem spec_l6Copy.mono : ∀ a0 k, LeO (spec_l6Copy.f k a0) (spec_l6Copy.f (k + 1) a0) := by
 intro a0 k
 have ih0 := spec_l6Copy.mono_l k
 unfold spec_l6Copy.f
 repeat' first
   | (with_reducible exact ih0 _ _ _)
   | (with_reducible exact LeO.refl _)
   | (with_reducible exact LeO.none _)
   | (with_reducible refine LeO.ite ?_ ?_)
   | (with_reducible refine LeO.bind ?_ (fun _ => ?_))
   | exact ih0 _ _ _
   | exact LeO.none _
   | refine LeO.ite ?_ ?_
   | refine LeO.bind ?_ (fun _ => ?_)
theorem spec_l6Copy.calls (k : Nat) (A0 : Option Addr) (c0 : Nat) (l0 : List (S53)) (r : List (S53)) (w : World) (hr0 : Kd.C k53 w A0 l0.length l0) (hc0 : l0.length ≤ c0) (h : spec_l6Copy.f k l0 = some r) :
  Calls Try.prog 25 #[.slice A0 l0.length c0] w fun e w' => ∃ v0_ : Value, e = .returned (v0_) ∧ Kd.S k53 53 w' w.heap.size (fun _ => True) v0_ r ∧ Below w.heap.size w w' := by
 have hu53 := Try.underlying53
 have HR0 := ak hr0
 have HC0 := ak hc0
 clear hr0 hc0
 have HB := ak (Below.refl w.heap.size w)
 have H : (spec_l6Copy.l0 k l0 (([] : List (S53))) 0) = some r := h
 clear h
 obtain ⟨y227, hy227⟩ : ∃ y_ : List (S53), y_ = (([] : List (S53))) := ⟨_, rfl⟩
 replace H : (spec_l6Copy.l0 k l0 y227 0) = some r := by first | (rw [hy227]; exact H) | exact H
 have Ny227 := ak hy227
 clear hy227
 have H' := ak H
 clear H
 go_enter Try.func25, Try.ntmps25
 go_wp2_with (first | ((with_reducible refine gate_dst (N := 5) rfl ?_); refine Kd.S_lit k53 _ 53 ?hg (N := 5) ?hd (xs := ([] : List (S53))) (inner := []) (ok := fun _ => True) (okp := fun _ => True) ?hr ?hp (fun _ hk => hk) trivial (Below.refl _ _) (Nat.le_refl _) (by simp) ?_; (case hd => rfl); (case hg => rfl); (case hr => first | (go_simp; done) | (go_simp; rfl)); (case hp => exact (Reps.none _ _)); intro v228 w2 ho3 hb hg_ hnew_; clear hg_ hnew_; (first | rw [← Ny227.out] at ho3 | (simp only [Int.reduceToNat] at ho3; rw [← Ny227.out] at ho3)); have HO229 := ak (Kd.S_lower ho3 (below_size (by exact hopb HB.out))); replace HB := ak (below_step (by exact hopb HB.out) hb); clear hb ho3))
 go_loopg [3, 4] k (fun kq v3 v4 w' => ∃ (x3_1 : List (S53)) (x4_1 : Int), v4 = .int .i64 x4_1 ∧ Aside0 (spec_l6Copy.l0 kq l0 x3_1 x4_1 = some r) ∧ Aside0 (kq ≤ k) ∧ Aside0 (Kd.S k53 53 w' w.heap.size (fun _ => True) v3 x3_1) ∧ Aside0 (Below w.heap.size w w'))
 case atStart => exact ⟨(y227), (0), (by first | rfl | (simp [*]; done)), H', ⟨Nat.le_refl _⟩, ⟨by (with_reducible repeat (first | apply Kd.S_alloc | apply Kd.S_drewN | apply Kd.S_drew)); exact HO229.out⟩, ⟨by exact hopb HB.out⟩⟩
 case round =>
  clear H'
  try clear c2
  try clear p2
  obtain ⟨x3_1, x4_1, rfl, HA, HK1, HO_3, HB⟩ := hrel
  cases gk with
  | zero => exact absurd HA.out (by simp [spec_l6Copy.l0])
  | succ k1 =>
   have H := HA.out
   clear HA
   simp only [spec_l6Copy.l0] at H
   by_cases c4 : x4_1 < (l0.length : Int)
   ·rw [if_pos c4] at H
    have c4b0 : decide (x4_1 < (l0.length : Int)) = true := decide_eq_true c4
    clear c4
    obtain ⟨y230, hy230⟩ : ∃ y_ : List (S65), y_ = (([] : List (S65))) := ⟨_, rfl⟩
    replace H : (if 0 ≤ x4_1 then (if y230.length + ((rd_T53 l0 x4_1).f0).length < 5864062014805 then (if x3_1.length < 5864062014805 then (spec_l6Copy.l0 k1 l0 (x3_1 ++ [(⟨(y230 ++ ((rd_T53 l0 x4_1).f0))⟩ : S53)]) (wrap64 (x4_1 + 1))) else (none)) else (none)) else (none)) = some r := by first | (rw [hy230]; exact H) | exact H
    have Ny230 := ak hy230
    clear hy230
    by_cases c5 : 0 ≤ x4_1
    ·rw [if_pos c5] at H
     have c5b0 : decide (0 ≤ x4_1) = true := decide_eq_true c5
     clear c5
     by_cases c6 : y230.length + ((rd_T53 l0 x4_1).f0).length < 5864062014805
     ·rw [if_pos c6] at H
      have LMc6 := ak c6
      clear c6
      obtain ⟨y234, hy234⟩ : ∃ y_ : List (S65), y_ = (y230 ++ ((rd_T53 l0 x4_1).f0)) := ⟨_, rfl⟩
      replace H : (if x3_1.length < 5864062014805 then (spec_l6Copy.l0 k1 l0 (x3_1 ++ [(⟨y234⟩ : S53)]) (wrap64 (x4_1 + 1))) else (none)) = some r := by first | (rw [hy234]; exact H) | exact H
      have Ny234 := ak hy234
      clear hy234
      by_cases c7 : x3_1.length < 5864062014805
      ·rw [if_pos c7] at H
       have LMc7 := ak c7
       clear c7
       obtain ⟨y237, hy237⟩ : ∃ y_ : List (S53), y_ = (x3_1 ++ [(⟨y234⟩ : S53)]) := ⟨_, rfl⟩
       replace H : (spec_l6Copy.l0 k1 l0 y237 (wrap64 (x4_1 + 1))) = some r := by first | (rw [hy237]; exact H) | exact H
       have Ny237 := ak hy237
       clear hy237
       have H' := ak H
       clear H
       go_wp2_with (first | ((with_reducible refine gate_dst (N := 13) rfl ?_); refine Kd.R_lit k65 _ 65 ?hg (N := 13) ?hd (xs := ([] : List (S65))) (inner := []) (ok := fun _ => True) (okp := fun _ => True) ?hr ?hp (fun _ hk => hk) trivial (Below.refl _ _) (Nat.le_refl _) (by simp) ?_; (case hd => rfl); (case hg => rfl); (case hr => first | (go_simp; done) | (go_simp; rfl)); (case hp => exact (Reps.none _ _)); intro v231 w8 ho9 hb hg_ hnew_; clear hg_ hnew_; (first | rw [← Ny230.out] at ho9 | (simp only [Int.reduceToNat] at ho9; rw [← Ny230.out] at ho9)); replace HO_3 := ak (Kd.S_elder' (by (with_reducible repeat (first | apply Kd.S_alloc | apply Kd.S_drewN | apply Kd.S_drew)); exact HO_3.out) (Kd.R_base ho9) hb); have HO232 := ak (Kd.R_lower ho9 (below_size (by exact hopb HB.out))); replace HB := ak (below_step (by exact hopb HB.out) hb); clear hb ho9; have p233 : 0 ≤ (x4_1 : Int) := of_decide_eq_true (by assumption); have q233 : x4_1 < (l0.length : Int) := of_decide_eq_true (by assumption); obtain ⟨ad233, A233_0, c233_0, e233, hx233_0, hl233_0, hi233_0⟩ := at_T53 HR0.out x4_1 p233 q233; cases e233; replace hx233_0 := (HB.out.cell (World.block_lt_of_cell? w _ hx233_0)).trans hx233_0; have HR233_0 := ak hi233_0; have HC233_0 := ak hl233_0; clear hi233_0 hl233_0; replace p233 := eq_true p233; replace q233 := eq_true q233) | ((with_reducible refine gate_builtin (b := .append) (xs := #[.tmp 13, .tmp 18]) rfl ?_); at_builtin; refine Kd.R_append_rows k65 (w0 := w) w.heap.size rfl (.tmp 13) (.tmp 18) 36 65 (.agg #[(.string ⟨#[]⟩), (.int .i64 0)]) 24 rfl Try.underlying36 info65 rfl (by decide) (by omega) v231 y230 ((rd_T53 l0 x4_1).f0) _ _ _ (fun _ => True) (fun _ => False) rfl rfl ?aO ?aR (fun _ _ h => h) (fun _ h => h.elim) ?aF ?aB ?aS ?aL ?_; (case aR => repeat (first | exact (Kd.C_below HR233_0.out HB.out) | (with_reducible refine Kd.C_alloc ?_ _) | (with_reducible refine Kd.C_drewN ?_ _) | (with_reducible refine Kd.C_drew ?_))); (case aB => exact (by exact hopb HB.out)); (case aF => exact (fun _ _ => trivial)); (case aO => exact (by (with_reducible repeat (first | apply Kd.R_alloc | apply Kd.R_drewN | apply Kd.R_drew)); exact HO232.out)); (case aS => exact (below_size (by exact hopb HB.out))); (case aL => have := LMc6.out; omega); intro v235 w10 ho hb hg hat; rw [← Ny234.out] at ho; replace HO_3 := ak (Kd.S_after (ok := (fun _ => True)) (by (with_reducible repeat (first | apply Kd.S_alloc | apply Kd.S_drewN | apply Kd.S_drew)); exact HO_3.out) hg hat); replace HB := ak (hb); have HO236 := ak (ho); clear HO232; clear ho hb hg hat; obtain ⟨Ao11, co11, eo11⟩ := Kd.R_slice HO236.out; subst eo11) | ((with_reducible refine gate_builtin (b := .append) (xs := #[.tmp 12, .tmp 21]) rfl ?_); at_builtin; refine Kd.S_append k53 (w0 := w) w.heap.size rfl (.tmp 12) (.tmp 21) 24 53 (.agg #[(.slice none 0 0)]) 24 rfl Try.underlying24 info53 rfl (by decide) (by omega) u3 x3_1 (⟨y234⟩ : S53) [.slice Ao11 y234.length co11] (fun _ => True) (fun k_ => some k_ = (.slice Ao11 y234.length co11 : Value).ownBlock) rfl rfl ?aP (fun k_ hk_ => ((Kd.R_mono (ok' := fun k_ => ((fun _ => True)) k_ ∧ some k_ ≠ (u3 : Value).ownBlock) (Kd.R_apart' (HO236.out) (Kd.S_typed HO_3.out) (by decide)) (fun k_ hk => ⟨trivial, hk.2⟩))).1 k_ hk_.symm) ?aF ?aO ?aB ?aS ?aL ?_; (case aP => exact k53_mkM _ _ _ (⟨y234⟩ : S53) (Kd.R_mono (Kd.R_tight rfl (Kd.R_mono (ok' := fun k_ => ((fun _ => True)) k_ ∧ some k_ ≠ (u3 : Value).ownBlock) (Kd.R_apart' (HO236.out) (Kd.S_typed HO_3.out) (by decide)) (fun k_ hk => ⟨trivial, hk.2⟩))) (fun _ h_ => h_))); (case aB => exact (by exact hopb HB.out)); (case aF => exact (fun _ _ => trivial)); (case aO => exact (by (with_reducible repeat (first | apply Kd.S_alloc | apply Kd.S_drewN | apply Kd.S_drew)); exact Kd.S_mono HO_3.out (fun k_ hk => ⟨trivial, fun e_ => hk.2 e_⟩))); (case aS => exact (below_size (by exact hopb HB.out))); (case aL => have := LMc7.out; omega); intro v238 w12 ho hb hg hat; rw [← Ny237.out] at ho; replace HB := ak (hb); have HO239 := ak (ho); clear HO_3 HO236; clear ho hb hg hat))
       go_roundg k1
       case measure => have := HK1.out; omega
       case rel => exact ⟨(y237), (wrap64 (x4_1 + 1)), (by first | rfl | (simp [*]; done)), H', ⟨by have := HK1.out; omega⟩, ⟨by (with_reducible repeat (first | apply Kd.S_alloc | apply Kd.S_drewN | apply Kd.S_drew)); exact HO239.out⟩, ⟨by exact hopb HB.out⟩⟩
      ·rw [if_neg c7] at H
       exact absurd H (by simp)
     ·rw [if_neg c6] at H
      exact absurd H (by simp)
    ·rw [if_neg c5] at H
     exact absurd H (by simp)
   ·rw [if_neg c4] at H
    have c4b0 : decide (x4_1 < (l0.length : Int)) = false := decide_eq_false c4
    clear c4
    obtain rfl := Option.some.inj H
    go_wp2
    go_ret
    exact ⟨_, by first | rfl | (simp [*, errW_none, errW_some] <;> rfl), by (with_reducible repeat (first | apply Kd.S_alloc | apply Kd.S_drewN | apply Kd.S_drew)); exact HO_3.out, by exact hopb HB.out⟩

/-! ### spec_PageFind: function 26 -/
mutual
def spec_PageFind.j0 : Nat → List (S53) → ByteArray → Bool → Option (Int)
 | 0, _, _, _ => none
 | k + 1, x0, x1, x19 => if x19 = true then (some (-1)) else (spec_PageFind.l0 k x0 x1 0 1)
def spec_PageFind.l0 : Nat → List (S53) → ByteArray → Int → Int → Option (Int)
 | 0, _, _, _, _ => none
 | k + 1, x0, x1, x5, x6 => if x6 < (x0.length : Int) then (if 0 ≤ x6 then (if 0 < (((rd_T53 x0 x6).f0).length : Int) then (if (Op.bytesLess (((rd_T65 ((rd_T53 x0 x6).f0) 0).f0).toList) x1.toList) = true then (spec_PageFind.l0 k x0 x1 x6 (wrap64 (x6 + 1))) else (if ((rd_T65 ((rd_T53 x0 x6).f0) 0).f0).toList = x1.toList then (spec_PageFind.l0 k x0 x1 x6 (wrap64 (x6 + 1))) else (spec_PageFind.l0 k x0 x1 x5 (wrap64 (x6 + 1))))) else (none)) else (none)) else (some x5)
end
def spec_PageFind.f (k : Nat) (l0 : List (S53)) (a1 : ByteArray) : Option (Int) := (spec_PagesValid.f k l0).bind fun t240 => (if t240 = true then ((spec_KeyValid.f k a1).bind fun t241 => (if t241 = true then (spec_PageFind.j0 k l0 a1 ((l0.length : Int) == 0)) else (spec_PageFind.j0 k l0 a1 true))) else (spec_PageFind.j0 k l0 a1 true))
theorem spec_PageFind.mono_l : ∀ k, (∀ y0 y1 y2, LeO (spec_PageFind.j0 k y0 y1 y2) (spec_PageFind.j0 (k + 1) y0 y1 y2)) ∧ (∀ y0 y1 y2 y3, LeO (spec_PageFind.l0 k y0 y1 y2 y3) (spec_PageFind.l0 (k + 1) y0 y1 y2 y3))
 | 0 => ⟨fun _ _ _ r h => by simp [spec_PageFind.j0] at h, fun _ _ _ _ r h => by simp [spec_PageFind.l0] at h⟩
 | k + 1 => by
  obtain ⟨ih0, ih1⟩ := spec_PageFind.mono_l k
  refine ⟨?_, ?_⟩
  ·intro y0 y1 y2
   unfold spec_PageFind.j0
   repeat' first
   | (with_reducible exact ih0 _ _ _)
   | (with_reducible exact ih1 _ _ _ _)
   | (with_reducible exact spec_KeyValid.mono _ _)
   | (with_reducible exact spec_PagesValid.mono _ _)
   | (with_reducible exact LeO.refl _)
   | (with_reducible exact LeO.none _)
   | (with_reducible refine LeO.ite ?_ ?_)
   | (with_reducible refine LeO.bind ?_ (fun _ => ?_))
   | exact ih0 _ _ _
   | exact ih1 _ _ _ _
   | exact LeO.none _
   | refine LeO.ite ?_ ?_
   | refine LeO.bind ?_ (fun _ => ?_)
  ·intro y0 y1 y2 y3
   unfold spec_PageFind.l0
   repeat' first
   | (with_reducible exact ih0 _ _ _)
   | (with_reducible exact ih1 _ _ _ _)
   | (with_reducible exact spec_KeyValid.mono _ _)
   | (with_reducible exact spec_PagesValid.mono _ _)
   | (with_reducible exact LeO.refl _)
   | (with_reducible exact LeO.none _)
   | (with_reducible refine LeO.ite ?_ ?_)
   | (with_reducible refine LeO.bind ?_ (fun _ => ?_))
   | exact ih0 _ _ _
   | exact ih1 _ _ _ _
   | exact LeO.none _
   | refine LeO.ite ?_ ?_
   | refine LeO.bind ?_ (fun _ => ?_)
theorem spec_PageFind.mono : ∀ a0 a1 k, LeO (spec_PageFind.f k a0 a1) (spec_PageFind.f (k + 1) a0 a1) := by
 intro a0 a1 k
 obtain ⟨ih0, ih1⟩ := spec_PageFind.mono_l k
 unfold spec_PageFind.f
 repeat' first
   | (with_reducible exact ih0 _ _ _)
   | (with_reducible exact ih1 _ _ _ _)
   | (with_reducible exact spec_KeyValid.mono _ _)
   | (with_reducible exact spec_PagesValid.mono _ _)
   | (with_reducible exact LeO.refl _)
   | (with_reducible exact LeO.none _)
   | (with_reducible refine LeO.ite ?_ ?_)
   | (with_reducible refine LeO.bind ?_ (fun _ => ?_))
   | exact ih0 _ _ _
   | exact ih1 _ _ _ _
   | exact LeO.none _
   | refine LeO.ite ?_ ?_
   | refine LeO.bind ?_ (fun _ => ?_)
theorem spec_PageFind.calls (k : Nat) (A0 : Option Addr) (c0 : Nat) (l0 : List (S53)) (a1 : ByteArray) (r : Int) (w : World) (hr0 : Kd.C k53 w A0 l0.length l0) (hc0 : l0.length ≤ c0) (h : spec_PageFind.f k l0 a1 = some r) :
  Calls Try.prog 26 #[.slice A0 l0.length c0, .string a1] w fun e w' => e = .returned (.int .i64 r) ∧ Below w.heap.size w w' := by
 have HR0 := ak hr0
 have HC0 := ak hc0
 clear hr0 hc0
 have HB := ak (Below.refl w.heap.size w)
 have H : ((spec_PagesValid.f k l0).bind fun t240 => (if t240 = true then ((spec_KeyValid.f k a1).bind fun t241 => (if t241 = true then (spec_PageFind.j0 k l0 a1 ((l0.length : Int) == 0)) else (spec_PageFind.j0 k l0 a1 true))) else (spec_PageFind.j0 k l0 a1 true))) = some r := h
 clear h
 have HC3 := ak H
 clear H
 go_enter Try.func26, Try.ntmps26
 go_upto_region 1 with (fail)
 go_cut [19] (fun v19 wc => ∃ (kq : Nat) (x19_2 : Bool), v19 = .bool x19_2 ∧ Aside0 (spec_PageFind.j0 kq l0 a1 x19_2 = some r) ∧ Aside0 (kq ≤ k) ∧ Aside0 (Below w.heap.size w wc))
 case first =>
  have H := HC3.out
  clear HC3
  replace H := Option.bind_eq_some_iff.mp H
  obtain ⟨t240, A40, H⟩ := H
  try dsimp only at H
  have A4 := ak A40
  clear A40
  by_cases c5 : t240 = true
  ·subst c5
   rw [if_pos rfl] at H
   replace H := Option.bind_eq_some_iff.mp H
   obtain ⟨t241, A60, H⟩ := H
   try dsimp only at H
   have A6 := ak A60
   clear A60
   by_cases c7 : t241 = true
   ·subst c7
    rw [if_pos rfl] at H
    have H' := ak H
    clear H
    go_wp2_with (first | ((with_reducible refine gate_callee (f := 23) rfl ?_); refine goesL_ (some 8) rfl rfl Try.func23 (by kernel_rfl) rfl #[.slice A0 l0.length c0] rfl (by (try simp only [List.map_toArray, List.map_cons, List.map_nil]); first | done | rfl | (simp only [List.length_drop, List.length_take]; rfl)) ?_; (with_reducible refine (spec_PagesValid.calls k _ _ l0 true _ ?side1 ?side2 A4.out).mono ?_); (case side1 => repeat (first | exact (Kd.C_below HR0.out HB.out) | (with_reducible refine Kd.C_alloc ?_ _) | (with_reducible refine Kd.C_drewN ?_ _) | (with_reducible refine Kd.C_drew ?_))); (case side2 => exact HC0.out); rintro e w8 ⟨rfl, hb⟩; refine ⟨_, rfl, ?_⟩; replace HB := ak (below_step (by exact hopb HB.out) hb); (try clear hb)) | (go_at_call 24; (with_reducible refine (spec_KeyValid.calls k a1 true _ A6.out).mono ?_); rintro e w' ⟨rfl, ⟨nd, rfl⟩⟩))
    go_meet
    case rel => exact ⟨_, (((l0.length : Int) == 0)), (by first | rfl | (simp [*]; done)), H', ⟨by first | omega | exact Nat.le_refl _⟩, ⟨by exact hopb HB.out⟩⟩
   ·replace c7 := Bool.eq_false_iff.mpr c7
    subst c7
    rw [if_neg (show ¬ (false = true) by decide)] at H
    have H' := ak H
    clear H
    go_wp2_with (first | ((with_reducible refine gate_callee (f := 23) rfl ?_); refine goesL_ (some 8) rfl rfl Try.func23 (by kernel_rfl) rfl #[.slice A0 l0.length c0] rfl (by (try simp only [List.map_toArray, List.map_cons, List.map_nil]); first | done | rfl | (simp only [List.length_drop, List.length_take]; rfl)) ?_; (with_reducible refine (spec_PagesValid.calls k _ _ l0 true _ ?side1 ?side2 A4.out).mono ?_); (case side1 => repeat (first | exact (Kd.C_below HR0.out HB.out) | (with_reducible refine Kd.C_alloc ?_ _) | (with_reducible refine Kd.C_drewN ?_ _) | (with_reducible refine Kd.C_drew ?_))); (case side2 => exact HC0.out); rintro e w9 ⟨rfl, hb⟩; refine ⟨_, rfl, ?_⟩; replace HB := ak (below_step (by exact hopb HB.out) hb); (try clear hb)) | (go_at_call 24; (with_reducible refine (spec_KeyValid.calls k a1 false _ A6.out).mono ?_); rintro e w' ⟨rfl, ⟨nd, rfl⟩⟩))
    go_meet
    case rel => exact ⟨_, (true), (by first | rfl | (simp [*]; done)), H', ⟨by first | omega | exact Nat.le_refl _⟩, ⟨by exact hopb HB.out⟩⟩
  ·replace c5 := Bool.eq_false_iff.mpr c5
   subst c5
   rw [if_neg (show ¬ (false = true) by decide)] at H
   have H' := ak H
   clear H
   go_wp2_with (first | ((with_reducible refine gate_callee (f := 23) rfl ?_); refine goesL_ (some 8) rfl rfl Try.func23 (by kernel_rfl) rfl #[.slice A0 l0.length c0] rfl (by (try simp only [List.map_toArray, List.map_cons, List.map_nil]); first | done | rfl | (simp only [List.length_drop, List.length_take]; rfl)) ?_; (with_reducible refine (spec_PagesValid.calls k _ _ l0 false _ ?side1 ?side2 A4.out).mono ?_); (case side1 => repeat (first | exact (Kd.C_below HR0.out HB.out) | (with_reducible refine Kd.C_alloc ?_ _) | (with_reducible refine Kd.C_drewN ?_ _) | (with_reducible refine Kd.C_drew ?_))); (case side2 => exact HC0.out); rintro e w10 ⟨rfl, hb⟩; refine ⟨_, rfl, ?_⟩; replace HB := ak (below_step (by exact hopb HB.out) hb); (try clear hb)))
   go_meet
   case rel => exact ⟨_, (true), (by first | rfl | (simp [*]; done)), H', ⟨by first | omega | exact Nat.le_refl _⟩, ⟨by exact hopb HB.out⟩⟩
 case rest =>
  clear HC3
  try clear c2
  try clear p2
  try clear c5
  try clear c7
  obtain ⟨kq, x19_2, rfl, HA, HJ2, HB⟩ := hcut
  cases kq with
  | zero => exact absurd HA.out (by simp [spec_PageFind.j0])
  | succ kj2 =>
   have H := HA.out
   clear HA
   simp only [spec_PageFind.j0] at H
   by_cases c11 : x19_2 = true
   ·subst c11
    rw [if_pos rfl] at H
    obtain rfl := Option.some.inj H
    go_wp2
    go_ret
    exact ⟨by first | rfl | (simp [*, errW_none, errW_some] <;> rfl), by exact hopb HB.out⟩
   ·replace c11 := Bool.eq_false_iff.mpr c11
    subst c11
    rw [if_neg (show ¬ (false = true) by decide)] at H
    have H' := ak H
    clear H
    go_wp2
    go_loopg [5, 6] kj2 (fun kq v5 v6 w' => ∃ (x5_2 : Int) (x6_2 : Int), v5 = .int .i64 x5_2 ∧ v6 = .int .i64 x6_2 ∧ Aside0 (spec_PageFind.l0 kq l0 a1 x5_2 x6_2 = some r) ∧ Aside0 (kq ≤ kj2) ∧ Aside0 (Below w.heap.size w w'))
    case atStart => exact ⟨(0), (1), (by first | rfl | (simp [*]; done)), (by first | rfl | (simp [*]; done)), H', ⟨Nat.le_refl _⟩, ⟨by exact hopb HB.out⟩⟩
    case round =>
     clear H'
     try clear c1
     try clear c2
     try clear p2
     try clear c5
     try clear c7
     try clear c11
     try clear p2
     obtain ⟨x5_2, x6_2, rfl, rfl, HA, HK2, HB⟩ := hrel
     cases gk with
     | zero => exact absurd HA.out (by simp [spec_PageFind.l0])
     | succ k2 =>
      have H := HA.out
      clear HA
      simp only [spec_PageFind.l0] at H
      by_cases c12 : x6_2 < (l0.length : Int)
      ·rw [if_pos c12] at H
       have c12b0 : decide (x6_2 < (l0.length : Int)) = true := decide_eq_true c12
       clear c12
       by_cases c13 : 0 ≤ x6_2
       ·rw [if_pos c13] at H
        have c13b0 : decide (0 ≤ x6_2) = true := decide_eq_true c13
        clear c13
        by_cases c14 : 0 < (((rd_T53 l0 x6_2).f0).length : Int)
        ·rw [if_pos c14] at H
         have c14b0 : decide (0 < (((rd_T53 l0 x6_2).f0).length : Int)) = true := decide_eq_true c14
         have c14b1 : decide (0 < ((rd_T53 l0 x6_2).f0).length) = true := decide_eq_true (by omega)
         clear c14
         by_cases c15 : (Op.bytesLess (((rd_T65 ((rd_T53 l0 x6_2).f0) 0).f0).toList) a1.toList) = true
         ·rw [if_pos c15] at H
          have c15b0 : (Op.bytesLess (((rd_T65 ((rd_T53 l0 x6_2).f0) 0).f0).toList) a1.toList) = true := c15
          clear c15
          have H' := ak H
          clear H
          have p242 : 0 ≤ (x6_2 : Int) := of_decide_eq_true (by assumption)
          have q242 : x6_2 < (l0.length : Int) := of_decide_eq_true (by assumption)
          obtain ⟨ad242, A242_0, c242_0, e242, hx242_0, hl242_0, hi242_0⟩ := at_T53 HR0.out x6_2 p242 q242
          cases e242
          replace hx242_0 := bc HB.out hx242_0
          have HR242_0 := ak hi242_0
          have HC242_0 := ak hl242_0
          clear hi242_0 hl242_0
          replace p242 := eq_true p242
          replace q242 := eq_true q242
          have p243 : 0 ≤ (0 : Int) := (by omega)
          have q243 : 0 < (((rd_T53 l0 x6_2).f0).length : Int) := of_decide_eq_true (by assumption)
          obtain ⟨ad243, e243, hx243_0, hx243_1⟩ := at_T65 HR242_0.out 0 p243 q243
          cases e243
          have qi243 : (0 < ((rd_T53 l0 x6_2).f0).length) = True := eq_true (by omega)
          (try rw [show ((0 : Int)).toNat = 0 from rfl] at hx243_0)
          (try rw [show 0 * 2 = 0 from rfl] at hx243_0)
          (try rw [Addr.add_zero'] at hx243_0)
          (try rw [show ((0 : Int)).toNat = 0 from rfl] at hx243_1)
          (try rw [show 0 * 2 = 0 from rfl] at hx243_1)
          (try rw [Addr.add_zero'] at hx243_1)
          replace hx243_0 := bc HB.out hx243_0
          replace hx243_1 := bc HB.out hx243_1
          replace p243 := eq_true p243
          replace q243 := eq_true q243
          go_wp2
          go_roundg k2
          case measure => have := HJ2.out; have := HK2.out; omega
          case rel => exact ⟨(x6_2), (wrap64 (x6_2 + 1)), (by first | rfl | (simp [*]; done)), (by first | rfl | (simp [*]; done)), H', ⟨by have := HJ2.out; have := HK2.out; omega⟩, ⟨by exact hopb HB.out⟩⟩
         ·rw [if_neg c15] at H
          have c15b0 : (Op.bytesLess (((rd_T65 ((rd_T53 l0 x6_2).f0) 0).f0).toList) a1.toList) = false := by simpa using c15
          clear c15
          by_cases c16 : ((rd_T65 ((rd_T53 l0 x6_2).f0) 0).f0).toList = a1.toList
          ·rw [if_pos c16] at H
           have c16b0 : (((rd_T65 ((rd_T53 l0 x6_2).f0) 0).f0).toList == a1.toList) = true := beq_iff_eq.mpr c16
           have c16b1 : (((rd_T65 ((rd_T53 l0 x6_2).f0) 0).f0).toList != a1.toList) = false := bne_eq_false_iff_eq.mpr c16
           clear c16
           have H' := ak H
           clear H
           have p242 : 0 ≤ (x6_2 : Int) := of_decide_eq_true (by assumption)
           have q242 : x6_2 < (l0.length : Int) := of_decide_eq_true (by assumption)
           obtain ⟨ad242, A242_0, c242_0, e242, hx242_0, hl242_0, hi242_0⟩ := at_T53 HR0.out x6_2 p242 q242
           cases e242
           replace hx242_0 := bc HB.out hx242_0
           have HR242_0 := ak hi242_0
           have HC242_0 := ak hl242_0
           clear hi242_0 hl242_0
           replace p242 := eq_true p242
           replace q242 := eq_true q242
           have p243 : 0 ≤ (0 : Int) := (by omega)
           have q243 : 0 < (((rd_T53 l0 x6_2).f0).length : Int) := of_decide_eq_true (by assumption)
           obtain ⟨ad243, e243, hx243_0, hx243_1⟩ := at_T65 HR242_0.out 0 p243 q243
           cases e243
           have qi243 : (0 < ((rd_T53 l0 x6_2).f0).length) = True := eq_true (by omega)
           (try rw [show ((0 : Int)).toNat = 0 from rfl] at hx243_0)
           (try rw [show 0 * 2 = 0 from rfl] at hx243_0)
           (try rw [Addr.add_zero'] at hx243_0)
           (try rw [show ((0 : Int)).toNat = 0 from rfl] at hx243_1)
           (try rw [show 0 * 2 = 0 from rfl] at hx243_1)
           (try rw [Addr.add_zero'] at hx243_1)
           replace hx243_0 := bc HB.out hx243_0
           replace hx243_1 := bc HB.out hx243_1
           replace p243 := eq_true p243
           replace q243 := eq_true q243
           go_wp2
           go_roundg k2
           case measure => have := HJ2.out; have := HK2.out; omega
           case rel => exact ⟨(x6_2), (wrap64 (x6_2 + 1)), (by first | rfl | (simp [*]; done)), (by first | rfl | (simp [*]; done)), H', ⟨by have := HJ2.out; have := HK2.out; omega⟩, ⟨by exact hopb HB.out⟩⟩
          ·rw [if_neg c16] at H
           have c16b0 : (((rd_T65 ((rd_T53 l0 x6_2).f0) 0).f0).toList == a1.toList) = false := beq_eq_false_iff_ne.mpr c16
           have c16b1 : (((rd_T65 ((rd_T53 l0 x6_2).f0) 0).f0).toList != a1.toList) = true := bne_iff_ne.mpr c16
           have H' := ak H
           clear H
           have p242 : 0 ≤ (x6_2 : Int) := of_decide_eq_true (by assumption)
           have q242 : x6_2 < (l0.length : Int) := of_decide_eq_true (by assumption)
           obtain ⟨ad242, A242_0, c242_0, e242, hx242_0, hl242_0, hi242_0⟩ := at_T53 HR0.out x6_2 p242 q242
           cases e242
           replace hx242_0 := bc HB.out hx242_0
           have HR242_0 := ak hi242_0
           have HC242_0 := ak hl242_0
           clear hi242_0 hl242_0
           replace p242 := eq_true p242
           replace q242 := eq_true q242
           have p243 : 0 ≤ (0 : Int) := (by omega)
           have q243 : 0 < (((rd_T53 l0 x6_2).f0).length : Int) := of_decide_eq_true (by assumption)
           obtain ⟨ad243, e243, hx243_0, hx243_1⟩ := at_T65 HR242_0.out 0 p243 q243
           cases e243
           have qi243 : (0 < ((rd_T53 l0 x6_2).f0).length) = True := eq_true (by omega)
           (try rw [show ((0 : Int)).toNat = 0 from rfl] at hx243_0)
           (try rw [show 0 * 2 = 0 from rfl] at hx243_0)
           (try rw [Addr.add_zero'] at hx243_0)
           (try rw [show ((0 : Int)).toNat = 0 from rfl] at hx243_1)
           (try rw [show 0 * 2 = 0 from rfl] at hx243_1)
           (try rw [Addr.add_zero'] at hx243_1)
           replace hx243_0 := bc HB.out hx243_0
           replace hx243_1 := bc HB.out hx243_1
           replace p243 := eq_true p243
           replace q243 := eq_true q243
           go_wp2
           go_roundg k2
           case measure => have := HJ2.out; have := HK2.out; omega
           case rel => exact ⟨(x5_2), (wrap64 (x6_2 + 1)), (by first | rfl | (simp [*]; done)), (by first | rfl | (simp [*]; done)), H', ⟨by have := HJ2.out; have := HK2.out; omega⟩, ⟨by exact hopb HB.out⟩⟩
        ·rw [if_neg c14] at H
         exact absurd H (by simp)
       ·rw [if_neg c13] at H
        exact absurd H (by simp)
      ·rw [if_neg c12] at H
       have c12b0 : decide (x6_2 < (l0.length : Int)) = false := decide_eq_false c12
       clear c12
       obtain rfl := Option.some.inj H
       go_wp2
       go_ret
       exact ⟨by first | rfl | (simp [*, errW_none, errW_some] <;> rfl), by exact hopb HB.out⟩

/-! ### spec_PagesList: function 41 -/
def spec_PagesList.l0 : Nat → List (S53) → List (S65) → Int → Option ((List (S65)))
 | 0, _, _, _ => none
 | k + 1, x0, x3, x4 => if x4 < (x0.length : Int) then ((spec_PagesValid.f k x0).bind fun t247 => (if t247 = true then (if 0 ≤ x4 then (if x3.length + ((rd_T53 x0 x4).f0).length < 5864062014805 then (spec_PagesList.l0 k x0 (x3 ++ ((rd_T53 x0 x4).f0)) (wrap64 (x4 + 1))) else (none)) else (none)) else (some x3))) else (some x3)
def spec_PagesList.f (k : Nat) (l0 : List (S53)) : Option ((List (S65))) := spec_PagesList.l0 k l0 (([] : List (S65))) 0
theorem spec_PagesList.mono_l : ∀ k, (∀ y0 y1 y2, LeO (spec_PagesList.l0 k y0 y1 y2) (spec_PagesList.l0 (k + 1) y0 y1 y2))
 | 0 => fun _ _ _ r h => by simp [spec_PagesList.l0] at h
 | k + 1 => by
  have ih0 := spec_PagesList.mono_l k
  ·intro y0 y1 y2
   unfold spec_PagesList.l0
   repeat' first
   | (with_reducible exact ih0 _ _ _)
   | (with_reducible exact spec_PagesValid.mono _ _)
   | (with_reducible exact LeO.refl _)
   | (with_reducible exact LeO.none _)
   | (with_reducible refine LeO.ite ?_ ?_)
   | (with_reducible refine LeO.bind ?_ (fun _ => ?_))
   | exact ih0 _ _ _
   | exact LeO.none _
   | refine LeO.ite ?_ ?_
   | refine LeO.bind ?_ (fun _ => ?_)
theorem spec_PagesList.mono : ∀ a0 k, LeO (spec_PagesList.f k a0) (spec_PagesList.f (k + 1) a0) := by
 intro a0 k
 have ih0 := spec_PagesList.mono_l k
 unfold spec_PagesList.f
 repeat' first
   | (with_reducible exact ih0 _ _ _)
   | (with_reducible exact spec_PagesValid.mono _ _)
   | (with_reducible exact LeO.refl _)
   | (with_reducible exact LeO.none _)
   | (with_reducible refine LeO.ite ?_ ?_)
   | (with_reducible refine LeO.bind ?_ (fun _ => ?_))
   | exact ih0 _ _ _
   | exact LeO.none _
   | refine LeO.ite ?_ ?_
   | refine LeO.bind ?_ (fun _ => ?_)
theorem spec_PagesList.calls (k : Nat) (A0 : Option Addr) (c0 : Nat) (l0 : List (S53)) (r : List (S65)) (w : World) (hr0 : Kd.C k53 w A0 l0.length l0) (hc0 : l0.length ≤ c0) (h : spec_PagesList.f k l0 = some r) :
  Calls Try.prog 41 #[.slice A0 l0.length c0] w fun e w' => ∃ v0_ : Value, e = .returned (v0_) ∧ Kd.R k65 65 w' w.heap.size (fun _ => True) v0_ r ∧ Below w.heap.size w w' := by
 have HR0 := ak hr0
 have HC0 := ak hc0
 clear hr0 hc0
 have HB := ak (Below.refl w.heap.size w)
 have H : (spec_PagesList.l0 k l0 (([] : List (S65))) 0) = some r := h
 clear h
 obtain ⟨y244, hy244⟩ : ∃ y_ : List (S65), y_ = (([] : List (S65))) := ⟨_, rfl⟩
 replace H : (spec_PagesList.l0 k l0 y244 0) = some r := by first | (rw [hy244]; exact H) | exact H
 have Ny244 := ak hy244
 clear hy244
 have H' := ak H
 clear H
 go_enter Try.func41, Try.ntmps41
 go_wp2_with (first | ((with_reducible refine gate_dst (N := 5) rfl ?_); refine Kd.R_lit k65 _ 65 ?hg (N := 5) ?hd (xs := ([] : List (S65))) (inner := []) (ok := fun _ => True) (okp := fun _ => True) ?hr ?hp (fun _ hk => hk) trivial (Below.refl _ _) (Nat.le_refl _) (by simp) ?_; (case hd => rfl); (case hg => rfl); (case hr => first | (go_simp; done) | (go_simp; rfl)); (case hp => exact (Reps.none _ _)); intro v245 w2 ho3 hb hg_ hnew_; clear hg_ hnew_; (first | rw [← Ny244.out] at ho3 | (simp only [Int.reduceToNat] at ho3; rw [← Ny244.out] at ho3)); have HO246 := ak (Kd.R_lower ho3 (below_size (by exact hopb HB.out))); replace HB := ak (below_step (by exact hopb HB.out) hb); clear hb ho3))
 go_loopg [3, 4] k (fun kq v3 v4 w' => ∃ (x3_1 : List (S65)) (x4_1 : Int), v4 = .int .i64 x4_1 ∧ Aside0 (spec_PagesList.l0 kq l0 x3_1 x4_1 = some r) ∧ Aside0 (kq ≤ k) ∧ Aside0 (Kd.R k65 65 w' w.heap.size (fun _ => True) v3 x3_1) ∧ Aside0 (Below w.heap.size w w'))
 case atStart => exact ⟨(y244), (0), (by first | rfl | (simp [*]; done)), H', ⟨Nat.le_refl _⟩, ⟨by (with_reducible repeat (first | apply Kd.R_alloc | apply Kd.R_drewN | apply Kd.R_drew)); exact HO246.out⟩, ⟨by exact hopb HB.out⟩⟩
 case round =>
  clear H'
  try clear p2
  obtain ⟨x3_1, x4_1, rfl, HA, HK1, HO_3, HB⟩ := hrel
  cases gk with
  | zero => exact absurd HA.out (by simp [spec_PagesList.l0])
  | succ k1 =>
   have H := HA.out
   clear HA
   simp only [spec_PagesList.l0] at H
   by_cases c4 : x4_1 < (l0.length : Int)
   ·rw [if_pos c4] at H
    have c4b0 : decide (x4_1 < (l0.length : Int)) = true := decide_eq_true c4
    clear c4
    replace H := Option.bind_eq_some_iff.mp H
    obtain ⟨t247, A50, H⟩ := H
    try dsimp only at H
    have A5 := ak A50
    clear A50
    by_cases c6 : t247 = true
    ·subst c6
     rw [if_pos rfl] at H
     by_cases c7 : 0 ≤ x4_1
     ·rw [if_pos c7] at H
      have c7b0 : decide (0 ≤ x4_1) = true := decide_eq_true c7
      clear c7
      by_cases c8 : x3_1.length + ((rd_T53 l0 x4_1).f0).length < 5864062014805
      ·rw [if_pos c8] at H
       have LMc8 := ak c8
       clear c8
       obtain ⟨y249, hy249⟩ : ∃ y_ : List (S65), y_ = (x3_1 ++ ((rd_T53 l0 x4_1).f0)) := ⟨_, rfl⟩
       replace H : (spec_PagesList.l0 k1 l0 y249 (wrap64 (x4_1 + 1))) = some r := by first | (rw [hy249]; exact H) | exact H
       have Ny249 := ak hy249
       clear hy249
       have H' := ak H
       clear H
       go_wp2_with (first | (go_at_call 23; (with_reducible refine (spec_PagesValid.calls k1 _ _ l0 true _ ?side1 ?side2 A5.out).mono ?_); (case side1 => repeat (first | exact (Kd.C_below HR0.out HB.out) | (with_reducible refine Kd.C_alloc ?_ _) | (with_reducible refine Kd.C_drewN ?_ _) | (with_reducible refine Kd.C_drew ?_))); (case side2 => exact HC0.out); rintro e w9 ⟨rfl, hb⟩; replace HO_3 := ak (Kd.R_below (by (with_reducible repeat (first | apply Kd.R_alloc | apply Kd.R_drewN | apply Kd.R_drew)); exact HO_3.out) hb); replace HB := ak (below_step (by exact hopb HB.out) hb); (try clear hb); have p248 : 0 ≤ (x4_1 : Int) := of_decide_eq_true (by assumption); have q248 : x4_1 < (l0.length : Int) := of_decide_eq_true (by assumption); obtain ⟨ad248, A248_0, c248_0, e248, hx248_0, hl248_0, hi248_0⟩ := at_T53 HR0.out x4_1 p248 q248; cases e248; replace hx248_0 := (HB.out.cell (World.block_lt_of_cell? w _ hx248_0)).trans hx248_0; have HR248_0 := ak hi248_0; have HC248_0 := ak hl248_0; clear hi248_0 hl248_0; replace p248 := eq_true p248; replace q248 := eq_true q248) | ((with_reducible refine gate_builtin (b := .append) (xs := #[.tmp 16, .tmp 21]) rfl ?_); at_builtin; refine Kd.R_append_rows k65 (w0 := w) w.heap.size rfl (.tmp 16) (.tmp 21) 36 65 (.agg #[(.string ⟨#[]⟩), (.int .i64 0)]) 24 rfl Try.underlying36 info65 rfl (by decide) (by omega) u3 x3_1 ((rd_T53 l0 x4_1).f0) _ _ _ (fun _ => True) (fun _ => False) rfl rfl ?aO ?aR (fun _ _ h => h) (fun _ h => h.elim) ?aF ?aB ?aS ?aL ?_; (case aR => repeat (first | exact (Kd.C_below HR248_0.out HB.out) | (with_reducible refine Kd.C_alloc ?_ _) | (with_reducible refine Kd.C_drewN ?_ _) | (with_reducible refine Kd.C_drew ?_))); (case aB => exact (by exact hopb HB.out)); (case aF => exact (fun _ _ => trivial)); (case aO => exact (by (with_reducible repeat (first | apply Kd.R_alloc | apply Kd.R_drewN | apply Kd.R_drew)); exact HO_3.out)); (case aS => exact (below_size (by exact hopb HB.out))); (case aL => have := LMc8.out; omega); intro v250 w10 ho hb hg hat; rw [← Ny249.out] at ho; replace HB := ak (hb); have HO251 := ak (ho); clear HO_3; clear ho hb hg hat))
       go_roundg k1
       case measure => have := HK1.out; omega
       case rel => exact ⟨(y249), (wrap64 (x4_1 + 1)), (by first | rfl | (simp [*]; done)), H', ⟨by have := HK1.out; omega⟩, ⟨by (with_reducible repeat (first | apply Kd.R_alloc | apply Kd.R_drewN | apply Kd.R_drew)); exact HO251.out⟩, ⟨by exact hopb HB.out⟩⟩
      ·rw [if_neg c8] at H
       exact absurd H (by simp)
     ·rw [if_neg c7] at H
      exact absurd H (by simp)
    ·replace c6 := Bool.eq_false_iff.mpr c6
     subst c6
     rw [if_neg (show ¬ (false = true) by decide)] at H
     obtain rfl := Option.some.inj H
     go_wp2_with (first | (go_at_call 23; (with_reducible refine (spec_PagesValid.calls k1 _ _ l0 false _ ?side1 ?side2 A5.out).mono ?_); (case side1 => repeat (first | exact (Kd.C_below HR0.out HB.out) | (with_reducible refine Kd.C_alloc ?_ _) | (with_reducible refine Kd.C_drewN ?_ _) | (with_reducible refine Kd.C_drew ?_))); (case side2 => exact HC0.out); rintro e w11 ⟨rfl, hb⟩; replace HO_3 := ak (Kd.R_below (by (with_reducible repeat (first | apply Kd.R_alloc | apply Kd.R_drewN | apply Kd.R_drew)); exact HO_3.out) hb); replace HB := ak (below_step (by exact hopb HB.out) hb); (try clear hb)))
     go_ret
     exact ⟨_, by first | rfl | (simp [*, errW_none, errW_some] <;> rfl), by (with_reducible repeat (first | apply Kd.R_alloc | apply Kd.R_drewN | apply Kd.R_drew)); exact HO_3.out, by exact hopb HB.out⟩
   ·rw [if_neg c4] at H
    have c4b0 : decide (x4_1 < (l0.length : Int)) = false := decide_eq_false c4
    clear c4
    obtain rfl := Option.some.inj H
    go_wp2
    go_ret
    exact ⟨_, by first | rfl | (simp [*, errW_none, errW_some] <;> rfl), by (with_reducible repeat (first | apply Kd.R_alloc | apply Kd.R_drewN | apply Kd.R_drew)); exact HO_3.out, by exact hopb HB.out⟩

end Go.Proofs.Ytengnnhehjcfhaa.PFnExactPagesPut
