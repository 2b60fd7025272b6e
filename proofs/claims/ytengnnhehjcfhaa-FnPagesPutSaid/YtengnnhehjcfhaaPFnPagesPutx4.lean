-- Written for this claim by a program of this session (wip/myprint in the proofs' repo)
import Derived.Test.YtengnnhehjcfhaaPFnPagesPutx0
import Derived.Test.YtengnnhehjcfhaaPFnPagesPutx2
import Derived.Test.YtengnnhehjcfhaaPFnPagesPutx3
import Derived.Test.YtengnnhehjcfhaaWZip
-- slim4
namespace Go.Proofs.Ytengnnhehjcfhaa.PFnPagesPut
open Go.RowKit Go.Proofs.YtengnnhehjcfhaaW.PrintWords Go.Proofs.YtengnnhehjcfhaaW.PrintLast Go.Proofs.YtengnnhehjcfhaaW.PrintMore
attribute [local go_sem] max2_int min2_int max_two min_two max_three min_three max_four min_four max2_strs min2_strs   -- for this text's walks alone
set_option linter.unusedVariables false
set_option linter.unusedSimpArgs false
set_option maxHeartbeats 8000000
set_option maxRecDepth 100000

/-! ### spec_PagesValid: function 23 -/
def spec_PagesValid.l0 : Nat → List (S53) → List (S65) → Int → Option (Bool)
 | 0, _, _, _ => none
 | k + 1, x0, x3, x4 => if x4 < (x0.length : Int) then (if 0 ≤ x4 then (if (((rd_T53 x0 x4).f0).length : Int) > 4 then (some false) else (if (((rd_T53 x0 x4).f0).length : Int) < 2 then (if (x0.length : Int) > 1 then (some false) else (if (((rd_T53 x0 x4).f0).length : Int) < 1 then (some false) else (if (x3.length : Int) > 48 then (some false) else (if x3.length + ((rd_T53 x0 x4).f0).length < 5864062014805 then (spec_PagesValid.l0 k x0 (x3 ++ ((rd_T53 x0 x4).f0)) (wrap64 (x4 + 1))) else (none))))) else (if (x3.length : Int) > 48 then (some false) else (if x3.length + ((rd_T53 x0 x4).f0).length < 5864062014805 then (spec_PagesValid.l0 k x0 (x3 ++ ((rd_T53 x0 x4).f0)) (wrap64 (x4 + 1))) else (none))))) else (none)) else ((spec_PairsValid.f k x3).bind fun t123 => (some t123))
def spec_PagesValid.f (k : Nat) (l0 : List (S53)) : Option (Bool) := spec_PagesValid.l0 k l0 (([] : List (S65))) 0
theorem spec_PagesValid.mono_l : ∀ k, (∀ y0 y1 y2, LeO (spec_PagesValid.l0 k y0 y1 y2) (spec_PagesValid.l0 (k + 1) y0 y1 y2))
 | 0 => fun _ _ _ r h => by simp [spec_PagesValid.l0] at h
 | k + 1 => by
  have ih0 := spec_PagesValid.mono_l k
  ·intro y0 y1 y2
   unfold spec_PagesValid.l0
   repeat' first
   | (with_reducible exact ih0 _ _ _)
   | (with_reducible exact spec_PairsValid.mono _ _)
   | (with_reducible exact LeO.refl _)
   | (with_reducible exact LeO.none _)
   | (with_reducible refine LeO.ite ?_ ?_)
   | (with_reducible refine LeO.bind ?_ (fun _ => ?_))
   | exact ih0 _ _ _
   | exact LeO.none _
   | refine LeO.ite ?_ ?_
   | refine LeO.bind ?_ (fun _ => ?_)
theorem spec_PagesValid.mono : ∀ a0 k, LeO (spec_PagesValid.f k a0) (spec_PagesValid.f (k + 1) a0) := by
 intro a0 k
 have ih0 := spec_PagesValid.mono_l k
 unfold spec_PagesValid.f
 repeat' first
   | (with_reducible exact ih0 _ _ _)
   | (with_reducible exact spec_PairsValid.mono _ _)
   | (with_reducible exact LeO.refl _)
   | (with_reducible exact LeO.none _)
   | (with_reducible refine LeO.ite ?_ ?_)
   | (with_reducible refine LeO.bind ?_ (fun _ => ?_))
   | exact ih0 _ _ _
   | exact LeO.none _
   | refine LeO.ite ?_ ?_
   | refine LeO.bind ?_ (fun _ => ?_)
theorem spec_PagesValid.calls (k : Nat) (A0 : Option Addr) (c0 : Nat) (l0 : List (S53)) (r : Bool) (w : World) (hr0 : Kd.C k53 w A0 l0.length l0) (hc0 : l0.length ≤ c0) (h : spec_PagesValid.f k l0 = some r) :
  Calls Try.prog 23 #[.slice A0 l0.length c0] w fun e w' => e = .returned (.bool r) ∧ Below w.heap.size w w' := by
 have HR0 := ak hr0
 have HC0 := ak hc0
 clear hr0 hc0
 have HB := ak (Below.refl w.heap.size w)
 have H : (spec_PagesValid.l0 k l0 (([] : List (S65))) 0) = some r := h
 clear h
 obtain ⟨y111, hy111⟩ : ∃ y_ : List (S65), y_ = (([] : List (S65))) := ⟨_, rfl⟩
 replace H : (spec_PagesValid.l0 k l0 y111 0) = some r := by first | (rw [hy111]; exact H) | exact H
 have Ny111 := ak hy111
 clear hy111
 have H' := ak H
 clear H
 go_enter Try.func23, Try.ntmps23
 go_wp2_with (first | ((with_reducible refine gate_dst (N := 6) rfl ?_); (try (refine gate_guard (by rfl) ?_; dsimp only)); refine Kd.R_lit k65 _ 65 ?hg (N := 6) ?hd (xs := ([] : List (S65))) (inner := []) (ok := fun _ => True) (okp := fun _ => True) ?hr ?hp (fun _ hk => hk) trivial (Below.refl _ _) (Nat.le_refl _) (by simp) ?_; (case hd => rfl); (case hg => rfl); (case hr => go_simp <;> rfl); (case hp => exact (Reps.none _ _)); intro v112 w2 ho3 hb hg_ hnew_; clear hg_ hnew_; (first | rw [← Ny111.out] at ho3 | (simp only [Int.reduceToNat] at ho3; rw [← Ny111.out] at ho3)); have HO113 := ak (Kd.R_lower ho3 (below_size (by exact hopb HB.out))); replace HB := ak (below_step (by exact hopb HB.out) hb); clear hb ho3))
 go_loopg [3, 4] k (fun kq v3 v4 w' => ∃ (x3_1 : List (S65)) (x4_1 : Int), v4 = .int .i64 x4_1 ∧ Aside0 (spec_PagesValid.l0 kq l0 x3_1 x4_1 = some r) ∧ Aside0 (kq ≤ k) ∧ Aside0 (Kd.R k65 65 w' w.heap.size (fun _ => True) v3 x3_1) ∧ Aside0 (Below w.heap.size w w'))
 case atStart => exact ⟨(y111), (0), (by first | rfl | (simp [*]; done)), H', ⟨Nat.le_refl _⟩, ⟨by (with_reducible repeat (first | apply Kd.R_alloc | apply Kd.R_drewN | apply Kd.R_drew)); exact HO113.out⟩, ⟨by exact hopb HB.out⟩⟩
 case round =>
  clear H'
  try clear c2
  try clear p2
  obtain ⟨x3_1, x4_1, rfl, HA, HK1, HO_3, HB⟩ := hrel
  cases gk with
  | zero => exact absurd HA.out (by simp [spec_PagesValid.l0])
  | succ k1 =>
   have H := HA.out
   clear HA
   simp only [spec_PagesValid.l0] at H
   by_cases c4 : x4_1 < (l0.length : Int)
   ·rw [if_pos c4] at H
    have c4b0 : decide (x4_1 < (l0.length : Int)) = true := decide_eq_true c4
    clear c4
    by_cases c5 : 0 ≤ x4_1
    ·rw [if_pos c5] at H
     have c5b0 : decide (0 ≤ x4_1) = true := decide_eq_true c5
     clear c5
     by_cases c6 : (((rd_T53 l0 x4_1).f0).length : Int) > 4
     ·rw [if_pos c6] at H
      have c6b0 : decide (4 < (((rd_T53 l0 x4_1).f0).length : Int)) = true := decide_eq_true c6
      have c6b1 : decide (4 < ((rd_T53 l0 x4_1).f0).length) = true := decide_eq_true (by omega)
      clear c6
      obtain rfl := Option.some.inj H
      have p114 : 0 ≤ (x4_1 : Int) := of_decide_eq_true (by assumption)
      have q114 : x4_1 < (l0.length : Int) := of_decide_eq_true (by assumption)
      obtain ⟨ad114, A114_0, c114_0, e114, hx114_0, hl114_0, hi114_0⟩ := at_T53 HR0.out x4_1 p114 q114
      cases e114
      replace hx114_0 := bc HB.out hx114_0
      have HR114_0 := ak hi114_0
      have HC114_0 := ak hl114_0
      clear hi114_0 hl114_0
      replace p114 := eq_true p114
      replace q114 := eq_true q114
      go_wp2
      go_ret
      exact ⟨by first | rfl | (simp [*, errW_none, errW_some] <;> rfl), by exact hopb HB.out⟩
     ·rw [if_neg c6] at H
      have c6b0 : decide (4 < (((rd_T53 l0 x4_1).f0).length : Int)) = false := decide_eq_false c6
      have c6b1 : decide (4 < ((rd_T53 l0 x4_1).f0).length) = false := decide_eq_false (by omega)
      clear c6
      by_cases c7 : (((rd_T53 l0 x4_1).f0).length : Int) < 2
      ·rw [if_pos c7] at H
       have c7b0 : decide ((((rd_T53 l0 x4_1).f0).length : Int) < 2) = true := decide_eq_true c7
       have c7b1 : decide (((rd_T53 l0 x4_1).f0).length < 2) = true := decide_eq_true (by omega)
       clear c7
       by_cases c8 : (l0.length : Int) > 1
       ·rw [if_pos c8] at H
        have c8b0 : decide (1 < (l0.length : Int)) = true := decide_eq_true c8
        have c8b1 : decide (1 < l0.length) = true := decide_eq_true (by omega)
        clear c8
        obtain rfl := Option.some.inj H
        have p114 : 0 ≤ (x4_1 : Int) := of_decide_eq_true (by assumption)
        have q114 : x4_1 < (l0.length : Int) := of_decide_eq_true (by assumption)
        obtain ⟨ad114, A114_0, c114_0, e114, hx114_0, hl114_0, hi114_0⟩ := at_T53 HR0.out x4_1 p114 q114
        cases e114
        replace hx114_0 := bc HB.out hx114_0
        have HR114_0 := ak hi114_0
        have HC114_0 := ak hl114_0
        clear hi114_0 hl114_0
        replace p114 := eq_true p114
        replace q114 := eq_true q114
        go_wp2
        go_ret
        exact ⟨by first | rfl | (simp [*, errW_none, errW_some] <;> rfl), by exact hopb HB.out⟩
       ·rw [if_neg c8] at H
        have c8b0 : decide (1 < (l0.length : Int)) = false := decide_eq_false c8
        have c8b1 : decide (1 < l0.length) = false := decide_eq_false (by omega)
        clear c8
        by_cases c9 : (((rd_T53 l0 x4_1).f0).length : Int) < 1
        ·rw [if_pos c9] at H
         have c9b0 : decide ((((rd_T53 l0 x4_1).f0).length : Int) < 1) = true := decide_eq_true c9
         have c9b1 : decide (((rd_T53 l0 x4_1).f0).length < 1) = true := decide_eq_true (by omega)
         clear c9
         obtain rfl := Option.some.inj H
         have p114 : 0 ≤ (x4_1 : Int) := of_decide_eq_true (by assumption)
         have q114 : x4_1 < (l0.length : Int) := of_decide_eq_true (by assumption)
         obtain ⟨ad114, A114_0, c114_0, e114, hx114_0, hl114_0, hi114_0⟩ := at_T53 HR0.out x4_1 p114 q114
         cases e114
         replace hx114_0 := bc HB.out hx114_0
         have HR114_0 := ak hi114_0
         have HC114_0 := ak hl114_0
         clear hi114_0 hl114_0
         replace p114 := eq_true p114
         replace q114 := eq_true q114
         go_wp2
         go_ret
         exact ⟨by first | rfl | (simp [*, errW_none, errW_some] <;> rfl), by exact hopb HB.out⟩
        ·rw [if_neg c9] at H
         have c9b0 : decide ((((rd_T53 l0 x4_1).f0).length : Int) < 1) = false := decide_eq_false c9
         have c9b1 : decide (((rd_T53 l0 x4_1).f0).length < 1) = false := decide_eq_false (by omega)
         clear c9
         by_cases c10 : (x3_1.length : Int) > 48
         ·rw [if_pos c10] at H
          have c10b0 : decide (48 < (x3_1.length : Int)) = true := decide_eq_true c10
          have c10b1 : decide (48 < x3_1.length) = true := decide_eq_true (by omega)
          clear c10
          obtain rfl := Option.some.inj H
          have p114 : 0 ≤ (x4_1 : Int) := of_decide_eq_true (by assumption)
          have q114 : x4_1 < (l0.length : Int) := of_decide_eq_true (by assumption)
          obtain ⟨ad114, A114_0, c114_0, e114, hx114_0, hl114_0, hi114_0⟩ := at_T53 HR0.out x4_1 p114 q114
          cases e114
          replace hx114_0 := bc HB.out hx114_0
          have HR114_0 := ak hi114_0
          have HC114_0 := ak hl114_0
          clear hi114_0 hl114_0
          replace p114 := eq_true p114
          replace q114 := eq_true q114
          obtain ⟨Ao11, co11, eo11⟩ := Kd.R_slice HO_3.out
          subst eo11
          go_wp2
          go_ret
          exact ⟨by first | rfl | (simp [*, errW_none, errW_some] <;> rfl), by exact hopb HB.out⟩
         ·rw [if_neg c10] at H
          have c10b0 : decide (48 < (x3_1.length : Int)) = false := decide_eq_false c10
          have c10b1 : decide (48 < x3_1.length) = false := decide_eq_false (by omega)
          clear c10
          by_cases c12 : x3_1.length + ((rd_T53 l0 x4_1).f0).length < 5864062014805
          ·rw [if_pos c12] at H
           have LMc12 := ak c12
           clear c12
           obtain ⟨y116, hy116⟩ : ∃ y_ : List (S65), y_ = (x3_1 ++ ((rd_T53 l0 x4_1).f0)) := ⟨_, rfl⟩
           replace H : (spec_PagesValid.l0 k1 l0 y116 (wrap64 (x4_1 + 1))) = some r := by first | (rw [hy116]; exact H) | exact H
           have Ny116 := ak hy116
           clear hy116
           have H' := ak H
           clear H
           have p114 : 0 ≤ (x4_1 : Int) := of_decide_eq_true (by assumption)
           have q114 : x4_1 < (l0.length : Int) := of_decide_eq_true (by assumption)
           obtain ⟨ad114, A114_0, c114_0, e114, hx114_0, hl114_0, hi114_0⟩ := at_T53 HR0.out x4_1 p114 q114
           cases e114
           replace hx114_0 := bc HB.out hx114_0
           have HR114_0 := ak hi114_0
           have HC114_0 := ak hl114_0
           clear hi114_0 hl114_0
           replace p114 := eq_true p114
           replace q114 := eq_true q114
           obtain ⟨Ao13, co13, eo13⟩ := Kd.R_slice HO_3.out
           subst eo13
           have p115 : 0 ≤ (x4_1 : Int) := of_decide_eq_true (by assumption)
           have q115 : x4_1 < (l0.length : Int) := of_decide_eq_true (by assumption)
           obtain ⟨ad115, A115_0, c115_0, e115, hx115_0, hl115_0, hi115_0⟩ := at_T53 HR0.out x4_1 p115 q115
           obtain rfl : ad114 = ad115 := (by injection e115)
           replace hx115_0 := bc HB.out hx115_0
           have HR115_0 := ak hi115_0
           have HC115_0 := ak hl115_0
           clear hi115_0 hl115_0
           replace p115 := eq_true p115
           replace q115 := eq_true q115
           have ea_ := Option.some.inj (hx114_0.symm.trans hx115_0)
           injection ea_ with ea_ en_ ec_
           subst ea_
           subst ec_
           clear en_
           go_wp2_with (first | ((with_reducible refine gate_builtin (b := .append) (xs := #[.tmp 39, .tmp 44]) rfl ?_); (try (refine gate_guard (by rfl) ?_; dsimp only)); at_builtin; refine Kd.R_append_rows k65 (w0 := w) w.heap.size rfl (.tmp 39) (.tmp 44) 36 65 (.agg #[(.string ⟨#[]⟩), (.int .i64 0)]) 24 rfl Try.underlying36 info65 rfl (by decide) (by omega) (.slice Ao13 x3_1.length co13) x3_1 ((rd_T53 l0 x4_1).f0) _ _ _ (fun _ => True) (fun _ => False) rfl rfl ?aO ?aR (fun _ _ h => h) (fun _ h => h.elim) ?aF ?aB ?aS ?aL ?_; (case aR => exact hC (Kd.C_below HR115_0.out HB.out)); (case aB => exact (by exact hopb HB.out)); (case aF => exact (fun _ _ => trivial)); (case aO => exact (hR HO_3.out)); (case aS => exact (below_size (by exact hopb HB.out))); (case aL => have := LMc12.out; omega); intro v117 w14 ho hb hg hat; rw [← Ny116.out] at ho; replace HB := ak (hb); have HO118 := ak (ho); clear HO_3; clear ho hb hg hat))
           go_roundg k1
           case measure => have := HK1.out; omega
           case rel => exact ⟨(y116), (wrap64 (x4_1 + 1)), (by first | rfl | (simp [*]; done)), H', ⟨by have := HK1.out; omega⟩, ⟨by (with_reducible repeat (first | apply Kd.R_alloc | apply Kd.R_drewN | apply Kd.R_drew)); exact HO118.out⟩, ⟨by exact hopb HB.out⟩⟩
          ·rw [if_neg c12] at H
           exact absurd H (by simp)
      ·rw [if_neg c7] at H
       have c7b0 : decide ((((rd_T53 l0 x4_1).f0).length : Int) < 2) = false := decide_eq_false c7
       have c7b1 : decide (((rd_T53 l0 x4_1).f0).length < 2) = false := decide_eq_false (by omega)
       clear c7
       by_cases c15 : (x3_1.length : Int) > 48
       ·rw [if_pos c15] at H
        have c15b0 : decide (48 < (x3_1.length : Int)) = true := decide_eq_true c15
        have c15b1 : decide (48 < x3_1.length) = true := decide_eq_true (by omega)
        clear c15
        obtain rfl := Option.some.inj H
        have p114 : 0 ≤ (x4_1 : Int) := of_decide_eq_true (by assumption)
        have q114 : x4_1 < (l0.length : Int) := of_decide_eq_true (by assumption)
        obtain ⟨ad114, A114_0, c114_0, e114, hx114_0, hl114_0, hi114_0⟩ := at_T53 HR0.out x4_1 p114 q114
        cases e114
        replace hx114_0 := bc HB.out hx114_0
        have HR114_0 := ak hi114_0
        have HC114_0 := ak hl114_0
        clear hi114_0 hl114_0
        replace p114 := eq_true p114
        replace q114 := eq_true q114
        obtain ⟨Ao16, co16, eo16⟩ := Kd.R_slice HO_3.out
        subst eo16
        go_wp2
        go_ret
        exact ⟨by first | rfl | (simp [*, errW_none, errW_some] <;> rfl), by exact hopb HB.out⟩
       ·rw [if_neg c15] at H
        have c15b0 : decide (48 < (x3_1.length : Int)) = false := decide_eq_false c15
        have c15b1 : decide (48 < x3_1.length) = false := decide_eq_false (by omega)
        clear c15
        by_cases c17 : x3_1.length + ((rd_T53 l0 x4_1).f0).length < 5864062014805
        ·rw [if_pos c17] at H
         have LMc17 := ak c17
         clear c17
         obtain ⟨y120, hy120⟩ : ∃ y_ : List (S65), y_ = (x3_1 ++ ((rd_T53 l0 x4_1).f0)) := ⟨_, rfl⟩
         replace H : (spec_PagesValid.l0 k1 l0 y120 (wrap64 (x4_1 + 1))) = some r := by first | (rw [hy120]; exact H) | exact H
         have Ny120 := ak hy120
         clear hy120
         have H' := ak H
         clear H
         have p114 : 0 ≤ (x4_1 : Int) := of_decide_eq_true (by assumption)
         have q114 : x4_1 < (l0.length : Int) := of_decide_eq_true (by assumption)
         obtain ⟨ad114, A114_0, c114_0, e114, hx114_0, hl114_0, hi114_0⟩ := at_T53 HR0.out x4_1 p114 q114
         cases e114
         replace hx114_0 := bc HB.out hx114_0
         have HR114_0 := ak hi114_0
         have HC114_0 := ak hl114_0
         clear hi114_0 hl114_0
         replace p114 := eq_true p114
         replace q114 := eq_true q114
         obtain ⟨Ao18, co18, eo18⟩ := Kd.R_slice HO_3.out
         subst eo18
         have p119 : 0 ≤ (x4_1 : Int) := of_decide_eq_true (by assumption)
         have q119 : x4_1 < (l0.length : Int) := of_decide_eq_true (by assumption)
         obtain ⟨ad119, A119_0, c119_0, e119, hx119_0, hl119_0, hi119_0⟩ := at_T53 HR0.out x4_1 p119 q119
         obtain rfl : ad114 = ad119 := (by injection e119)
         replace hx119_0 := bc HB.out hx119_0
         have HR119_0 := ak hi119_0
         have HC119_0 := ak hl119_0
         clear hi119_0 hl119_0
         replace p119 := eq_true p119
         replace q119 := eq_true q119
         have ea_ := Option.some.inj (hx114_0.symm.trans hx119_0)
         injection ea_ with ea_ en_ ec_
         subst ea_
         subst ec_
         clear en_
         go_wp2_with (first | ((with_reducible refine gate_builtin (b := .append) (xs := #[.tmp 39, .tmp 44]) rfl ?_); (try (refine gate_guard (by rfl) ?_; dsimp only)); at_builtin; refine Kd.R_append_rows k65 (w0 := w) w.heap.size rfl (.tmp 39) (.tmp 44) 36 65 (.agg #[(.string ⟨#[]⟩), (.int .i64 0)]) 24 rfl Try.underlying36 info65 rfl (by decide) (by omega) (.slice Ao18 x3_1.length co18) x3_1 ((rd_T53 l0 x4_1).f0) _ _ _ (fun _ => True) (fun _ => False) rfl rfl ?aO ?aR (fun _ _ h => h) (fun _ h => h.elim) ?aF ?aB ?aS ?aL ?_; (case aR => exact hC (Kd.C_below HR119_0.out HB.out)); (case aB => exact (by exact hopb HB.out)); (case aF => exact (fun _ _ => trivial)); (case aO => exact (hR HO_3.out)); (case aS => exact (below_size (by exact hopb HB.out))); (case aL => have := LMc17.out; omega); intro v121 w19 ho hb hg hat; rw [← Ny120.out] at ho; replace HB := ak (hb); have HO122 := ak (ho); clear HO_3; clear ho hb hg hat))
         go_roundg k1
         case measure => have := HK1.out; omega
         case rel => exact ⟨(y120), (wrap64 (x4_1 + 1)), (by first | rfl | (simp [*]; done)), H', ⟨by have := HK1.out; omega⟩, ⟨by (with_reducible repeat (first | apply Kd.R_alloc | apply Kd.R_drewN | apply Kd.R_drew)); exact HO122.out⟩, ⟨by exact hopb HB.out⟩⟩
        ·rw [if_neg c17] at H
         exact absurd H (by simp)
    ·rw [if_neg c5] at H
     exact absurd H (by simp)
   ·rw [if_neg c4] at H
    have c4b0 : decide (x4_1 < (l0.length : Int)) = false := decide_eq_false c4
    clear c4
    replace H := Option.bind_eq_some_iff.mp H
    obtain ⟨t123, A200, H⟩ := H
    try dsimp only at H
    have A20 := ak A200
    clear A200
    obtain rfl := Option.some.inj H
    obtain ⟨Ao21, co21, eo21⟩ := Kd.R_slice HO_3.out
    subst eo21
    go_wp2_with (first | ((with_reducible refine gate_callee (f := 54) rfl ?_); refine gL (some 47) Try.func54 #[.slice Ao21 x3_1.length co21] ?_; (with_reducible refine (spec_PairsValid.calls k1 _ _ x3_1 t123 _ ?side1 ?side2 A20.out).mono ?_); (case side1 => exact hC (Kd.R_reads' HO_3.out).2.2); (case side2 => exact (Kd.R_reads' HO_3.out).2.1); rintro e w22 ⟨rfl, hb⟩; refine ⟨_, rfl, ?_⟩; replace HO_3 := ak (Kd.R_below (hR HO_3.out) hb); replace HB := ak (below_step (by exact hopb HB.out) hb); (try clear hb)))
    go_ret
    exact ⟨by first | rfl | (simp [*, errW_none, errW_some] <;> rfl), by exact hopb HB.out⟩

/-! ### spec_l6Copy: function 25 -/
def spec_l6Copy.l0 : Nat → List (S53) → List (S53) → Int → Option ((List (S53)))
 | 0, _, _, _ => none
 | k + 1, x0, x3, x4 => if x4 < (x0.length : Int) then ((some (([] : List (S65)) : List (S65))).bind fun y127 => (if 0 ≤ x4 then (if y127.length + ((rd_T53 x0 x4).f0).length < 5864062014805 then (if x3.length < 5864062014805 then (spec_l6Copy.l0 k x0 (x3 ++ [(⟨(y127 ++ ((rd_T53 x0 x4).f0))⟩ : S53)]) (wrap64 (x4 + 1))) else (none)) else (none)) else (none))) else (some x3)
def spec_l6Copy.f (k : Nat) (l0 : List (S53)) : Option ((List (S53))) := spec_l6Copy.l0 k l0 (([] : List (S53))) 0
theorem spec_l6Copy.mono_l : ∀ k, (∀ y0 y1 y2, LeO (spec_l6Copy.l0 k y0 y1 y2) (spec_l6Copy.l0 (k + 1) y0 y1 y2))
 | 0 => fun _ _ _ r h => by simp [spec_l6Copy.l0] at h
 | k + 1 => by
  have ih0 := spec_l6Copy.mono_l k
  ·intro y0 y1 y2
   unfold spec_l6Copy.l0
   repeat' first
   | (with_reducible exact ih0 _ _ _)
   | (with_reducible exact LeO.refl _)
   | (with_reducible exact LeO.none _)
   | (with_reducible refine LeO.ite ?_ ?_)
   | (with_reducible refine LeO.bind ?_ (fun _ => ?_))
   | exact ih0 _ _ _
   | exact LeO.none _
   | refine LeO.ite ?_ ?_
   | refine LeO.bind ?_ (fun _ => ?_)
theorem spec_l6Copy.mono : ∀ a0 k, LeO (spec_l6Copy.f k a0) (spec_l6Copy.f (k + 1) a0) := by
 intro a0 k
 have ih0 := spec_l6Copy.mono_l k
 unfold spec_l6Copy.f
 repeat' first
   | (with_reducible exact ih0 _ _ _)
   | (with_reducible exact LeO.refl _)
   | (with_reducible exact LeO.none _)
   | (with_reducible refine LeO.ite ?_ ?_)
   | (with_reducible refine LeO.bind ?_ (fun _ => ?_))
   | exact ih0 _ _ _
   | exact LeO.none _
   | refine LeO.ite ?_ ?_
   | refine LeO.bind ?_ (fun _ => ?_)
theorem spec_l6Copy.calls (k : Nat) (A0 : Option Addr) (c0 : Nat) (l0 : List (S53)) (r : List (S53)) (w : World) (hr0 : Kd.C k53 w A0 l0.length l0) (hc0 : l0.length ≤ c0) (h : spec_l6Copy.f k l0 = some r) :
  Calls Try.prog 25 #[.slice A0 l0.length c0] w fun e w' => ∃ v0_ : Value, e = .returned (v0_) ∧ Kd.S k53 53 w' w.heap.size (fun _ => True) v0_ r ∧ Below w.heap.size w w' := by
 have hu53 := Try.underlying53
 have HR0 := ak hr0
 have HC0 := ak hc0
 clear hr0 hc0
 have HB := ak (Below.refl w.heap.size w)
 have H : (spec_l6Copy.l0 k l0 (([] : List (S53))) 0) = some r := h
 clear h
 obtain ⟨y124, hy124⟩ : ∃ y_ : List (S53), y_ = (([] : List (S53))) := ⟨_, rfl⟩
 replace H : (spec_l6Copy.l0 k l0 y124 0) = some r := by first | (rw [hy124]; exact H) | exact H
 have Ny124 := ak hy124
 clear hy124
 have H' := ak H
 clear H
 go_enter Try.func25, Try.ntmps25
 go_wp2_with (first | ((with_reducible refine gate_dst (N := 5) rfl ?_); refine Kd.S_lit k53 _ 53 ?hg (N := 5) ?hd (xs := ([] : List (S53))) (inner := []) (ok := fun _ => True) (okp := fun _ => True) ?hr ?hp (fun _ hk => hk) trivial (Below.refl _ _) (Nat.le_refl _) (by simp) ?_; (case hd => rfl); (case hg => rfl); (case hr => go_simp <;> rfl); (case hp => exact (Reps.none _ _)); intro v125 w2 ho3 hb hg_ hnew_; clear hg_ hnew_; (first | rw [← Ny124.out] at ho3 | (simp only [Int.reduceToNat] at ho3; rw [← Ny124.out] at ho3)); have HO126 := ak (Kd.S_lower ho3 (below_size (by exact hopb HB.out))); replace HB := ak (below_step (by exact hopb HB.out) hb); clear hb ho3))
 go_loopg [3, 4] k (fun kq v3 v4 w' => ∃ (x3_1 : List (S53)) (x4_1 : Int), v4 = .int .i64 x4_1 ∧ Aside0 (spec_l6Copy.l0 kq l0 x3_1 x4_1 = some r) ∧ Aside0 (kq ≤ k) ∧ Aside0 (Kd.S k53 53 w' w.heap.size (fun _ => True) v3 x3_1) ∧ Aside0 (Below w.heap.size w w'))
 case atStart => exact ⟨(y124), (0), (by first | rfl | (simp [*]; done)), H', ⟨Nat.le_refl _⟩, ⟨by (with_reducible repeat (first | apply Kd.S_alloc | apply Kd.S_drewN | apply Kd.S_drew)); exact HO126.out⟩, ⟨by exact hopb HB.out⟩⟩
 case round =>
  clear H'
  try clear c2
  try clear p2
  obtain ⟨x3_1, x4_1, rfl, HA, HK1, HO_3, HB⟩ := hrel
  cases gk with
  | zero => exact absurd HA.out (by simp [spec_l6Copy.l0])
  | succ k1 =>
   have H := HA.out
   clear HA
   simp only [spec_l6Copy.l0] at H
   by_cases c4 : x4_1 < (l0.length : Int)
   ·rw [if_pos c4] at H
    have c4b0 : decide (x4_1 < (l0.length : Int)) = true := decide_eq_true c4
    clear c4
    obtain ⟨y127, hy127⟩ : ∃ y_ : List (S65), y_ = (([] : List (S65))) := ⟨_, rfl⟩
    replace H : (if 0 ≤ x4_1 then (if y127.length + ((rd_T53 l0 x4_1).f0).length < 5864062014805 then (if x3_1.length < 5864062014805 then (spec_l6Copy.l0 k1 l0 (x3_1 ++ [(⟨(y127 ++ ((rd_T53 l0 x4_1).f0))⟩ : S53)]) (wrap64 (x4_1 + 1))) else (none)) else (none)) else (none)) = some r := by first | (rw [hy127]; exact H) | exact H
    have Ny127 := ak hy127
    clear hy127
    by_cases c5 : 0 ≤ x4_1
    ·rw [if_pos c5] at H
     have c5b0 : decide (0 ≤ x4_1) = true := decide_eq_true c5
     clear c5
     by_cases c6 : y127.length + ((rd_T53 l0 x4_1).f0).length < 5864062014805
     ·rw [if_pos c6] at H
      have LMc6 := ak c6
      clear c6
      obtain ⟨y131, hy131⟩ : ∃ y_ : List (S65), y_ = (y127 ++ ((rd_T53 l0 x4_1).f0)) := ⟨_, rfl⟩
      replace H : (if x3_1.length < 5864062014805 then (spec_l6Copy.l0 k1 l0 (x3_1 ++ [(⟨y131⟩ : S53)]) (wrap64 (x4_1 + 1))) else (none)) = some r := by first | (rw [hy131]; exact H) | exact H
      have Ny131 := ak hy131
      clear hy131
      by_cases c7 : x3_1.length < 5864062014805
      ·rw [if_pos c7] at H
       have LMc7 := ak c7
       clear c7
       obtain ⟨y134, hy134⟩ : ∃ y_ : List (S53), y_ = (x3_1 ++ [(⟨y131⟩ : S53)]) := ⟨_, rfl⟩
       replace H : (spec_l6Copy.l0 k1 l0 y134 (wrap64 (x4_1 + 1))) = some r := by first | (rw [hy134]; exact H) | exact H
       have Ny134 := ak hy134
       clear hy134
       have H' := ak H
       clear H
       go_wp2_with (first | ((with_reducible refine gate_dst (N := 13) rfl ?_); refine Kd.R_lit k65 _ 65 ?hg (N := 13) ?hd (xs := ([] : List (S65))) (inner := []) (ok := fun _ => True) (okp := fun _ => True) ?hr ?hp (fun _ hk => hk) trivial (Below.refl _ _) (Nat.le_refl _) (by simp) ?_; (case hd => rfl); (case hg => rfl); (case hr => go_simp <;> rfl); (case hp => exact (Reps.none _ _)); intro v128 w8 ho9 hb hg_ hnew_; clear hg_ hnew_; (first | rw [← Ny127.out] at ho9 | (simp only [Int.reduceToNat] at ho9; rw [← Ny127.out] at ho9)); replace HO_3 := ak (Kd.S_elder' (hS HO_3.out) (Kd.R_base ho9) hb); have HO129 := ak (Kd.R_lower ho9 (below_size (by exact hopb HB.out))); replace HB := ak (below_step (by exact hopb HB.out) hb); clear hb ho9; have p130 : 0 ≤ (x4_1 : Int) := of_decide_eq_true (by assumption); have q130 : x4_1 < (l0.length : Int) := of_decide_eq_true (by assumption); obtain ⟨ad130, A130_0, c130_0, e130, hx130_0, hl130_0, hi130_0⟩ := at_T53 HR0.out x4_1 p130 q130; cases e130; replace hx130_0 := (HB.out.cell (World.block_lt_of_cell? w _ hx130_0)).trans hx130_0; have HR130_0 := ak hi130_0; have HC130_0 := ak hl130_0; clear hi130_0 hl130_0; replace p130 := eq_true p130; replace q130 := eq_true q130) | ((with_reducible refine gate_builtin (b := .append) (xs := #[.tmp 13, .tmp 18]) rfl ?_); at_builtin; refine Kd.R_append_rows k65 (w0 := w) w.heap.size rfl (.tmp 13) (.tmp 18) 36 65 (.agg #[(.string ⟨#[]⟩), (.int .i64 0)]) 24 rfl Try.underlying36 info65 rfl (by decide) (by omega) v128 y127 ((rd_T53 l0 x4_1).f0) _ _ _ (fun _ => True) (fun _ => False) rfl rfl ?aO ?aR (fun _ _ h => h) (fun _ h => h.elim) ?aF ?aB ?aS ?aL ?_; (case aR => exact hC (Kd.C_below HR130_0.out HB.out)); (case aB => exact (by exact hopb HB.out)); (case aF => exact (fun _ _ => trivial)); (case aO => exact (hR HO129.out)); (case aS => exact (below_size (by exact hopb HB.out))); (case aL => have := LMc6.out; omega); intro v132 w10 ho hb hg hat; rw [← Ny131.out] at ho; replace HO_3 := ak (Kd.S_after (ok := (fun _ => True)) (hS HO_3.out) hg hat); replace HB := ak (hb); have HO133 := ak (ho); clear HO129; clear ho hb hg hat; obtain ⟨Ao11, co11, eo11⟩ := Kd.R_slice HO133.out; subst eo11) | ((with_reducible refine gate_builtin (b := .append) (xs := #[.tmp 12, .tmp 21]) rfl ?_); at_builtin; refine Kd.S_append k53 (w0 := w) w.heap.size rfl (.tmp 12) (.tmp 21) 24 53 (.agg #[(.slice none 0 0)]) 24 rfl Try.underlying24 info53 rfl (by decide) (by omega) u3 x3_1 (⟨y131⟩ : S53) [.slice Ao11 y131.length co11] (fun _ => True) (fun k_ => some k_ = (.slice Ao11 y131.length co11 : Value).ownBlock) rfl rfl ?aP (fun k_ hk_ => ((Kd.R_mono (ok' := fun k_ => ((fun _ => True)) k_ ∧ some k_ ≠ (u3 : Value).ownBlock) (Kd.R_apart' (HO133.out) (Kd.S_typed HO_3.out) (by decide)) (fun k_ hk => ⟨trivial, hk.2⟩))).1 k_ hk_.symm) ?aF ?aO ?aB ?aS ?aL ?_; (case aP => exact k53_mkM _ _ _ (⟨y131⟩ : S53) (Kd.R_mono (Kd.R_tight rfl (Kd.R_mono (ok' := fun k_ => ((fun _ => True)) k_ ∧ some k_ ≠ (u3 : Value).ownBlock) (Kd.R_apart' (HO133.out) (Kd.S_typed HO_3.out) (by decide)) (fun k_ hk => ⟨trivial, hk.2⟩))) (fun _ h_ => h_))); (case aB => exact (by exact hopb HB.out)); (case aF => exact (fun _ _ => trivial)); (case aO => exact (by (with_reducible repeat (first | apply Kd.S_alloc | apply Kd.S_drewN | apply Kd.S_drew)); exact Kd.S_mono HO_3.out (fun k_ hk => ⟨trivial, fun e_ => hk.2 e_⟩))); (case aS => exact (below_size (by exact hopb HB.out))); (case aL => have := LMc7.out; omega); intro v135 w12 ho hb hg hat; rw [← Ny134.out] at ho; replace HB := ak (hb); have HO136 := ak (ho); clear HO_3 HO133; clear ho hb hg hat))
       go_roundg k1
       case measure => have := HK1.out; omega
       case rel => exact ⟨(y134), (wrap64 (x4_1 + 1)), (by first | rfl | (simp [*]; done)), H', ⟨by have := HK1.out; omega⟩, ⟨by (with_reducible repeat (first | apply Kd.S_alloc | apply Kd.S_drewN | apply Kd.S_drew)); exact HO136.out⟩, ⟨by exact hopb HB.out⟩⟩
      ·rw [if_neg c7] at H
       exact absurd H (by simp)
     ·rw [if_neg c6] at H
      exact absurd H (by simp)
    ·rw [if_neg c5] at H
     exact absurd H (by simp)
   ·rw [if_neg c4] at H
    have c4b0 : decide (x4_1 < (l0.length : Int)) = false := decide_eq_false c4
    clear c4
    obtain rfl := Option.some.inj H
    go_wp2
    go_ret
    exact ⟨_, by first | rfl | (simp [*, errW_none, errW_some] <;> rfl), by (with_reducible repeat (first | apply Kd.S_alloc | apply Kd.S_drewN | apply Kd.S_drew)); exact HO_3.out, by exact hopb HB.out⟩

/-! ### spec_PageFind: function 26 -/
mutual
def spec_PageFind.j0 : Nat → List (S53) → ByteArray → Bool → Option (Int)
 | 0, _, _, _ => none
 | k + 1, x0, x1, x19 => if x19 = true then (some (-1)) else (spec_PageFind.l0 k x0 x1 0 1)
def spec_PageFind.l0 : Nat → List (S53) → ByteArray → Int → Int → Option (Int)
 | 0, _, _, _, _ => none
 | k + 1, x0, x1, x5, x6 => if x6 < (x0.length : Int) then (if 0 ≤ x6 then (if 0 < (((rd_T53 x0 x6).f0).length : Int) then (if (Op.bytesLess (((rd_T65 ((rd_T53 x0 x6).f0) 0).f0).toList) x1.toList) = true then (spec_PageFind.l0 k x0 x1 x6 (wrap64 (x6 + 1))) else (if ((rd_T65 ((rd_T53 x0 x6).f0) 0).f0).toList = x1.toList then (spec_PageFind.l0 k x0 x1 x6 (wrap64 (x6 + 1))) else (spec_PageFind.l0 k x0 x1 x5 (wrap64 (x6 + 1))))) else (none)) else (none)) else (some x5)
end
def spec_PageFind.f (k : Nat) (l0 : List (S53)) (a1 : ByteArray) : Option (Int) := (spec_PagesValid.f k l0).bind fun t137 => (if t137 = true then ((spec_KeyValid.f k a1).bind fun t138 => (if t138 = true then (spec_PageFind.j0 k l0 a1 ((l0.length : Int) == 0)) else (spec_PageFind.j0 k l0 a1 true))) else (spec_PageFind.j0 k l0 a1 true))
theorem spec_PageFind.mono_l : ∀ k, (∀ y0 y1 y2, LeO (spec_PageFind.j0 k y0 y1 y2) (spec_PageFind.j0 (k + 1) y0 y1 y2)) ∧ (∀ y0 y1 y2 y3, LeO (spec_PageFind.l0 k y0 y1 y2 y3) (spec_PageFind.l0 (k + 1) y0 y1 y2 y3))
 | 0 => ⟨fun _ _ _ r h => by simp [spec_PageFind.j0] at h, fun _ _ _ _ r h => by simp [spec_PageFind.l0] at h⟩
 | k + 1 => by
  obtain ⟨ih0, ih1⟩ := spec_PageFind.mono_l k
  refine ⟨?_, ?_⟩
  ·intro y0 y1 y2
   unfold spec_PageFind.j0
   repeat' first
   | (with_reducible exact ih0 _ _ _)
   | (with_reducible exact ih1 _ _ _ _)
   | (with_reducible exact spec_KeyValid.mono _ _)
   | (with_reducible exact spec_PagesValid.mono _ _)
   | (with_reducible exact LeO.refl _)
   | (with_reducible exact LeO.none _)
   | (with_reducible refine LeO.ite ?_ ?_)
   | (with_reducible refine LeO.bind ?_ (fun _ => ?_))
   | exact ih0 _ _ _
   | exact ih1 _ _ _ _
   | exact LeO.none _
   | refine LeO.ite ?_ ?_
   | refine LeO.bind ?_ (fun _ => ?_)
  ·intro y0 y1 y2 y3
   unfold spec_PageFind.l0
   repeat' first
   | (with_reducible exact ih0 _ _ _)
   | (with_reducible exact ih1 _ _ _ _)
   | (with_reducible exact spec_KeyValid.mono _ _)
   | (with_reducible exact spec_PagesValid.mono _ _)
   | (with_reducible exact LeO.refl _)
   | (with_reducible exact LeO.none _)
   | (with_reducible refine LeO.ite ?_ ?_)
   | (with_reducible refine LeO.bind ?_ (fun _ => ?_))
   | exact ih0 _ _ _
   | exact ih1 _ _ _ _
   | exact LeO.none _
   | refine LeO.ite ?_ ?_
   | refine LeO.bind ?_ (fun _ => ?_)
theorem spec_PageFind.mono : ∀ a0 a1 k, LeO (spec_PageFind.f k a0 a1) (spec_PageFind.f (k + 1) a0 a1) := by
 intro a0 a1 k
 obtain ⟨ih0, ih1⟩ := spec_PageFind.mono_l k
 unfold spec_PageFind.f
 repeat' first
   | (with_reducible exact ih0 _ _ _)
   | (with_reducible exact ih1 _ _ _ _)
   | (with_reducible exact spec_KeyValid.mono _ _)
   | (with_reducible exact spec_PagesValid.mono _ _)
   | (with_reducible exact LeO.refl _)
   | (with_reducible exact LeO.none _)
   | (with_reducible refine LeO.ite ?_ ?_)
   | (with_reducible refine LeO.bind ?_ (fun _ => ?_))
   | exact ih0 _ _ _
   | exact ih1 _ _ _ _
   | exact LeO.none _
   | refine LeO.ite ?_ ?_
   | refine LeO.bind ?_ (fun _ => ?_)
theorem spec_PageFind.calls (k : Nat) (A0 : Option Addr) (c0 : Nat) (l0 : List (S53)) (a1 : ByteArray) (r : Int) (w : World) (hr0 : Kd.C k53 w A0 l0.length l0) (hc0 : l0.length ≤ c0) (h : spec_PageFind.f k l0 a1 = some r) :
  Calls Try.prog 26 #[.slice A0 l0.length c0, .string a1] w fun e w' => e = .returned (.int .i64 r) ∧ Below w.heap.size w w' := by
 have HR0 := ak hr0
 have HC0 := ak hc0
 clear hr0 hc0
 have HB := ak (Below.refl w.heap.size w)
 have H : ((spec_PagesValid.f k l0).bind fun t137 => (if t137 = true then ((spec_KeyValid.f k a1).bind fun t138 => (if t138 = true then (spec_PageFind.j0 k l0 a1 ((l0.length : Int) == 0)) else (spec_PageFind.j0 k l0 a1 true))) else (spec_PageFind.j0 k l0 a1 true))) = some r := h
 clear h
 have HC3 := ak H
 clear H
 go_enter Try.func26, Try.ntmps26
 go_upto_region 1 with (fail)
 go_cut [19] (fun v19 wc => ∃ (kq : Nat) (x19_2 : Bool), v19 = .bool x19_2 ∧ Aside0 (spec_PageFind.j0 kq l0 a1 x19_2 = some r) ∧ Aside0 (kq ≤ k) ∧ Aside0 (Below w.heap.size w wc))
 case first =>
  have H := HC3.out
  clear HC3
  replace H := Option.bind_eq_some_iff.mp H
  obtain ⟨t137, A40, H⟩ := H
  try dsimp only at H
  have A4 := ak A40
  clear A40
  by_cases c5 : t137 = true
  ·subst c5
   rw [if_pos rfl] at H
   replace H := Option.bind_eq_some_iff.mp H
   obtain ⟨t138, A60, H⟩ := H
   try dsimp only at H
   have A6 := ak A60
   clear A60
   by_cases c7 : t138 = true
   ·subst c7
    rw [if_pos rfl] at H
    have H' := ak H
    clear H
    go_wp2_with (first | ((with_reducible refine gate_callee (f := 23) rfl ?_); refine gL (some 8) Try.func23 #[.slice A0 l0.length c0] ?_; (with_reducible refine (spec_PagesValid.calls k _ _ l0 true _ ?side1 ?side2 A4.out).mono ?_); (case side1 => exact hC (Kd.C_below HR0.out HB.out)); (case side2 => exact HC0.out); rintro e w8 ⟨rfl, hb⟩; refine ⟨_, rfl, ?_⟩; replace HB := ak (below_step (by exact hopb HB.out) hb); (try clear hb)) | (go_at_call 24; (with_reducible refine (spec_KeyValid.calls k a1 true _ A6.out).mono ?_); rintro e w' ⟨rfl, ⟨nd, rfl⟩⟩))
    go_meet
    case rel => exact ⟨_, (((l0.length : Int) == 0)), (by first | rfl | (simp [*]; done)), H', ⟨by first | omega | exact Nat.le_refl _⟩, ⟨by exact hopb HB.out⟩⟩
   ·replace c7 := Bool.eq_false_iff.mpr c7
    subst c7
    rw [if_neg (show ¬ (false = true) by decide)] at H
    have H' := ak H
    clear H
    go_wp2_with (first | ((with_reducible refine gate_callee (f := 23) rfl ?_); refine gL (some 8) Try.func23 #[.slice A0 l0.length c0] ?_; (with_reducible refine (spec_PagesValid.calls k _ _ l0 true _ ?side1 ?side2 A4.out).mono ?_); (case side1 => exact hC (Kd.C_below HR0.out HB.out)); (case side2 => exact HC0.out); rintro e w9 ⟨rfl, hb⟩; refine ⟨_, rfl, ?_⟩; replace HB := ak (below_step (by exact hopb HB.out) hb); (try clear hb)) | (go_at_call 24; (with_reducible refine (spec_KeyValid.calls k a1 false _ A6.out).mono ?_); rintro e w' ⟨rfl, ⟨nd, rfl⟩⟩))
    go_meet
    case rel => exact ⟨_, (true), (by first | rfl | (simp [*]; done)), H', ⟨by first | omega | exact Nat.le_refl _⟩, ⟨by exact hopb HB.out⟩⟩
  ·replace c5 := Bool.eq_false_iff.mpr c5
   subst c5
   rw [if_neg (show ¬ (false = true) by decide)] at H
   have H' := ak H
   clear H
   go_wp2_with (first | ((with_reducible refine gate_callee (f := 23) rfl ?_); refine gL (some 8) Try.func23 #[.slice A0 l0.length c0] ?_; (with_reducible refine (spec_PagesValid.calls k _ _ l0 false _ ?side1 ?side2 A4.out).mono ?_); (case side1 => exact hC (Kd.C_below HR0.out HB.out)); (case side2 => exact HC0.out); rintro e w10 ⟨rfl, hb⟩; refine ⟨_, rfl, ?_⟩; replace HB := ak (below_step (by exact hopb HB.out) hb); (try clear hb)))
   go_meet
   case rel => exact ⟨_, (true), (by first | rfl | (simp [*]; done)), H', ⟨by first | omega | exact Nat.le_refl _⟩, ⟨by exact hopb HB.out⟩⟩
 case rest =>
  clear HC3
  try clear c2
  try clear p2
  try clear c5
  try clear c7
  obtain ⟨kq, x19_2, rfl, HA, HJ2, HB⟩ := hcut
  cases kq with
  | zero => exact absurd HA.out (by simp [spec_PageFind.j0])
  | succ kj2 =>
   have H := HA.out
   clear HA
   simp only [spec_PageFind.j0] at H
   by_cases c11 : x19_2 = true
   ·subst c11
    rw [if_pos rfl] at H
    obtain rfl := Option.some.inj H
    go_wp2
    go_ret
    exact ⟨by first | rfl | (simp [*, errW_none, errW_some] <;> rfl), by exact hopb HB.out⟩
   ·replace c11 := Bool.eq_false_iff.mpr c11
    subst c11
    rw [if_neg (show ¬ (false = true) by decide)] at H
    have H' := ak H
    clear H
    go_wp2
    go_loopg [5, 6] kj2 (fun kq v5 v6 w' => ∃ (x5_2 : Int) (x6_2 : Int), v5 = .int .i64 x5_2 ∧ v6 = .int .i64 x6_2 ∧ Aside0 (spec_PageFind.l0 kq l0 a1 x5_2 x6_2 = some r) ∧ Aside0 (kq ≤ kj2) ∧ Aside0 (Below w.heap.size w w'))
    case atStart => exact ⟨(0), (1), (by first | rfl | (simp [*]; done)), (by first | rfl | (simp [*]; done)), H', ⟨Nat.le_refl _⟩, ⟨by exact hopb HB.out⟩⟩
    case round =>
     clear H'
     try clear c1
     try clear c2
     try clear p2
     try clear c5
     try clear c7
     try clear c11
     try clear p2
     obtain ⟨x5_2, x6_2, rfl, rfl, HA, HK2, HB⟩ := hrel
     cases gk with
     | zero => exact absurd HA.out (by simp [spec_PageFind.l0])
     | succ k2 =>
      have H := HA.out
      clear HA
      simp only [spec_PageFind.l0] at H
      by_cases c12 : x6_2 < (l0.length : Int)
      ·rw [if_pos c12] at H
       have c12b0 : decide (x6_2 < (l0.length : Int)) = true := decide_eq_true c12
       clear c12
       by_cases c13 : 0 ≤ x6_2
       ·rw [if_pos c13] at H
        have c13b0 : decide (0 ≤ x6_2) = true := decide_eq_true c13
        clear c13
        by_cases c14 : 0 < (((rd_T53 l0 x6_2).f0).length : Int)
        ·rw [if_pos c14] at H
         have c14b0 : decide (0 < (((rd_T53 l0 x6_2).f0).length : Int)) = true := decide_eq_true c14
         have c14b1 : decide (0 < ((rd_T53 l0 x6_2).f0).length) = true := decide_eq_true (by omega)
         clear c14
         by_cases c15 : (Op.bytesLess (((rd_T65 ((rd_T53 l0 x6_2).f0) 0).f0).toList) a1.toList) = true
         ·rw [if_pos c15] at H
          have c15b0 : (Op.bytesLess (((rd_T65 ((rd_T53 l0 x6_2).f0) 0).f0).toList) a1.toList) = true := c15
          clear c15
          have H' := ak H
          clear H
          have p139 : 0 ≤ (x6_2 : Int) := of_decide_eq_true (by assumption)
          have q139 : x6_2 < (l0.length : Int) := of_decide_eq_true (by assumption)
          obtain ⟨ad139, A139_0, c139_0, e139, hx139_0, hl139_0, hi139_0⟩ := at_T53 HR0.out x6_2 p139 q139
          cases e139
          replace hx139_0 := bc HB.out hx139_0
          have HR139_0 := ak hi139_0
          have HC139_0 := ak hl139_0
          clear hi139_0 hl139_0
          replace p139 := eq_true p139
          replace q139 := eq_true q139
          have p140 : 0 ≤ (0 : Int) := (by omega)
          have q140 : 0 < (((rd_T53 l0 x6_2).f0).length : Int) := of_decide_eq_true (by assumption)
          obtain ⟨ad140, e140, hx140_0, hx140_1⟩ := at_T65 HR139_0.out 0 p140 q140
          cases e140
          have qi140 : (0 < ((rd_T53 l0 x6_2).f0).length) = True := eq_true (by omega)
          (try rw [show ((0 : Int)).toNat = 0 from rfl] at hx140_0)
          (try rw [show 0 * 2 = 0 from rfl] at hx140_0)
          (try rw [Addr.add_zero'] at hx140_0)
          (try rw [show ((0 : Int)).toNat = 0 from rfl] at hx140_1)
          (try rw [show 0 * 2 = 0 from rfl] at hx140_1)
          (try rw [Addr.add_zero'] at hx140_1)
          replace hx140_0 := bc HB.out hx140_0
          replace hx140_1 := bc HB.out hx140_1
          replace p140 := eq_true p140
          replace q140 := eq_true q140
          go_wp2
          go_roundg k2
          case measure => have := HJ2.out; have := HK2.out; omega
          case rel => exact ⟨(x6_2), (wrap64 (x6_2 + 1)), (by first | rfl | (simp [*]; done)), (by first | rfl | (simp [*]; done)), H', ⟨by have := HJ2.out; have := HK2.out; omega⟩, ⟨by exact hopb HB.out⟩⟩
         ·rw [if_neg c15] at H
          have c15b0 : (Op.bytesLess (((rd_T65 ((rd_T53 l0 x6_2).f0) 0).f0).toList) a1.toList) = false := by simpa using c15
          clear c15
          by_cases c16 : ((rd_T65 ((rd_T53 l0 x6_2).f0) 0).f0).toList = a1.toList
          ·rw [if_pos c16] at H
           have c16b0 : (((rd_T65 ((rd_T53 l0 x6_2).f0) 0).f0).toList == a1.toList) = true := beq_iff_eq.mpr c16
           have c16b1 : (((rd_T65 ((rd_T53 l0 x6_2).f0) 0).f0).toList != a1.toList) = false := bne_eq_false_iff_eq.mpr c16
           clear c16
           have H' := ak H
           clear H
           have p139 : 0 ≤ (x6_2 : Int) := of_decide_eq_true (by assumption)
           have q139 : x6_2 < (l0.length : Int) := of_decide_eq_true (by assumption)
           obtain ⟨ad139, A139_0, c139_0, e139, hx139_0, hl139_0, hi139_0⟩ := at_T53 HR0.out x6_2 p139 q139
           cases e139
           replace hx139_0 := bc HB.out hx139_0
           have HR139_0 := ak hi139_0
           have HC139_0 := ak hl139_0
           clear hi139_0 hl139_0
           replace p139 := eq_true p139
           replace q139 := eq_true q139
           have p140 : 0 ≤ (0 : Int) := (by omega)
           have q140 : 0 < (((rd_T53 l0 x6_2).f0).length : Int) := of_decide_eq_true (by assumption)
           obtain ⟨ad140, e140, hx140_0, hx140_1⟩ := at_T65 HR139_0.out 0 p140 q140
           cases e140
           have qi140 : (0 < ((rd_T53 l0 x6_2).f0).length) = True := eq_true (by omega)
           (try rw [show ((0 : Int)).toNat = 0 from rfl] at hx140_0)
           (try rw [show 0 * 2 = 0 from rfl] at hx140_0)
           (try rw [Addr.add_zero'] at hx140_0)
           (try rw [show ((0 : Int)).toNat = 0 from rfl] at hx140_1)
           (try rw [show 0 * 2 = 0 from rfl] at hx140_1)
           (try rw [Addr.add_zero'] at hx140_1)
           replace hx140_0 := bc HB.out hx140_0
           replace hx140_1 := bc HB.out hx140_1
           replace p140 := eq_true p140
           replace q140 := eq_true q140
           go_wp2
           go_roundg k2
           case measure => have := HJ2.out; have := HK2.out; omega
           case rel => exact ⟨(x6_2), (wrap64 (x6_2 + 1)), (by first | rfl | (simp [*]; done)), (by first | rfl | (simp [*]; done)), H', ⟨by have := HJ2.out; have := HK2.out; omega⟩, ⟨by exact hopb HB.out⟩⟩
          ·rw [if_neg c16] at H
           have c16b0 : (((rd_T65 ((rd_T53 l0 x6_2).f0) 0).f0).toList == a1.toList) = false := beq_eq_false_iff_ne.mpr c16
           have c16b1 : (((rd_T65 ((rd_T53 l0 x6_2).f0) 0).f0).toList != a1.toList) = true := bne_iff_ne.mpr c16
           have H' := ak H
           clear H
           have p139 : 0 ≤ (x6_2 : Int) := of_decide_eq_true (by assumption)
           have q139 : x6_2 < (l0.length : Int) := of_decide_eq_true (by assumption)
           obtain ⟨ad139, A139_0, c139_0, e139, hx139_0, hl139_0, hi139_0⟩ := at_T53 HR0.out x6_2 p139 q139
           cases e139
           replace hx139_0 := bc HB.out hx139_0
           have HR139_0 := ak hi139_0
           have HC139_0 := ak hl139_0
           clear hi139_0 hl139_0
           replace p139 := eq_true p139
           replace q139 := eq_true q139
           have p140 : 0 ≤ (0 : Int) := (by omega)
           have q140 : 0 < (((rd_T53 l0 x6_2).f0).length : Int) := of_decide_eq_true (by assumption)
           obtain ⟨ad140, e140, hx140_0, hx140_1⟩ := at_T65 HR139_0.out 0 p140 q140
           cases e140
           have qi140 : (0 < ((rd_T53 l0 x6_2).f0).length) = True := eq_true (by omega)
           (try rw [show ((0 : Int)).toNat = 0 from rfl] at hx140_0)
           (try rw [show 0 * 2 = 0 from rfl] at hx140_0)
           (try rw [Addr.add_zero'] at hx140_0)
           (try rw [show ((0 : Int)).toNat = 0 from rfl] at hx140_1)
           (try rw [show 0 * 2 = 0 from rfl] at hx140_1)
           (try rw [Addr.add_zero'] at hx140_1)
           replace hx140_0 := bc HB.out hx140_0
           replace hx140_1 := bc HB.out hx140_1
           replace p140 := eq_true p140
           replace q140 := eq_true q140
           go_wp2
           go_roundg k2
           case measure => have := HJ2.out; have := HK2.out; omega
           case rel => exact ⟨(x5_2), (wrap64 (x6_2 + 1)), (by first | rfl | (simp [*]; done)), (by first | rfl | (simp [*]; done)), H', ⟨by have := HJ2.out; have := HK2.out; omega⟩, ⟨by exact hopb HB.out⟩⟩
        ·rw [if_neg c14] at H
         exact absurd H (by simp)
       ·rw [if_neg c13] at H
        exact absurd H (by simp)
      ·rw [if_neg c12] at H
       have c12b0 : decide (x6_2 < (l0.length : Int)) = false := decide_eq_false c12
       clear c12
       obtain rfl := Option.some.inj H
       go_wp2
       go_ret
       exact ⟨by first | rfl | (simp [*, errW_none, errW_some] <;> rfl), by exact hopb HB.out⟩

/-! ### spec_l4Place: function 55 -/
def spec_l4Place.l0 : Nat → List (S65) → ByteArray → Int → Option (Int)
 | 0, _, _, _ => none
 | k + 1, x0, x1, x5 => if x5 < (x0.length : Int) then (if 0 ≤ x5 then (if (Op.bytesLess (((rd_T65 x0 x5).f0).toList) x1.toList) = true then (spec_l4Place.l0 k x0 x1 (wrap64 (x5 + 1))) else (some x5)) else (none)) else (some x5)
def spec_l4Place.f (k : Nat) (l0 : List (S65)) (a1 : ByteArray) : Option (Int) := spec_l4Place.l0 k l0 a1 0
theorem spec_l4Place.mono_l : ∀ k, (∀ y0 y1 y2, LeO (spec_l4Place.l0 k y0 y1 y2) (spec_l4Place.l0 (k + 1) y0 y1 y2))
 | 0 => fun _ _ _ r h => by simp [spec_l4Place.l0] at h
 | k + 1 => by
  have ih0 := spec_l4Place.mono_l k
  ·intro y0 y1 y2
   unfold spec_l4Place.l0
   repeat' first
   | (with_reducible exact ih0 _ _ _)
   | (with_reducible exact LeO.refl _)
   | (with_reducible exact LeO.none _)
   | (with_reducible refine LeO.ite ?_ ?_)
   | (with_reducible refine LeO.bind ?_ (fun _ => ?_))
   | exact ih0 _ _ _
   | exact LeO.none _
   | refine LeO.ite ?_ ?_
   | refine LeO.bind ?_ (fun _ => ?_)
theorem spec_l4Place.mono : ∀ a0 a1 k, LeO (spec_l4Place.f k a0 a1) (spec_l4Place.f (k + 1) a0 a1) := by
 intro a0 a1 k
 have ih0 := spec_l4Place.mono_l k
 unfold spec_l4Place.f
 repeat' first
   | (with_reducible exact ih0 _ _ _)
   | (with_reducible exact LeO.refl _)
   | (with_reducible exact LeO.none _)
   | (with_reducible refine LeO.ite ?_ ?_)
   | (with_reducible refine LeO.bind ?_ (fun _ => ?_))
   | exact ih0 _ _ _
   | exact LeO.none _
   | refine LeO.ite ?_ ?_
   | refine LeO.bind ?_ (fun _ => ?_)
theorem spec_l4Place.calls (k : Nat) (A0 : Option Addr) (c0 : Nat) (l0 : List (S65)) (a1 : ByteArray) (r : Int) (w : World) (hr0 : Kd.C k65 w A0 l0.length l0) (hc0 : l0.length ≤ c0) (h : spec_l4Place.f k l0 a1 = some r) :
  Calls Try.prog 55 #[.slice A0 l0.length c0, .string a1] w fun e w' => e = .returned (.int .i64 r) ∧ Drawn0 w w' := by
 have HR0 := ak hr0
 have HC0 := ak hc0
 clear hr0 hc0
 have H : (spec_l4Place.l0 k l0 a1 0) = some r := h
 clear h
 have H' := ak H
 clear H
 go_enter Try.func55, Try.ntmps55
 go_wp2
 go_loopg [5] k (fun kq v5 w' => ∃ (x5_1 : Int), v5 = .int .i64 x5_1 ∧ Aside0 (spec_l4Place.l0 kq l0 a1 x5_1 = some r) ∧ Aside0 (kq ≤ k) ∧ Drawn0 w w')
 case atStart => exact ⟨(0), (by first | rfl | (simp [*]; done)), H', ⟨Nat.le_refl _⟩, by repeat (first | exact Drawn0.refl _ | apply Drawn0.step)⟩
 case round =>
  clear H'
  try clear p2
  obtain ⟨x5_1, rfl, HA, HK1, ⟨m1, rfl⟩⟩ := hrel
  cases gk with
  | zero => exact absurd HA.out (by simp [spec_l4Place.l0])
  | succ k1 =>
   have H := HA.out
   clear HA
   simp only [spec_l4Place.l0] at H
   by_cases c3 : x5_1 < (l0.length : Int)
   ·rw [if_pos c3] at H
    have c3b0 : decide (x5_1 < (l0.length : Int)) = true := decide_eq_true c3
    clear c3
    by_cases c4 : 0 ≤ x5_1
    ·rw [if_pos c4] at H
     have c4b0 : decide (0 ≤ x5_1) = true := decide_eq_true c4
     clear c4
     by_cases c5 : (Op.bytesLess (((rd_T65 l0 x5_1).f0).toList) a1.toList) = true
     ·rw [if_pos c5] at H
      have c5b0 : (Op.bytesLess (((rd_T65 l0 x5_1).f0).toList) a1.toList) = true := c5
      clear c5
      have H' := ak H
      clear H
      have p141 : 0 ≤ (x5_1 : Int) := of_decide_eq_true (by assumption)
      have q141 : x5_1 < (l0.length : Int) := of_decide_eq_true (by assumption)
      obtain ⟨ad141, e141, hx141_0, hx141_1⟩ := at_T65 HR0.out x5_1 p141 q141
      cases e141
      replace p141 := eq_true p141
      replace q141 := eq_true q141
      go_wp2
      go_roundg k1
      case measure => have := HK1.out; omega
      case rel => exact ⟨(wrap64 (x5_1 + 1)), (by first | rfl | (simp [*]; done)), H', ⟨by have := HK1.out; omega⟩, by repeat (first | exact Drawn0.refl _ | apply Drawn0.step)⟩
     ·rw [if_neg c5] at H
      have c5b0 : (Op.bytesLess (((rd_T65 l0 x5_1).f0).toList) a1.toList) = false := by simpa using c5
      clear c5
      obtain rfl := Option.some.inj H
      have p141 : 0 ≤ (x5_1 : Int) := of_decide_eq_true (by assumption)
      have q141 : x5_1 < (l0.length : Int) := of_decide_eq_true (by assumption)
      obtain ⟨ad141, e141, hx141_0, hx141_1⟩ := at_T65 HR0.out x5_1 p141 q141
      cases e141
      replace p141 := eq_true p141
      replace q141 := eq_true q141
      go_wp2
      go_ret
      exact ⟨by first | rfl | (simp; done) | (simp [*]; done), by repeat (first | exact Drawn0.refl _ | apply Drawn0.step)⟩
    ·rw [if_neg c4] at H
     exact absurd H (by simp)
   ·rw [if_neg c3] at H
    have c3b0 : decide (x5_1 < (l0.length : Int)) = false := decide_eq_false c3
    clear c3
    obtain rfl := Option.some.inj H
    go_wp2
    go_ret
    exact ⟨by first | rfl | (simp; done) | (simp [*]; done), by repeat (first | exact Drawn0.refl _ | apply Drawn0.step)⟩

end Go.Proofs.Ytengnnhehjcfhaa.PFnPagesPut
