-- Written for this claim by a program of this session (wip/myprint in the proofs' repo)
import Derived.Test.YtebgpbcbbjpbfaaPFnPageFindx0
import Derived.Test.YtebgpbcbbjpbfaaPFnPageFindx1
import Derived.Test.YtebgpbcbbjpbfaaPFnPageFindx2
import Derived.Test.YtebgpbcbbjpbfaaPFnPageFindx3
import Derived.Test.YtebgpbcbbjpbfaaPFnPageFindx4
import Derived.Test.YtebgpbcbbjpbfaaWZip
-- slim3
namespace Go.Proofs.Ytebgpbcbbjpbfaa.PFnPageFind
open Go.RowKit Go.Proofs.YtebgpbcbbjpbfaaW.PrintWords Go.Proofs.YtebgpbcbbjpbfaaW.PrintLast Go.Proofs.YtebgpbcbbjpbfaaW.PrintMore
attribute [local go_sem] max2_int min2_int max_two min_two max_three min_three max_four min_four max2_strs min2_strs   -- for this text's walks alone
set_option linter.unusedVariables false
set_option linter.unusedSimpArgs false
set_option maxHeartbeats 8000000
set_option maxRecDepth 100000

/-! ### spec_PagesValid: function 32 -/
def spec_PagesValid.l0 : Nat → List (S64) → List (S71) → Int → Option (Bool)
 | 0, _, _, _ => none
 | k + 1, x0, x3, x4 => if x4 < (x0.length : Int) then (if 0 ≤ x4 then (if (((rd_T64 x0 x4).f0).length : Int) > 4 then (some false) else (if (((rd_T64 x0 x4).f0).length : Int) < 2 then (if (x0.length : Int) > 1 then (some false) else (if (((rd_T64 x0 x4).f0).length : Int) < 1 then (some false) else (if (x3.length : Int) > 48 then (some false) else (if x3.length + ((rd_T64 x0 x4).f0).length < 5864062014805 then (spec_PagesValid.l0 k x0 (x3 ++ ((rd_T64 x0 x4).f0)) (wrap64 (x4 + 1))) else (none))))) else (if (x3.length : Int) > 48 then (some false) else (if x3.length + ((rd_T64 x0 x4).f0).length < 5864062014805 then (spec_PagesValid.l0 k x0 (x3 ++ ((rd_T64 x0 x4).f0)) (wrap64 (x4 + 1))) else (none))))) else (none)) else ((spec_PairsValid.f k x3).bind fun t149 => (some t149))
def spec_PagesValid.f (k : Nat) (l0 : List (S64)) : Option (Bool) := spec_PagesValid.l0 k l0 (([] : List (S71))) 0
theorem spec_PagesValid.mono_l : ∀ k, (∀ y0 y1 y2, LeO (spec_PagesValid.l0 k y0 y1 y2) (spec_PagesValid.l0 (k + 1) y0 y1 y2))
 | 0 => fun _ _ _ r h => by simp [spec_PagesValid.l0] at h
 | k + 1 => by
  have ih0 := spec_PagesValid.mono_l k
  ·intro y0 y1 y2
   unfold spec_PagesValid.l0
   repeat' first
   | (with_reducible exact ih0 _ _ _)
   | (with_reducible exact spec_PairsValid.mono _ _)
   | (with_reducible exact LeO.refl _)
   | (with_reducible exact LeO.none _)
   | (with_reducible refine LeO.ite ?_ ?_)
   | (with_reducible refine LeO.bind ?_ (fun _ => ?_))
   | exact ih0 _ _ _
   | exact LeO.none _
   | refine LeO.ite ?_ ?_
   | refine LeO.bind ?_ (fun _ => ?_)
theorem spec_PagesValid.mono : ∀ a0 k, LeO (spec_PagesValid.f k a0) (spec_PagesValid.f (k + 1) a0) := by
 intro a0 k
 have ih0 := spec_PagesValid.mono_l k
 unfold spec_PagesValid.f
 repeat' first
   | (with_reducible exact ih0 _ _ _)
   | (with_reducible exact spec_PairsValid.mono _ _)
   | (with_reducible exact LeO.refl _)
   | (with_reducible exact LeO.none _)
   | (with_reducible refine LeO.ite ?_ ?_)
   | (with_reducible refine LeO.bind ?_ (fun _ => ?_))
   | exact ih0 _ _ _
   | exact LeO.none _
   | refine LeO.ite ?_ ?_
   | refine LeO.bind ?_ (fun _ => ?_)
theorem spec_PagesValid.calls (k : Nat) (A0 : Option Addr) (c0 : Nat) (l0 : List (S64)) (r : Bool) (w : World) (hr0 : Kd.C k64 w A0 l0.length l0) (hc0 : l0.length ≤ c0) (h : spec_PagesValid.f k l0 = some r) :
  Calls Try.prog 32 #[.slice A0 l0.length c0] w fun e w' => e = .returned (.bool r) ∧ Below w.heap.size w w' := by
 have HR0 := ak hr0
 have HC0 := ak hc0
 clear hr0 hc0
 have HB := ak (Below.refl w.heap.size w)
 have H : (spec_PagesValid.l0 k l0 (([] : List (S71))) 0) = some r := h
 clear h
 obtain ⟨y137, hy137⟩ : ∃ y_ : List (S71), y_ = (([] : List (S71))) := ⟨_, rfl⟩
 replace H : (spec_PagesValid.l0 k l0 y137 0) = some r := by first | (rw [hy137]; exact H) | exact H
 have Ny137 := ak hy137
 clear hy137
 have H' := ak H
 clear H
 go_enter Try.func32, Try.ntmps32
 go_wp2_with (first | ((with_reducible refine gate_dst (N := 6) rfl ?_); (try (refine gate_guard (by rfl) ?_; dsimp only)); refine Kd.R_lit k71 _ 71 ?hg (N := 6) ?hd (xs := ([] : List (S71))) (inner := []) (ok := fun _ => True) (okp := fun _ => True) ?hr ?hp (fun _ hk => hk) trivial (Below.refl _ _) (Nat.le_refl _) (by simp) ?_; (case hd => rfl); (case hg => rfl); (case hr => first | (go_simp; done) | (go_simp; rfl)); (case hp => exact (Reps.none _ _)); intro v138 w2 ho3 hb hg_ hnew_; clear hg_ hnew_; (first | rw [← Ny137.out] at ho3 | (simp only [Int.reduceToNat] at ho3; rw [← Ny137.out] at ho3)); have HO139 := ak (Kd.R_lower ho3 (below_size (by exact hopb HB.out))); replace HB := ak (below_step (by exact hopb HB.out) hb); clear hb ho3))
 go_loopg [3, 4] k (fun kq v3 v4 w' => ∃ (x3_1 : List (S71)) (x4_1 : Int), v4 = .int .i64 x4_1 ∧ Aside0 (spec_PagesValid.l0 kq l0 x3_1 x4_1 = some r) ∧ Aside0 (kq ≤ k) ∧ Aside0 (Kd.R k71 71 w' w.heap.size (fun _ => True) v3 x3_1) ∧ Aside0 (Below w.heap.size w w'))
 case atStart => exact ⟨(y137), (0), (by first | rfl | (simp; done) | (simp [bne]; done) | (simp [*]; done)), H', ⟨Nat.le_refl _⟩, ⟨by (with_reducible repeat (first | apply Kd.R_alloc | apply Kd.R_drewN | apply Kd.R_drew)); exact HO139.out⟩, ⟨by exact hopb HB.out⟩⟩
 case round =>
  clear H'
  try clear p2
  try clear c3
  obtain ⟨x3_1, x4_1, rfl, HA, HK1, HO_3, HB⟩ := hrel
  cases gk with
  | zero => exact absurd HA.out (by simp [spec_PagesValid.l0])
  | succ k1 =>
   have H := HA.out
   clear HA
   simp only [spec_PagesValid.l0] at H
   by_cases c4 : x4_1 < (l0.length : Int)
   ·rw [if_pos c4] at H
    have c4b0 : decide (x4_1 < (l0.length : Int)) = true := decide_eq_true c4
    clear c4
    by_cases c5 : 0 ≤ x4_1
    ·rw [if_pos c5] at H
     have c5b0 : decide (0 ≤ x4_1) = true := decide_eq_true c5
     clear c5
     by_cases c6 : (((rd_T64 l0 x4_1).f0).length : Int) > 4
     ·rw [if_pos c6] at H
      have c6b0 : decide (4 < (((rd_T64 l0 x4_1).f0).length : Int)) = true := decide_eq_true c6
      have c6b1 : decide (4 < ((rd_T64 l0 x4_1).f0).length) = true := decide_eq_true (by omega)
      clear c6
      obtain rfl := Option.some.inj H
      have p140 : 0 ≤ (x4_1 : Int) := of_decide_eq_true (by assumption)
      have q140 : x4_1 < (l0.length : Int) := of_decide_eq_true (by assumption)
      obtain ⟨ad140, A140_0, c140_0, e140, hx140_0, hl140_0, hi140_0⟩ := at_T64 HR0.out x4_1 p140 q140
      cases e140
      replace hx140_0 := bc HB.out hx140_0
      have HR140_0 := ak hi140_0
      have HC140_0 := ak hl140_0
      clear hi140_0 hl140_0
      replace p140 := eq_true p140
      replace q140 := eq_true q140
      go_wp2
      go_ret
      exact ⟨by first | rfl | (simp only [u8_w_, w64_u8_] <;> rfl) | (simp [errW_none, errW_some] <;> rfl) | (simp [*, errW_none, errW_some] <;> rfl), by exact hopb HB.out⟩
     ·rw [if_neg c6] at H
      have c6b0 : decide (4 < (((rd_T64 l0 x4_1).f0).length : Int)) = false := decide_eq_false c6
      have c6b1 : decide (4 < ((rd_T64 l0 x4_1).f0).length) = false := decide_eq_false (by omega)
      clear c6
      by_cases c7 : (((rd_T64 l0 x4_1).f0).length : Int) < 2
      ·rw [if_pos c7] at H
       have c7b0 : decide ((((rd_T64 l0 x4_1).f0).length : Int) < 2) = true := decide_eq_true c7
       have c7b1 : decide (((rd_T64 l0 x4_1).f0).length < 2) = true := decide_eq_true (by omega)
       clear c7
       by_cases c8 : (l0.length : Int) > 1
       ·rw [if_pos c8] at H
        have c8b0 : decide (1 < (l0.length : Int)) = true := decide_eq_true c8
        have c8b1 : decide (1 < l0.length) = true := decide_eq_true (by omega)
        clear c8
        obtain rfl := Option.some.inj H
        have p140 : 0 ≤ (x4_1 : Int) := of_decide_eq_true (by assumption)
        have q140 : x4_1 < (l0.length : Int) := of_decide_eq_true (by assumption)
        obtain ⟨ad140, A140_0, c140_0, e140, hx140_0, hl140_0, hi140_0⟩ := at_T64 HR0.out x4_1 p140 q140
        cases e140
        replace hx140_0 := bc HB.out hx140_0
        have HR140_0 := ak hi140_0
        have HC140_0 := ak hl140_0
        clear hi140_0 hl140_0
        replace p140 := eq_true p140
        replace q140 := eq_true q140
        go_wp2
        go_ret
        exact ⟨by first | rfl | (simp only [u8_w_, w64_u8_] <;> rfl) | (simp [errW_none, errW_some] <;> rfl) | (simp [*, errW_none, errW_some] <;> rfl), by exact hopb HB.out⟩
       ·rw [if_neg c8] at H
        have c8b0 : decide (1 < (l0.length : Int)) = false := decide_eq_false c8
        have c8b1 : decide (1 < l0.length) = false := decide_eq_false (by omega)
        clear c8
        by_cases c9 : (((rd_T64 l0 x4_1).f0).length : Int) < 1
        ·rw [if_pos c9] at H
         have c9b0 : decide ((((rd_T64 l0 x4_1).f0).length : Int) < 1) = true := decide_eq_true c9
         have c9b1 : decide (((rd_T64 l0 x4_1).f0).length < 1) = true := decide_eq_true (by omega)
         clear c9
         obtain rfl := Option.some.inj H
         have p140 : 0 ≤ (x4_1 : Int) := of_decide_eq_true (by assumption)
         have q140 : x4_1 < (l0.length : Int) := of_decide_eq_true (by assumption)
         obtain ⟨ad140, A140_0, c140_0, e140, hx140_0, hl140_0, hi140_0⟩ := at_T64 HR0.out x4_1 p140 q140
         cases e140
         replace hx140_0 := bc HB.out hx140_0
         have HR140_0 := ak hi140_0
         have HC140_0 := ak hl140_0
         clear hi140_0 hl140_0
         replace p140 := eq_true p140
         replace q140 := eq_true q140
         go_wp2
         go_ret
         exact ⟨by first | rfl | (simp only [u8_w_, w64_u8_] <;> rfl) | (simp [errW_none, errW_some] <;> rfl) | (simp [*, errW_none, errW_some] <;> rfl), by exact hopb HB.out⟩
        ·rw [if_neg c9] at H
         have c9b0 : decide ((((rd_T64 l0 x4_1).f0).length : Int) < 1) = false := decide_eq_false c9
         have c9b1 : decide (((rd_T64 l0 x4_1).f0).length < 1) = false := decide_eq_false (by omega)
         clear c9
         by_cases c10 : (x3_1.length : Int) > 48
         ·rw [if_pos c10] at H
          have c10b0 : decide (48 < (x3_1.length : Int)) = true := decide_eq_true c10
          have c10b1 : decide (48 < x3_1.length) = true := decide_eq_true (by omega)
          clear c10
          obtain rfl := Option.some.inj H
          have p140 : 0 ≤ (x4_1 : Int) := of_decide_eq_true (by assumption)
          have q140 : x4_1 < (l0.length : Int) := of_decide_eq_true (by assumption)
          obtain ⟨ad140, A140_0, c140_0, e140, hx140_0, hl140_0, hi140_0⟩ := at_T64 HR0.out x4_1 p140 q140
          cases e140
          replace hx140_0 := bc HB.out hx140_0
          have HR140_0 := ak hi140_0
          have HC140_0 := ak hl140_0
          clear hi140_0 hl140_0
          replace p140 := eq_true p140
          replace q140 := eq_true q140
          obtain ⟨Ao11, co11, eo11⟩ := Kd.R_slice HO_3.out
          subst eo11
          go_wp2
          go_ret
          exact ⟨by first | rfl | (simp only [u8_w_, w64_u8_] <;> rfl) | (simp [errW_none, errW_some] <;> rfl) | (simp [*, errW_none, errW_some] <;> rfl), by exact hopb HB.out⟩
         ·rw [if_neg c10] at H
          have c10b0 : decide (48 < (x3_1.length : Int)) = false := decide_eq_false c10
          have c10b1 : decide (48 < x3_1.length) = false := decide_eq_false (by omega)
          clear c10
          by_cases c12 : x3_1.length + ((rd_T64 l0 x4_1).f0).length < 5864062014805
          ·rw [if_pos c12] at H
           have LMc12 := ak c12
           clear c12
           obtain ⟨y142, hy142⟩ : ∃ y_ : List (S71), y_ = (x3_1 ++ ((rd_T64 l0 x4_1).f0)) := ⟨_, rfl⟩
           replace H : (spec_PagesValid.l0 k1 l0 y142 (wrap64 (x4_1 + 1))) = some r := by first | (rw [hy142]; exact H) | exact H
           have Ny142 := ak hy142
           clear hy142
           have H' := ak H
           clear H
           have p140 : 0 ≤ (x4_1 : Int) := of_decide_eq_true (by assumption)
           have q140 : x4_1 < (l0.length : Int) := of_decide_eq_true (by assumption)
           obtain ⟨ad140, A140_0, c140_0, e140, hx140_0, hl140_0, hi140_0⟩ := at_T64 HR0.out x4_1 p140 q140
           cases e140
           replace hx140_0 := bc HB.out hx140_0
           have HR140_0 := ak hi140_0
           have HC140_0 := ak hl140_0
           clear hi140_0 hl140_0
           replace p140 := eq_true p140
           replace q140 := eq_true q140
           obtain ⟨Ao13, co13, eo13⟩ := Kd.R_slice HO_3.out
           subst eo13
           have p141 : 0 ≤ (x4_1 : Int) := of_decide_eq_true (by assumption)
           have q141 : x4_1 < (l0.length : Int) := of_decide_eq_true (by assumption)
           obtain ⟨ad141, A141_0, c141_0, e141, hx141_0, hl141_0, hi141_0⟩ := at_T64 HR0.out x4_1 p141 q141
           obtain rfl : ad140 = ad141 := (by injection e141)
           replace hx141_0 := bc HB.out hx141_0
           have HR141_0 := ak hi141_0
           have HC141_0 := ak hl141_0
           clear hi141_0 hl141_0
           replace p141 := eq_true p141
           replace q141 := eq_true q141
           have ea_ := Option.some.inj (hx140_0.symm.trans hx141_0)
           injection ea_ with ea_ en_ ec_
           subst ea_
           subst ec_
           clear en_
           go_wp2_with (first | ((with_reducible refine gate_builtin (b := .append) (xs := #[.tmp 39, .tmp 44]) rfl ?_); (try (refine gate_guard (by rfl) ?_; dsimp only)); at_builtin; refine Kd.R_append_rows k71 (w0 := w) w.heap.size rfl (.tmp 39) (.tmp 44) 32 71 (.agg #[(.string ⟨#[]⟩), (.int .i64 0)]) 24 rfl Try.underlying32 info71 rfl (by decide) (by omega) (.slice Ao13 x3_1.length co13) x3_1 ((rd_T64 l0 x4_1).f0) _ _ _ (fun _ => True) (fun _ => False) rfl rfl ?aO ?aR (fun _ _ h => h) (fun _ h => h.elim) ?aF ?aB ?aS ?aL ?_; (case aR => repeat (first | exact (Kd.C_below HR141_0.out HB.out) | (with_reducible refine Kd.C_alloc ?_ _) | (with_reducible refine Kd.C_drewN ?_ _) | (with_reducible refine Kd.C_drew ?_))); (case aB => exact (by exact hopb HB.out)); (case aF => exact (fun _ _ => trivial)); (case aO => exact (by (with_reducible repeat (first | apply Kd.R_alloc | apply Kd.R_drewN | apply Kd.R_drew)); exact HO_3.out)); (case aS => exact (below_size (by exact hopb HB.out))); (case aL => have := LMc12.out; omega); intro v143 w14 ho hb hg hat; rw [← Ny142.out] at ho; replace HB := ak (hb); have HO144 := ak (ho); clear HO_3; clear ho hb hg hat))
           go_roundg k1
           case measure => have := HK1.out; omega
           case rel => exact ⟨(y142), (wrap64 (x4_1 + 1)), (by first | rfl | (simp; done) | (simp [bne]; done) | (simp [*]; done)), H', ⟨by have := HK1.out; omega⟩, ⟨by (with_reducible repeat (first | apply Kd.R_alloc | apply Kd.R_drewN | apply Kd.R_drew)); exact HO144.out⟩, ⟨by exact hopb HB.out⟩⟩
          ·rw [if_neg c12] at H
           exact absurd H (by simp)
      ·rw [if_neg c7] at H
       have c7b0 : decide ((((rd_T64 l0 x4_1).f0).length : Int) < 2) = false := decide_eq_false c7
       have c7b1 : decide (((rd_T64 l0 x4_1).f0).length < 2) = false := decide_eq_false (by omega)
       clear c7
       by_cases c15 : (x3_1.length : Int) > 48
       ·rw [if_pos c15] at H
        have c15b0 : decide (48 < (x3_1.length : Int)) = true := decide_eq_true c15
        have c15b1 : decide (48 < x3_1.length) = true := decide_eq_true (by omega)
        clear c15
        obtain rfl := Option.some.inj H
        have p140 : 0 ≤ (x4_1 : Int) := of_decide_eq_true (by assumption)
        have q140 : x4_1 < (l0.length : Int) := of_decide_eq_true (by assumption)
        obtain ⟨ad140, A140_0, c140_0, e140, hx140_0, hl140_0, hi140_0⟩ := at_T64 HR0.out x4_1 p140 q140
        cases e140
        replace hx140_0 := bc HB.out hx140_0
        have HR140_0 := ak hi140_0
        have HC140_0 := ak hl140_0
        clear hi140_0 hl140_0
        replace p140 := eq_true p140
        replace q140 := eq_true q140
        obtain ⟨Ao16, co16, eo16⟩ := Kd.R_slice HO_3.out
        subst eo16
        go_wp2
        go_ret
        exact ⟨by first | rfl | (simp only [u8_w_, w64_u8_] <;> rfl) | (simp [errW_none, errW_some] <;> rfl) | (simp [*, errW_none, errW_some] <;> rfl), by exact hopb HB.out⟩
       ·rw [if_neg c15] at H
        have c15b0 : decide (48 < (x3_1.length : Int)) = false := decide_eq_false c15
        have c15b1 : decide (48 < x3_1.length) = false := decide_eq_false (by omega)
        clear c15
        by_cases c17 : x3_1.length + ((rd_T64 l0 x4_1).f0).length < 5864062014805
        ·rw [if_pos c17] at H
         have LMc17 := ak c17
         clear c17
         obtain ⟨y146, hy146⟩ : ∃ y_ : List (S71), y_ = (x3_1 ++ ((rd_T64 l0 x4_1).f0)) := ⟨_, rfl⟩
         replace H : (spec_PagesValid.l0 k1 l0 y146 (wrap64 (x4_1 + 1))) = some r := by first | (rw [hy146]; exact H) | exact H
         have Ny146 := ak hy146
         clear hy146
         have H' := ak H
         clear H
         have p140 : 0 ≤ (x4_1 : Int) := of_decide_eq_true (by assumption)
         have q140 : x4_1 < (l0.length : Int) := of_decide_eq_true (by assumption)
         obtain ⟨ad140, A140_0, c140_0, e140, hx140_0, hl140_0, hi140_0⟩ := at_T64 HR0.out x4_1 p140 q140
         cases e140
         replace hx140_0 := bc HB.out hx140_0
         have HR140_0 := ak hi140_0
         have HC140_0 := ak hl140_0
         clear hi140_0 hl140_0
         replace p140 := eq_true p140
         replace q140 := eq_true q140
         obtain ⟨Ao18, co18, eo18⟩ := Kd.R_slice HO_3.out
         subst eo18
         have p145 : 0 ≤ (x4_1 : Int) := of_decide_eq_true (by assumption)
         have q145 : x4_1 < (l0.length : Int) := of_decide_eq_true (by assumption)
         obtain ⟨ad145, A145_0, c145_0, e145, hx145_0, hl145_0, hi145_0⟩ := at_T64 HR0.out x4_1 p145 q145
         obtain rfl : ad140 = ad145 := (by injection e145)
         replace hx145_0 := bc HB.out hx145_0
         have HR145_0 := ak hi145_0
         have HC145_0 := ak hl145_0
         clear hi145_0 hl145_0
         replace p145 := eq_true p145
         replace q145 := eq_true q145
         have ea_ := Option.some.inj (hx140_0.symm.trans hx145_0)
         injection ea_ with ea_ en_ ec_
         subst ea_
         subst ec_
         clear en_
         go_wp2_with (first | ((with_reducible refine gate_builtin (b := .append) (xs := #[.tmp 39, .tmp 44]) rfl ?_); (try (refine gate_guard (by rfl) ?_; dsimp only)); at_builtin; refine Kd.R_append_rows k71 (w0 := w) w.heap.size rfl (.tmp 39) (.tmp 44) 32 71 (.agg #[(.string ⟨#[]⟩), (.int .i64 0)]) 24 rfl Try.underlying32 info71 rfl (by decide) (by omega) (.slice Ao18 x3_1.length co18) x3_1 ((rd_T64 l0 x4_1).f0) _ _ _ (fun _ => True) (fun _ => False) rfl rfl ?aO ?aR (fun _ _ h => h) (fun _ h => h.elim) ?aF ?aB ?aS ?aL ?_; (case aR => repeat (first | exact (Kd.C_below HR145_0.out HB.out) | (with_reducible refine Kd.C_alloc ?_ _) | (with_reducible refine Kd.C_drewN ?_ _) | (with_reducible refine Kd.C_drew ?_))); (case aB => exact (by exact hopb HB.out)); (case aF => exact (fun _ _ => trivial)); (case aO => exact (by (with_reducible repeat (first | apply Kd.R_alloc | apply Kd.R_drewN | apply Kd.R_drew)); exact HO_3.out)); (case aS => exact (below_size (by exact hopb HB.out))); (case aL => have := LMc17.out; omega); intro v147 w19 ho hb hg hat; rw [← Ny146.out] at ho; replace HB := ak (hb); have HO148 := ak (ho); clear HO_3; clear ho hb hg hat))
         go_roundg k1
         case measure => have := HK1.out; omega
         case rel => exact ⟨(y146), (wrap64 (x4_1 + 1)), (by first | rfl | (simp; done) | (simp [bne]; done) | (simp [*]; done)), H', ⟨by have := HK1.out; omega⟩, ⟨by (with_reducible repeat (first | apply Kd.R_alloc | apply Kd.R_drewN | apply Kd.R_drew)); exact HO148.out⟩, ⟨by exact hopb HB.out⟩⟩
        ·rw [if_neg c17] at H
         exact absurd H (by simp)
    ·rw [if_neg c5] at H
     exact absurd H (by simp)
   ·rw [if_neg c4] at H
    have c4b0 : decide (x4_1 < (l0.length : Int)) = false := decide_eq_false c4
    clear c4
    replace H := Option.bind_eq_some_iff.mp H
    obtain ⟨t149, A200, H⟩ := H
    try dsimp only at H
    have A20 := ak A200
    clear A200
    obtain rfl := Option.some.inj H
    obtain ⟨Ao21, co21, eo21⟩ := Kd.R_slice HO_3.out
    subst eo21
    go_wp2_with (first | ((with_reducible refine gate_callee (f := 69) rfl ?_); refine goesL_ (some 47) rfl rfl Try.func69 (by kernel_rfl) rfl #[.slice Ao21 x3_1.length co21] rfl (by (try simp only [List.map_toArray, List.map_cons, List.map_nil]); first | done | rfl | (simp only [List.length_drop, List.length_take]; rfl)) ?_; (with_reducible refine (spec_PairsValid.calls k1 _ _ x3_1 t149 _ ?side1 ?side2 A20.out).mono ?_); (case side1 => repeat (first | exact (Kd.R_reads' HO_3.out).2.2 | (with_reducible refine Kd.C_alloc ?_ _) | (with_reducible refine Kd.C_drewN ?_ _) | (with_reducible refine Kd.C_drew ?_))); (case side2 => exact (Kd.R_reads' HO_3.out).2.1); rintro e w22 ⟨rfl, hb⟩; refine ⟨_, rfl, ?_⟩; replace HO_3 := ak (Kd.R_below (by (with_reducible repeat (first | apply Kd.R_alloc | apply Kd.R_drewN | apply Kd.R_drew)); exact HO_3.out) hb); replace HB := ak (below_step (by exact hopb HB.out) hb); (try clear hb)))
    go_ret
    exact ⟨by first | rfl | (simp only [u8_w_, w64_u8_] <;> rfl) | (simp [errW_none, errW_some] <;> rfl) | (simp [*, errW_none, errW_some] <;> rfl), by exact hopb HB.out⟩

/-! ### spec_PageFind: function 35 -/
mutual
def spec_PageFind.j0 : Nat → List (S64) → ByteArray → Bool → Option (Int)
 | 0, _, _, _ => none
 | k + 1, x0, x1, x19 => if x19 = true then (some (-1)) else (spec_PageFind.l0 k x0 x1 0 1)
def spec_PageFind.l0 : Nat → List (S64) → ByteArray → Int → Int → Option (Int)
 | 0, _, _, _, _ => none
 | k + 1, x0, x1, x5, x6 => if x6 < (x0.length : Int) then (if 0 ≤ x6 then (if 0 < (((rd_T64 x0 x6).f0).length : Int) then (if (Op.bytesLess (((rd_T71 ((rd_T64 x0 x6).f0) 0).f0).toList) x1.toList) = true then (spec_PageFind.l0 k x0 x1 x6 (wrap64 (x6 + 1))) else (if ((rd_T71 ((rd_T64 x0 x6).f0) 0).f0).toList = x1.toList then (spec_PageFind.l0 k x0 x1 x6 (wrap64 (x6 + 1))) else (spec_PageFind.l0 k x0 x1 x5 (wrap64 (x6 + 1))))) else (none)) else (none)) else (some x5)
end
def spec_PageFind.f (k : Nat) (l0 : List (S64)) (a1 : ByteArray) : Option (Int) := (spec_PagesValid.f k l0).bind fun t150 => (if t150 = true then ((spec_KeyValid.f k a1).bind fun t151 => (if t151 = true then (spec_PageFind.j0 k l0 a1 ((l0.length : Int) == 0)) else (spec_PageFind.j0 k l0 a1 true))) else (spec_PageFind.j0 k l0 a1 true))
theorem spec_PageFind.mono_l : ∀ k, (∀ y0 y1 y2, LeO (spec_PageFind.j0 k y0 y1 y2) (spec_PageFind.j0 (k + 1) y0 y1 y2)) ∧ (∀ y0 y1 y2 y3, LeO (spec_PageFind.l0 k y0 y1 y2 y3) (spec_PageFind.l0 (k + 1) y0 y1 y2 y3))
 | 0 => ⟨fun _ _ _ r h => by simp [spec_PageFind.j0] at h, fun _ _ _ _ r h => by simp [spec_PageFind.l0] at h⟩
 | k + 1 => by
  obtain ⟨ih0, ih1⟩ := spec_PageFind.mono_l k
  refine ⟨?_, ?_⟩
  ·intro y0 y1 y2
   unfold spec_PageFind.j0
   repeat' first
   | (with_reducible exact ih0 _ _ _)
   | (with_reducible exact ih1 _ _ _ _)
   | (with_reducible exact spec_KeyValid.mono _ _)
   | (with_reducible exact spec_PagesValid.mono _ _)
   | (with_reducible exact LeO.refl _)
   | (with_reducible exact LeO.none _)
   | (with_reducible refine LeO.ite ?_ ?_)
   | (with_reducible refine LeO.bind ?_ (fun _ => ?_))
   | exact ih0 _ _ _
   | exact ih1 _ _ _ _
   | exact LeO.none _
   | refine LeO.ite ?_ ?_
   | refine LeO.bind ?_ (fun _ => ?_)
  ·intro y0 y1 y2 y3
   unfold spec_PageFind.l0
   repeat' first
   | (with_reducible exact ih0 _ _ _)
   | (with_reducible exact ih1 _ _ _ _)
   | (with_reducible exact spec_KeyValid.mono _ _)
   | (with_reducible exact spec_PagesValid.mono _ _)
   | (with_reducible exact LeO.refl _)
   | (with_reducible exact LeO.none _)
   | (with_reducible refine LeO.ite ?_ ?_)
   | (with_reducible refine LeO.bind ?_ (fun _ => ?_))
   | exact ih0 _ _ _
   | exact ih1 _ _ _ _
   | exact LeO.none _
   | refine LeO.ite ?_ ?_
   | refine LeO.bind ?_ (fun _ => ?_)
theorem spec_PageFind.mono : ∀ a0 a1 k, LeO (spec_PageFind.f k a0 a1) (spec_PageFind.f (k + 1) a0 a1) := by
 intro a0 a1 k
 obtain ⟨ih0, ih1⟩ := spec_PageFind.mono_l k
 unfold spec_PageFind.f
 repeat' first
   | (with_reducible exact ih0 _ _ _)
   | (with_reducible exact ih1 _ _ _ _)
   | (with_reducible exact spec_KeyValid.mono _ _)
   | (with_reducible exact spec_PagesValid.mono _ _)
   | (with_reducible exact LeO.refl _)
   | (with_reducible exact LeO.none _)
   | (with_reducible refine LeO.ite ?_ ?_)
   | (with_reducible refine LeO.bind ?_ (fun _ => ?_))
   | exact ih0 _ _ _
   | exact ih1 _ _ _ _
   | exact LeO.none _
   | refine LeO.ite ?_ ?_
   | refine LeO.bind ?_ (fun _ => ?_)
theorem spec_PageFind.calls (k : Nat) (A0 : Option Addr) (c0 : Nat) (l0 : List (S64)) (a1 : ByteArray) (r : Int) (w : World) (hr0 : Kd.C k64 w A0 l0.length l0) (hc0 : l0.length ≤ c0) (h : spec_PageFind.f k l0 a1 = some r) :
  Calls Try.prog 35 #[.slice A0 l0.length c0, .string a1] w fun e w' => e = .returned (.int .i64 r) ∧ Below w.heap.size w w' := by
 have HR0 := ak hr0
 have HC0 := ak hc0
 clear hr0 hc0
 have HB := ak (Below.refl w.heap.size w)
 have H : ((spec_PagesValid.f k l0).bind fun t150 => (if t150 = true then ((spec_KeyValid.f k a1).bind fun t151 => (if t151 = true then (spec_PageFind.j0 k l0 a1 ((l0.length : Int) == 0)) else (spec_PageFind.j0 k l0 a1 true))) else (spec_PageFind.j0 k l0 a1 true))) = some r := h
 clear h
 have HC3 := ak H
 clear H
 go_enter Try.func35, Try.ntmps35
 go_upto_region 1 with (fail)
 go_cut [19] (fun v19 wc => ∃ (kq : Nat) (x19_2 : Bool), v19 = .bool x19_2 ∧ Aside0 (spec_PageFind.j0 kq l0 a1 x19_2 = some r) ∧ Aside0 (kq ≤ k) ∧ Aside0 (Below w.heap.size w wc))
 case first =>
  have H := HC3.out
  clear HC3
  replace H := Option.bind_eq_some_iff.mp H
  obtain ⟨t150, A40, H⟩ := H
  try dsimp only at H
  have A4 := ak A40
  clear A40
  by_cases c5 : t150 = true
  ·subst c5
   rw [if_pos rfl] at H
   replace H := Option.bind_eq_some_iff.mp H
   obtain ⟨t151, A60, H⟩ := H
   try dsimp only at H
   have A6 := ak A60
   clear A60
   by_cases c7 : t151 = true
   ·subst c7
    rw [if_pos rfl] at H
    have H' := ak H
    clear H
    go_wp2_with (first | ((with_reducible refine gate_callee (f := 32) rfl ?_); refine goesL_ (some 8) rfl rfl Try.func32 (by kernel_rfl) rfl #[.slice A0 l0.length c0] rfl (by (try simp only [List.map_toArray, List.map_cons, List.map_nil]); first | done | rfl | (simp only [List.length_drop, List.length_take]; rfl)) ?_; (with_reducible refine (spec_PagesValid.calls k _ _ l0 true _ ?side1 ?side2 A4.out).mono ?_); (case side1 => repeat (first | exact (Kd.C_below HR0.out HB.out) | (with_reducible refine Kd.C_alloc ?_ _) | (with_reducible refine Kd.C_drewN ?_ _) | (with_reducible refine Kd.C_drew ?_))); (case side2 => exact HC0.out); rintro e w8 ⟨rfl, hb⟩; refine ⟨_, rfl, ?_⟩; replace HB := ak (below_step (by exact hopb HB.out) hb); (try clear hb)) | (go_at_call 76; (with_reducible refine (spec_KeyValid.calls k a1 true _ A6.out).mono ?_); rintro e w' ⟨rfl, ⟨nd, rfl⟩⟩))
    go_meet
    case rel => exact ⟨_, (((l0.length : Int) == 0)), (by first | rfl | (simp; done) | (simp [bne]; done) | (simp [*]; done)), H', ⟨by first | omega | exact Nat.le_refl _⟩, ⟨by exact hopb HB.out⟩⟩
   ·replace c7 := Bool.eq_false_iff.mpr c7
    subst c7
    rw [if_neg (show ¬ (false = true) by decide)] at H
    have H' := ak H
    clear H
    go_wp2_with (first | ((with_reducible refine gate_callee (f := 32) rfl ?_); refine goesL_ (some 8) rfl rfl Try.func32 (by kernel_rfl) rfl #[.slice A0 l0.length c0] rfl (by (try simp only [List.map_toArray, List.map_cons, List.map_nil]); first | done | rfl | (simp only [List.length_drop, List.length_take]; rfl)) ?_; (with_reducible refine (spec_PagesValid.calls k _ _ l0 true _ ?side1 ?side2 A4.out).mono ?_); (case side1 => repeat (first | exact (Kd.C_below HR0.out HB.out) | (with_reducible refine Kd.C_alloc ?_ _) | (with_reducible refine Kd.C_drewN ?_ _) | (with_reducible refine Kd.C_drew ?_))); (case side2 => exact HC0.out); rintro e w9 ⟨rfl, hb⟩; refine ⟨_, rfl, ?_⟩; replace HB := ak (below_step (by exact hopb HB.out) hb); (try clear hb)) | (go_at_call 76; (with_reducible refine (spec_KeyValid.calls k a1 false _ A6.out).mono ?_); rintro e w' ⟨rfl, ⟨nd, rfl⟩⟩))
    go_meet
    case rel => exact ⟨_, (true), (by first | rfl | (simp; done) | (simp [bne]; done) | (simp [*]; done)), H', ⟨by first | omega | exact Nat.le_refl _⟩, ⟨by exact hopb HB.out⟩⟩
  ·replace c5 := Bool.eq_false_iff.mpr c5
   subst c5
   rw [if_neg (show ¬ (false = true) by decide)] at H
   have H' := ak H
   clear H
   go_wp2_with (first | ((with_reducible refine gate_callee (f := 32) rfl ?_); refine goesL_ (some 8) rfl rfl Try.func32 (by kernel_rfl) rfl #[.slice A0 l0.length c0] rfl (by (try simp only [List.map_toArray, List.map_cons, List.map_nil]); first | done | rfl | (simp only [List.length_drop, List.length_take]; rfl)) ?_; (with_reducible refine (spec_PagesValid.calls k _ _ l0 false _ ?side1 ?side2 A4.out).mono ?_); (case side1 => repeat (first | exact (Kd.C_below HR0.out HB.out) | (with_reducible refine Kd.C_alloc ?_ _) | (with_reducible refine Kd.C_drewN ?_ _) | (with_reducible refine Kd.C_drew ?_))); (case side2 => exact HC0.out); rintro e w10 ⟨rfl, hb⟩; refine ⟨_, rfl, ?_⟩; replace HB := ak (below_step (by exact hopb HB.out) hb); (try clear hb)))
   go_meet
   case rel => exact ⟨_, (true), (by first | rfl | (simp; done) | (simp [bne]; done) | (simp [*]; done)), H', ⟨by first | omega | exact Nat.le_refl _⟩, ⟨by exact hopb HB.out⟩⟩
 case rest =>
  clear HC3
  try clear p2
  try clear c3
  try clear c5
  try clear c7
  obtain ⟨kq, x19_2, rfl, HA, HJ2, HB⟩ := hcut
  cases kq with
  | zero => exact absurd HA.out (by simp [spec_PageFind.j0])
  | succ kj2 =>
   have H := HA.out
   clear HA
   simp only [spec_PageFind.j0] at H
   by_cases c11 : x19_2 = true
   ·subst c11
    rw [if_pos rfl] at H
    obtain rfl := Option.some.inj H
    go_wp2
    go_ret
    exact ⟨by first | rfl | (simp only [u8_w_, w64_u8_] <;> rfl) | (simp [errW_none, errW_some] <;> rfl) | (simp [*, errW_none, errW_some] <;> rfl), by exact hopb HB.out⟩
   ·replace c11 := Bool.eq_false_iff.mpr c11
    subst c11
    rw [if_neg (show ¬ (false = true) by decide)] at H
    have H' := ak H
    clear H
    go_wp2
    go_loopg [5, 6] kj2 (fun kq v5 v6 w' => ∃ (x5_2 : Int) (x6_2 : Int), v5 = .int .i64 x5_2 ∧ v6 = .int .i64 x6_2 ∧ Aside0 (spec_PageFind.l0 kq l0 a1 x5_2 x6_2 = some r) ∧ Aside0 (kq ≤ kj2) ∧ Aside0 (Below w.heap.size w w'))
    case atStart => exact ⟨(0), (1), (by first | rfl | (simp; done) | (simp [bne]; done) | (simp [*]; done)), (by first | rfl | (simp; done) | (simp [bne]; done) | (simp [*]; done)), H', ⟨Nat.le_refl _⟩, ⟨by exact hopb HB.out⟩⟩
    case round =>
     clear H'
     try clear c1
     try clear p2
     try clear c3
     try clear c5
     try clear c7
     try clear c11
     try clear p2
     obtain ⟨x5_2, x6_2, rfl, rfl, HA, HK2, HB⟩ := hrel
     cases gk with
     | zero => exact absurd HA.out (by simp [spec_PageFind.l0])
     | succ k2 =>
      have H := HA.out
      clear HA
      simp only [spec_PageFind.l0] at H
      by_cases c12 : x6_2 < (l0.length : Int)
      ·rw [if_pos c12] at H
       have c12b0 : decide (x6_2 < (l0.length : Int)) = true := decide_eq_true c12
       clear c12
       by_cases c13 : 0 ≤ x6_2
       ·rw [if_pos c13] at H
        have c13b0 : decide (0 ≤ x6_2) = true := decide_eq_true c13
        clear c13
        by_cases c14 : 0 < (((rd_T64 l0 x6_2).f0).length : Int)
        ·rw [if_pos c14] at H
         have c14b0 : decide (0 < (((rd_T64 l0 x6_2).f0).length : Int)) = true := decide_eq_true c14
         have c14b1 : decide (0 < ((rd_T64 l0 x6_2).f0).length) = true := decide_eq_true (by omega)
         clear c14
         by_cases c15 : (Op.bytesLess (((rd_T71 ((rd_T64 l0 x6_2).f0) 0).f0).toList) a1.toList) = true
         ·rw [if_pos c15] at H
          have c15b0 : (Op.bytesLess (((rd_T71 ((rd_T64 l0 x6_2).f0) 0).f0).toList) a1.toList) = true := c15
          clear c15
          have H' := ak H
          clear H
          have p152 : 0 ≤ (x6_2 : Int) := of_decide_eq_true (by assumption)
          have q152 : x6_2 < (l0.length : Int) := of_decide_eq_true (by assumption)
          obtain ⟨ad152, A152_0, c152_0, e152, hx152_0, hl152_0, hi152_0⟩ := at_T64 HR0.out x6_2 p152 q152
          cases e152
          replace hx152_0 := bc HB.out hx152_0
          have HR152_0 := ak hi152_0
          have HC152_0 := ak hl152_0
          clear hi152_0 hl152_0
          replace p152 := eq_true p152
          replace q152 := eq_true q152
          have p153 : 0 ≤ (0 : Int) := (by omega)
          have q153 : 0 < (((rd_T64 l0 x6_2).f0).length : Int) := of_decide_eq_true (by assumption)
          obtain ⟨ad153, e153, hx153_0, hx153_1⟩ := at_T71 HR152_0.out 0 p153 q153
          cases e153
          have qi153 : (0 < ((rd_T64 l0 x6_2).f0).length) = True := eq_true (by omega)
          (try rw [show ((0 : Int)).toNat = 0 from rfl] at hx153_0)
          (try rw [show 0 * 2 = 0 from rfl] at hx153_0)
          (try rw [Addr.add_zero'] at hx153_0)
          (try rw [show ((0 : Int)).toNat = 0 from rfl] at hx153_1)
          (try rw [show 0 * 2 = 0 from rfl] at hx153_1)
          (try rw [Addr.add_zero'] at hx153_1)
          replace hx153_0 := bc HB.out hx153_0
          replace hx153_1 := bc HB.out hx153_1
          replace p153 := eq_true p153
          replace q153 := eq_true q153
          go_wp2
          go_roundg k2
          case measure => have := HJ2.out; have := HK2.out; omega
          case rel => exact ⟨(x6_2), (wrap64 (x6_2 + 1)), (by first | rfl | (simp; done) | (simp [bne]; done) | (simp [*]; done)), (by first | rfl | (simp; done) | (simp [bne]; done) | (simp [*]; done)), H', ⟨by have := HJ2.out; have := HK2.out; omega⟩, ⟨by exact hopb HB.out⟩⟩
         ·rw [if_neg c15] at H
          have c15b0 : (Op.bytesLess (((rd_T71 ((rd_T64 l0 x6_2).f0) 0).f0).toList) a1.toList) = false := by simpa using c15
          clear c15
          by_cases c16 : ((rd_T71 ((rd_T64 l0 x6_2).f0) 0).f0).toList = a1.toList
          ·rw [if_pos c16] at H
           have c16b0 : (((rd_T71 ((rd_T64 l0 x6_2).f0) 0).f0).toList == a1.toList) = true := beq_iff_eq.mpr c16
           have c16b1 : (((rd_T71 ((rd_T64 l0 x6_2).f0) 0).f0).toList != a1.toList) = false := bne_eq_false_iff_eq.mpr c16
           clear c16
           have H' := ak H
           clear H
           have p152 : 0 ≤ (x6_2 : Int) := of_decide_eq_true (by assumption)
           have q152 : x6_2 < (l0.length : Int) := of_decide_eq_true (by assumption)
           obtain ⟨ad152, A152_0, c152_0, e152, hx152_0, hl152_0, hi152_0⟩ := at_T64 HR0.out x6_2 p152 q152
           cases e152
           replace hx152_0 := bc HB.out hx152_0
           have HR152_0 := ak hi152_0
           have HC152_0 := ak hl152_0
           clear hi152_0 hl152_0
           replace p152 := eq_true p152
           replace q152 := eq_true q152
           have p153 : 0 ≤ (0 : Int) := (by omega)
           have q153 : 0 < (((rd_T64 l0 x6_2).f0).length : Int) := of_decide_eq_true (by assumption)
           obtain ⟨ad153, e153, hx153_0, hx153_1⟩ := at_T71 HR152_0.out 0 p153 q153
           cases e153
           have qi153 : (0 < ((rd_T64 l0 x6_2).f0).length) = True := eq_true (by omega)
           (try rw [show ((0 : Int)).toNat = 0 from rfl] at hx153_0)
           (try rw [show 0 * 2 = 0 from rfl] at hx153_0)
           (try rw [Addr.add_zero'] at hx153_0)
           (try rw [show ((0 : Int)).toNat = 0 from rfl] at hx153_1)
           (try rw [show 0 * 2 = 0 from rfl] at hx153_1)
           (try rw [Addr.add_zero'] at hx153_1)
           replace hx153_0 := bc HB.out hx153_0
           replace hx153_1 := bc HB.out hx153_1
           replace p153 := eq_true p153
           replace q153 := eq_true q153
           go_wp2
           go_roundg k2
           case measure => have := HJ2.out; have := HK2.out; omega
           case rel => exact ⟨(x6_2), (wrap64 (x6_2 + 1)), (by first | rfl | (simp; done) | (simp [bne]; done) | (simp [*]; done)), (by first | rfl | (simp; done) | (simp [bne]; done) | (simp [*]; done)), H', ⟨by have := HJ2.out; have := HK2.out; omega⟩, ⟨by exact hopb HB.out⟩⟩
          ·rw [if_neg c16] at H
           have c16b0 : (((rd_T71 ((rd_T64 l0 x6_2).f0) 0).f0).toList == a1.toList) = false := beq_eq_false_iff_ne.mpr c16
           have c16b1 : (((rd_T71 ((rd_T64 l0 x6_2).f0) 0).f0).toList != a1.toList) = true := bne_iff_ne.mpr c16
           have H' := ak H
           clear H
           have p152 : 0 ≤ (x6_2 : Int) := of_decide_eq_true (by assumption)
           have q152 : x6_2 < (l0.length : Int) := of_decide_eq_true (by assumption)
           obtain ⟨ad152, A152_0, c152_0, e152, hx152_0, hl152_0, hi152_0⟩ := at_T64 HR0.out x6_2 p152 q152
           cases e152
           replace hx152_0 := bc HB.out hx152_0
           have HR152_0 := ak hi152_0
           have HC152_0 := ak hl152_0
           clear hi152_0 hl152_0
           replace p152 := eq_true p152
           replace q152 := eq_true q152
           have p153 : 0 ≤ (0 : Int) := (by omega)
           have q153 : 0 < (((rd_T64 l0 x6_2).f0).length : Int) := of_decide_eq_true (by assumption)
           obtain ⟨ad153, e153, hx153_0, hx153_1⟩ := at_T71 HR152_0.out 0 p153 q153
           cases e153
           have qi153 : (0 < ((rd_T64 l0 x6_2).f0).length) = True := eq_true (by omega)
           (try rw [show ((0 : Int)).toNat = 0 from rfl] at hx153_0)
           (try rw [show 0 * 2 = 0 from rfl] at hx153_0)
           (try rw [Addr.add_zero'] at hx153_0)
           (try rw [show ((0 : Int)).toNat = 0 from rfl] at hx153_1)
           (try rw [show 0 * 2 = 0 from rfl] at hx153_1)
           (try rw [Addr.add_zero'] at hx153_1)
           replace hx153_0 := bc HB.out hx153_0
           replace hx153_1 := bc HB.out hx153_1
           replace p153 := eq_true p153
           replace q153 := eq_true q153
           go_wp2
           go_roundg k2
           case measure => have := HJ2.out; have := HK2.out; omega
           case rel => exact ⟨(x5_2), (wrap64 (x6_2 + 1)), (by first | rfl | (simp; done) | (simp [bne]; done) | (simp [*]; done)), (by first | rfl | (simp; done) | (simp [bne]; done) | (simp [*]; done)), H', ⟨by have := HJ2.out; have := HK2.out; omega⟩, ⟨by exact hopb HB.out⟩⟩
        ·rw [if_neg c14] at H
         exact absurd H (by simp)
       ·rw [if_neg c13] at H
        exact absurd H (by simp)
      ·rw [if_neg c12] at H
       have c12b0 : decide (x6_2 < (l0.length : Int)) = false := decide_eq_false c12
       clear c12
       obtain rfl := Option.some.inj H
       go_wp2
       go_ret
       exact ⟨by first | rfl | (simp only [u8_w_, w64_u8_] <;> rfl) | (simp [errW_none, errW_some] <;> rfl) | (simp [*, errW_none, errW_some] <;> rfl), by exact hopb HB.out⟩

/-! ### impl_pageOf: function 77 -/
def impl_pageOf.l0 : Nat → ByteArray → Int → List (S64) → Int → Int → Option (Int)
 | 0, _, _, _, _, _ => none
 | k + 1, x1, x5, x8, x9, x10 => if x10 < x9 then (if 0 ≤ x10 then (if x10 < (x8.length : Int) then (if 0 < (((rd_T64 x8 x10).f0).length : Int) then (if (Op.bytesLess (((rd_T71 ((rd_T64 x8 x10).f0) 0).f0).toList) x1.toList) = true then (impl_pageOf.l0 k x1 x10 x8 x9 (wrap64 (x10 + 1))) else (if ((rd_T71 ((rd_T64 x8 x10).f0) 0).f0).toList = x1.toList then (impl_pageOf.l0 k x1 x10 x8 x9 (wrap64 (x10 + 1))) else (impl_pageOf.l0 k x1 x5 x8 x9 (wrap64 (x10 + 1))))) else (none)) else (none)) else (none)) else (some x5)
def impl_pageOf.f (k : Nat) (l0 : List (S64)) (a1 : ByteArray) : Option (Int) := impl_pageOf.l0 k a1 0 l0 (l0.length : Int) 0
theorem impl_pageOf.mono_l : ∀ k, (∀ y0 y1 y2 y3 y4, LeO (impl_pageOf.l0 k y0 y1 y2 y3 y4) (impl_pageOf.l0 (k + 1) y0 y1 y2 y3 y4))
 | 0 => fun _ _ _ _ _ r h => by simp [impl_pageOf.l0] at h
 | k + 1 => by
  have ih0 := impl_pageOf.mono_l k
  ·intro y0 y1 y2 y3 y4
   unfold impl_pageOf.l0
   repeat' first
   | (with_reducible exact ih0 _ _ _ _ _)
   | (with_reducible exact LeO.refl _)
   | (with_reducible exact LeO.none _)
   | (with_reducible refine LeO.ite ?_ ?_)
   | (with_reducible refine LeO.bind ?_ (fun _ => ?_))
   | exact ih0 _ _ _ _ _
   | exact LeO.none _
   | refine LeO.ite ?_ ?_
   | refine LeO.bind ?_ (fun _ => ?_)
theorem impl_pageOf.mono : ∀ a0 a1 k, LeO (impl_pageOf.f k a0 a1) (impl_pageOf.f (k + 1) a0 a1) := by
 intro a0 a1 k
 have ih0 := impl_pageOf.mono_l k
 unfold impl_pageOf.f
 repeat' first
   | (with_reducible exact ih0 _ _ _ _ _)
   | (with_reducible exact LeO.refl _)
   | (with_reducible exact LeO.none _)
   | (with_reducible refine LeO.ite ?_ ?_)
   | (with_reducible refine LeO.bind ?_ (fun _ => ?_))
   | exact ih0 _ _ _ _ _
   | exact LeO.none _
   | refine LeO.ite ?_ ?_
   | refine LeO.bind ?_ (fun _ => ?_)
theorem impl_pageOf.calls (k : Nat) (A0 : Option Addr) (c0 : Nat) (l0 : List (S64)) (a1 : ByteArray) (r : Int) (w : World) (hr0 : Kd.C k64 w A0 l0.length l0) (hc0 : l0.length ≤ c0) (h : impl_pageOf.f k l0 a1 = some r) :
  Calls Try.prog 77 #[.slice A0 l0.length c0, .string a1] w fun e w' => e = .returned (.int .i64 r) ∧ Below w.heap.size w w' := by
 have hu64 := Try.underlying64
 have HR0 := ak hr0
 have HC0 := ak hc0
 clear hr0 hc0
 have HB := ak (Below.refl w.heap.size w)
 have H : (impl_pageOf.l0 k a1 0 l0 (l0.length : Int) 0) = some r := h
 clear h
 have H' := ak H
 clear H
 go_enter Try.func77, Try.ntmps77
 go_wp2
 go_loopg [5, 10] k (fun kq v5 v10 w' => ∃ (x5_1 : Int) (x10_1 : Int), v5 = .int .i64 x5_1 ∧ v10 = .int .i64 x10_1 ∧ Aside0 (impl_pageOf.l0 kq a1 x5_1 l0 (l0.length : Int) x10_1 = some r) ∧ Aside0 (kq ≤ k) ∧ Aside0 (Below w.heap.size w w'))
 case atStart => exact ⟨(0), (0), (by first | rfl | (simp; done) | (simp [bne]; done) | (simp [*]; done)), (by first | rfl | (simp; done) | (simp [bne]; done) | (simp [*]; done)), H', ⟨Nat.le_refl _⟩, ⟨by exact hopb HB.out⟩⟩
 case round =>
  clear H'
  try clear p2
  obtain ⟨x5_1, x10_1, rfl, rfl, HA, HK1, HB⟩ := hrel
  cases gk with
  | zero => exact absurd HA.out (by simp [impl_pageOf.l0])
  | succ k1 =>
   have H := HA.out
   clear HA
   simp only [impl_pageOf.l0] at H
   by_cases c3 : x10_1 < (l0.length : Int)
   ·rw [if_pos c3] at H
    have c3b0 : decide (x10_1 < (l0.length : Int)) = true := decide_eq_true c3
    clear c3
    by_cases c4 : 0 ≤ x10_1
    ·rw [if_pos c4] at H
     have c4b0 : decide (0 ≤ x10_1) = true := decide_eq_true c4
     clear c4
     by_cases c5 : x10_1 < (l0.length : Int)
     ·rw [if_pos c5] at H
      have c5b0 : decide (x10_1 < (l0.length : Int)) = true := decide_eq_true c5
      clear c5
      by_cases c6 : 0 < (((rd_T64 l0 x10_1).f0).length : Int)
      ·rw [if_pos c6] at H
       have c6b0 : decide (0 < (((rd_T64 l0 x10_1).f0).length : Int)) = true := decide_eq_true c6
       have c6b1 : decide (0 < ((rd_T64 l0 x10_1).f0).length) = true := decide_eq_true (by omega)
       clear c6
       by_cases c7 : (Op.bytesLess (((rd_T71 ((rd_T64 l0 x10_1).f0) 0).f0).toList) a1.toList) = true
       ·rw [if_pos c7] at H
        have c7b0 : (Op.bytesLess (((rd_T71 ((rd_T64 l0 x10_1).f0) 0).f0).toList) a1.toList) = true := c7
        clear c7
        have H' := ak H
        clear H
        have p154 : 0 ≤ (x10_1 : Int) := of_decide_eq_true (by assumption)
        have q154 : x10_1 < (l0.length : Int) := of_decide_eq_true (by assumption)
        obtain ⟨ad154, A154_0, c154_0, e154, hx154_0, hl154_0, hi154_0⟩ := at_T64 HR0.out x10_1 p154 q154
        cases e154
        replace hx154_0 := bc HB.out hx154_0
        have HR154_0 := ak hi154_0
        have HC154_0 := ak hl154_0
        clear hi154_0 hl154_0
        replace p154 := eq_true p154
        replace q154 := eq_true q154
        go_wp2_with (first | ((with_reducible refine gate_dst (N := 7) rfl ?_); refine box_event ?hg (N := 7) ?hd (cs := #[.slice none 0 0]) (t := 64) ?hr ?_; (case hd => rfl); (case hg => rfl); (case hr => first | (go_simp; done) | (go_simp; rfl)); intro gb155 hg w8 hbox hb; have n0_ := ak (below_step (by exact hopb HB.out) hb); have n1_ := ak (hbox); have n2_ := ak ((by rw [hg]; exact (below_size (by exact hopb HB.out)) : w.heap.size ≤ gb155)); have n3_ := n2_; clear HB; have HB := n0_; have BK155 := n1_; have GW155 := n2_; have GE155 := n3_; clear n0_ n1_ n2_ n3_; clear hb hbox hg; have hcz9_0 : w8.cell? ⟨gb155, 0, none⟩ = some (.slice none 0 0) := (blk_cell BK155.out 0).trans rfl; have hfz9_0 := blk_frozen BK155.out 0; have p156 : 0 ≤ (0 : Int) := (by omega); have q156 : 0 < (((rd_T64 l0 x10_1).f0).length : Int) := of_decide_eq_true (by assumption); obtain ⟨ad156, e156, hx156_0, hx156_1⟩ := at_T71 HR154_0.out 0 p156 q156; cases e156; have qi156 : (0 < ((rd_T64 l0 x10_1).f0).length) = True := eq_true (by omega); (try rw [show ((0 : Int)).toNat = 0 from rfl] at hx156_0); (try rw [show 0 * 2 = 0 from rfl] at hx156_0); (try rw [Addr.add_zero'] at hx156_0); (try rw [show ((0 : Int)).toNat = 0 from rfl] at hx156_1); (try rw [show 0 * 2 = 0 from rfl] at hx156_1); (try rw [Addr.add_zero'] at hx156_1); have hn156_0 : ad156.block ≠ gb155 := Nat.ne_of_lt (Nat.lt_of_lt_of_le (by have := World.block_lt_of_cell? _ _ hx156_0; first | rwa [add_block] at this | exact this) GW155.out); replace hx156_0 := (HB.out.cell (World.block_lt_of_cell? w _ hx156_0)).trans hx156_0; replace hx156_1 := (HB.out.cell (World.block_lt_of_cell? w _ hx156_1)).trans hx156_1; replace hx156_0 := (cell_far (p := ⟨gb155, 0, none⟩) (by first | (rw [add_block]; exact hn156_0) | (show (Addr.add _ _).block ≠ _; rw [add_block]; exact hn156_0) | exact hn156_0) (.slice (some ad156) ((rd_T64 l0 x10_1).f0).length c154_0)).trans hx156_0; replace hx156_1 := (cell_far (p := ⟨gb155, 0, none⟩) (by first | (rw [add_block]; exact hn156_0) | (show (Addr.add _ _).block ≠ _; rw [add_block]; exact hn156_0) | exact hn156_0) (.slice (some ad156) ((rd_T64 l0 x10_1).f0).length c154_0)).trans hx156_1; clear hn156_0; replace p156 := eq_true p156; replace q156 := eq_true q156))
        go_roundg k1
        case measure => have := HK1.out; omega
        case rel => exact ⟨(x10_1), (wrap64 (x10_1 + 1)), (by first | rfl | (simp; done) | (simp [bne]; done) | (simp [*]; done)), (by first | rfl | (simp; done) | (simp [bne]; done) | (simp [*]; done)), H', ⟨by have := HK1.out; omega⟩, ⟨by repeat (first | exact HB.out | apply bA | apply bN | apply bD | refine bS ?_ GE155.out)⟩⟩
       ·rw [if_neg c7] at H
        have c7b0 : (Op.bytesLess (((rd_T71 ((rd_T64 l0 x10_1).f0) 0).f0).toList) a1.toList) = false := by simpa using c7
        clear c7
        by_cases c10 : ((rd_T71 ((rd_T64 l0 x10_1).f0) 0).f0).toList = a1.toList
        ·rw [if_pos c10] at H
         have c10b0 : (((rd_T71 ((rd_T64 l0 x10_1).f0) 0).f0).toList == a1.toList) = true := beq_iff_eq.mpr c10
         have c10b1 : (((rd_T71 ((rd_T64 l0 x10_1).f0) 0).f0).toList != a1.toList) = false := bne_eq_false_iff_eq.mpr c10
         clear c10
         have H' := ak H
         clear H
         have p154 : 0 ≤ (x10_1 : Int) := of_decide_eq_true (by assumption)
         have q154 : x10_1 < (l0.length : Int) := of_decide_eq_true (by assumption)
         obtain ⟨ad154, A154_0, c154_0, e154, hx154_0, hl154_0, hi154_0⟩ := at_T64 HR0.out x10_1 p154 q154
         cases e154
         replace hx154_0 := bc HB.out hx154_0
         have HR154_0 := ak hi154_0
         have HC154_0 := ak hl154_0
         clear hi154_0 hl154_0
         replace p154 := eq_true p154
         replace q154 := eq_true q154
         go_wp2_with (first | ((with_reducible refine gate_dst (N := 7) rfl ?_); refine box_event ?hg (N := 7) ?hd (cs := #[.slice none 0 0]) (t := 64) ?hr ?_; (case hd => rfl); (case hg => rfl); (case hr => first | (go_simp; done) | (go_simp; rfl)); intro gb155 hg w11 hbox hb; have n0_ := ak (below_step (by exact hopb HB.out) hb); have n1_ := ak (hbox); have n2_ := ak ((by rw [hg]; exact (below_size (by exact hopb HB.out)) : w.heap.size ≤ gb155)); have n3_ := n2_; clear HB; have HB := n0_; have BK155 := n1_; have GW155 := n2_; have GE155 := n3_; clear n0_ n1_ n2_ n3_; clear hb hbox hg; have hcz12_0 : w11.cell? ⟨gb155, 0, none⟩ = some (.slice none 0 0) := (blk_cell BK155.out 0).trans rfl; have hfz12_0 := blk_frozen BK155.out 0; have p156 : 0 ≤ (0 : Int) := (by omega); have q156 : 0 < (((rd_T64 l0 x10_1).f0).length : Int) := of_decide_eq_true (by assumption); obtain ⟨ad156, e156, hx156_0, hx156_1⟩ := at_T71 HR154_0.out 0 p156 q156; cases e156; have qi156 : (0 < ((rd_T64 l0 x10_1).f0).length) = True := eq_true (by omega); (try rw [show ((0 : Int)).toNat = 0 from rfl] at hx156_0); (try rw [show 0 * 2 = 0 from rfl] at hx156_0); (try rw [Addr.add_zero'] at hx156_0); (try rw [show ((0 : Int)).toNat = 0 from rfl] at hx156_1); (try rw [show 0 * 2 = 0 from rfl] at hx156_1); (try rw [Addr.add_zero'] at hx156_1); have hn156_0 : ad156.block ≠ gb155 := Nat.ne_of_lt (Nat.lt_of_lt_of_le (by have := World.block_lt_of_cell? _ _ hx156_0; first | rwa [add_block] at this | exact this) GW155.out); replace hx156_0 := (HB.out.cell (World.block_lt_of_cell? w _ hx156_0)).trans hx156_0; replace hx156_1 := (HB.out.cell (World.block_lt_of_cell? w _ hx156_1)).trans hx156_1; replace hx156_0 := (cell_far (p := ⟨gb155, 0, none⟩) (by first | (rw [add_block]; exact hn156_0) | (show (Addr.add _ _).block ≠ _; rw [add_block]; exact hn156_0) | exact hn156_0) (.slice (some ad156) ((rd_T64 l0 x10_1).f0).length c154_0)).trans hx156_0; replace hx156_1 := (cell_far (p := ⟨gb155, 0, none⟩) (by first | (rw [add_block]; exact hn156_0) | (show (Addr.add _ _).block ≠ _; rw [add_block]; exact hn156_0) | exact hn156_0) (.slice (some ad156) ((rd_T64 l0 x10_1).f0).length c154_0)).trans hx156_1; clear hn156_0; replace p156 := eq_true p156; replace q156 := eq_true q156))
         go_roundg k1
         case measure => have := HK1.out; omega
         case rel => exact ⟨(x10_1), (wrap64 (x10_1 + 1)), (by first | rfl | (simp; done) | (simp [bne]; done) | (simp [*]; done)), (by first | rfl | (simp; done) | (simp [bne]; done) | (simp [*]; done)), H', ⟨by have := HK1.out; omega⟩, ⟨by repeat (first | exact HB.out | apply bA | apply bN | apply bD | refine bS ?_ GE155.out)⟩⟩
        ·rw [if_neg c10] at H
         have c10b0 : (((rd_T71 ((rd_T64 l0 x10_1).f0) 0).f0).toList == a1.toList) = false := beq_eq_false_iff_ne.mpr c10
         have c10b1 : (((rd_T71 ((rd_T64 l0 x10_1).f0) 0).f0).toList != a1.toList) = true := bne_iff_ne.mpr c10
         have H' := ak H
         clear H
         have p154 : 0 ≤ (x10_1 : Int) := of_decide_eq_true (by assumption)
         have q154 : x10_1 < (l0.length : Int) := of_decide_eq_true (by assumption)
         obtain ⟨ad154, A154_0, c154_0, e154, hx154_0, hl154_0, hi154_0⟩ := at_T64 HR0.out x10_1 p154 q154
         cases e154
         replace hx154_0 := bc HB.out hx154_0
         have HR154_0 := ak hi154_0
         have HC154_0 := ak hl154_0
         clear hi154_0 hl154_0
         replace p154 := eq_true p154
         replace q154 := eq_true q154
         go_wp2_with (first | ((with_reducible refine gate_dst (N := 7) rfl ?_); refine box_event ?hg (N := 7) ?hd (cs := #[.slice none 0 0]) (t := 64) ?hr ?_; (case hd => rfl); (case hg => rfl); (case hr => first | (go_simp; done) | (go_simp; rfl)); intro gb155 hg w13 hbox hb; have n0_ := ak (below_step (by exact hopb HB.out) hb); have n1_ := ak (hbox); have n2_ := ak ((by rw [hg]; exact (below_size (by exact hopb HB.out)) : w.heap.size ≤ gb155)); have n3_ := n2_; clear HB; have HB := n0_; have BK155 := n1_; have GW155 := n2_; have GE155 := n3_; clear n0_ n1_ n2_ n3_; clear hb hbox hg; have hcz14_0 : w13.cell? ⟨gb155, 0, none⟩ = some (.slice none 0 0) := (blk_cell BK155.out 0).trans rfl; have hfz14_0 := blk_frozen BK155.out 0; have p156 : 0 ≤ (0 : Int) := (by omega); have q156 : 0 < (((rd_T64 l0 x10_1).f0).length : Int) := of_decide_eq_true (by assumption); obtain ⟨ad156, e156, hx156_0, hx156_1⟩ := at_T71 HR154_0.out 0 p156 q156; cases e156; have qi156 : (0 < ((rd_T64 l0 x10_1).f0).length) = True := eq_true (by omega); (try rw [show ((0 : Int)).toNat = 0 from rfl] at hx156_0); (try rw [show 0 * 2 = 0 from rfl] at hx156_0); (try rw [Addr.add_zero'] at hx156_0); (try rw [show ((0 : Int)).toNat = 0 from rfl] at hx156_1); (try rw [show 0 * 2 = 0 from rfl] at hx156_1); (try rw [Addr.add_zero'] at hx156_1); have hn156_0 : ad156.block ≠ gb155 := Nat.ne_of_lt (Nat.lt_of_lt_of_le (by have := World.block_lt_of_cell? _ _ hx156_0; first | rwa [add_block] at this | exact this) GW155.out); replace hx156_0 := (HB.out.cell (World.block_lt_of_cell? w _ hx156_0)).trans hx156_0; replace hx156_1 := (HB.out.cell (World.block_lt_of_cell? w _ hx156_1)).trans hx156_1; replace hx156_0 := (cell_far (p := ⟨gb155, 0, none⟩) (by first | (rw [add_block]; exact hn156_0) | (show (Addr.add _ _).block ≠ _; rw [add_block]; exact hn156_0) | exact hn156_0) (.slice (some ad156) ((rd_T64 l0 x10_1).f0).length c154_0)).trans hx156_0; replace hx156_1 := (cell_far (p := ⟨gb155, 0, none⟩) (by first | (rw [add_block]; exact hn156_0) | (show (Addr.add _ _).block ≠ _; rw [add_block]; exact hn156_0) | exact hn156_0) (.slice (some ad156) ((rd_T64 l0 x10_1).f0).length c154_0)).trans hx156_1; clear hn156_0; replace p156 := eq_true p156; replace q156 := eq_true q156))
         go_roundg k1
         case measure => have := HK1.out; omega
         case rel => exact ⟨(x5_1), (wrap64 (x10_1 + 1)), (by first | rfl | (simp; done) | (simp [bne]; done) | (simp [*]; done)), (by first | rfl | (simp; done) | (simp [bne]; done) | (simp [*]; done)), H', ⟨by have := HK1.out; omega⟩, ⟨by repeat (first | exact HB.out | apply bA | apply bN | apply bD | refine bS ?_ GE155.out)⟩⟩
      ·rw [if_neg c6] at H
       exact absurd H (by simp)
     ·rw [if_neg c5] at H
      exact absurd H (by simp)
    ·rw [if_neg c4] at H
     exact absurd H (by simp)
   ·rw [if_neg c3] at H
    have c3b0 : decide (x10_1 < (l0.length : Int)) = false := decide_eq_false c3
    clear c3
    obtain rfl := Option.some.inj H
    go_wp2
    go_ret
    exact ⟨by first | rfl | (simp only [u8_w_, w64_u8_] <;> rfl) | (simp [errW_none, errW_some] <;> rfl) | (simp [*, errW_none, errW_some] <;> rfl), by exact hopb HB.out⟩

/-! ### impl_PageFind: function 36 -/
def impl_PageFind.f (k : Nat) (l0 : List (S64)) (a1 : ByteArray) : Option (Int) := (impl_PagesValid.f k l0).bind fun t157 => (if t157 = true then ((impl_KeyValid.f k a1).bind fun t158 => (if t158 = true then (if (l0.length : Int) = 0 then (some (-1)) else ((impl_pageOf.f k l0 a1).bind fun t159 => (some t159))) else (some (-1)))) else (some (-1)))
theorem impl_PageFind.mono : ∀ a0 a1 k, LeO (impl_PageFind.f k a0 a1) (impl_PageFind.f (k + 1) a0 a1) := by
 intro a0 a1 k
 unfold impl_PageFind.f
 repeat' first
   | (with_reducible exact impl_KeyValid.mono _ _)
   | (with_reducible exact impl_PagesValid.mono _ _)
   | (with_reducible exact impl_pageOf.mono _ _ _)
   | (with_reducible exact LeO.refl _)
   | (with_reducible exact LeO.none _)
   | (with_reducible refine LeO.ite ?_ ?_)
   | (with_reducible refine LeO.bind ?_ (fun _ => ?_))
   | exact LeO.none _
   | refine LeO.ite ?_ ?_
   | refine LeO.bind ?_ (fun _ => ?_)
theorem impl_PageFind.calls (k : Nat) (A0 : Option Addr) (c0 : Nat) (l0 : List (S64)) (a1 : ByteArray) (r : Int) (w : World) (hr0 : Kd.C k64 w A0 l0.length l0) (hc0 : l0.length ≤ c0) (h : impl_PageFind.f k l0 a1 = some r) :
  Calls Try.prog 36 #[.slice A0 l0.length c0, .string a1] w fun e w' => e = .returned (.int .i64 r) ∧ Below w.heap.size w w' := by
 have HR0 := ak hr0
 have HC0 := ak hc0
 clear hr0 hc0
 have HB := ak (Below.refl w.heap.size w)
 have H : ((impl_PagesValid.f k l0).bind fun t157 => (if t157 = true then ((impl_KeyValid.f k a1).bind fun t158 => (if t158 = true then (if (l0.length : Int) = 0 then (some (-1)) else ((impl_pageOf.f k l0 a1).bind fun t159 => (some t159))) else (some (-1)))) else (some (-1)))) = some r := h
 clear h
 replace H := Option.bind_eq_some_iff.mp H
 obtain ⟨t157, A30, H⟩ := H
 try dsimp only at H
 have A3 := ak A30
 clear A30
 by_cases c4 : t157 = true
 ·subst c4
  rw [if_pos rfl] at H
  replace H := Option.bind_eq_some_iff.mp H
  obtain ⟨t158, A50, H⟩ := H
  try dsimp only at H
  have A5 := ak A50
  clear A50
  by_cases c6 : t158 = true
  ·subst c6
   rw [if_pos rfl] at H
   by_cases c7 : (l0.length : Int) = 0
   ·rw [if_pos c7] at H
    have c7b0 : ((l0.length : Int) == 0) = true := beq_iff_eq.mpr c7
    have c7b1 : ((l0.length : Int) != 0) = false := bne_eq_false_iff_eq.mpr c7
    clear c7
    obtain rfl := Option.some.inj H
    go_enter Try.func36, Try.ntmps36
    go_wp2_with (first | ((with_reducible refine gate_callee (f := 28) rfl ?_); refine goesL_ (some 6) rfl rfl Try.func28 (by kernel_rfl) rfl #[.slice A0 l0.length c0] rfl (by (try simp only [List.map_toArray, List.map_cons, List.map_nil]); first | done | rfl | (simp only [List.length_drop, List.length_take]; rfl)) ?_; (with_reducible refine (impl_PagesValid.calls k _ _ l0 true _ ?side1 ?side2 A3.out).mono ?_); (case side1 => repeat (first | exact HR0.out | (with_reducible refine Kd.C_alloc ?_ _) | (with_reducible refine Kd.C_drewN ?_ _) | (with_reducible refine Kd.C_drew ?_))); (case side2 => exact HC0.out); rintro e w8 ⟨rfl, hb⟩; refine ⟨_, rfl, ?_⟩; replace HB := ak (below_step (by exact hopb HB.out) hb); (try clear hb)) | (go_at_call 50; (with_reducible refine (impl_KeyValid.calls k a1 true _ A5.out).mono ?_); rintro e w' ⟨rfl, ⟨nd, rfl⟩⟩))
    go_ret
    exact ⟨by first | rfl | (simp only [u8_w_, w64_u8_] <;> rfl) | (simp [errW_none, errW_some] <;> rfl) | (simp [*, errW_none, errW_some] <;> rfl), by exact hopb HB.out⟩
   ·rw [if_neg c7] at H
    have c7b0 : ((l0.length : Int) == 0) = false := beq_eq_false_iff_ne.mpr c7
    have c7b1 : ((l0.length : Int) != 0) = true := bne_iff_ne.mpr c7
    have c7b2 : ¬ (l0 = []) := fun h_ => c7 (by rw [h_]; rfl)
    replace H := Option.bind_eq_some_iff.mp H
    obtain ⟨t159, A90, H⟩ := H
    try dsimp only at H
    have A9 := ak A90
    clear A90
    obtain rfl := Option.some.inj H
    go_enter Try.func36, Try.ntmps36
    go_wp2_with (first | ((with_reducible refine gate_callee (f := 28) rfl ?_); refine goesL_ (some 6) rfl rfl Try.func28 (by kernel_rfl) rfl #[.slice A0 l0.length c0] rfl (by (try simp only [List.map_toArray, List.map_cons, List.map_nil]); first | done | rfl | (simp only [List.length_drop, List.length_take]; rfl)) ?_; (with_reducible refine (impl_PagesValid.calls k _ _ l0 true _ ?side1 ?side2 A3.out).mono ?_); (case side1 => repeat (first | exact HR0.out | (with_reducible refine Kd.C_alloc ?_ _) | (with_reducible refine Kd.C_drewN ?_ _) | (with_reducible refine Kd.C_drew ?_))); (case side2 => exact HC0.out); rintro e w10 ⟨rfl, hb⟩; refine ⟨_, rfl, ?_⟩; replace HB := ak (below_step (by exact hopb HB.out) hb); (try clear hb)) | (go_at_call 50; (with_reducible refine (impl_KeyValid.calls k a1 true _ A5.out).mono ?_); rintro e w' ⟨rfl, ⟨nd, rfl⟩⟩) | ((with_reducible refine gate_callee (f := 77) rfl ?_); refine goesL_ (some 20) rfl rfl Try.func77 (by kernel_rfl) rfl #[.slice A0 l0.length c0, .string a1] rfl (by (try simp only [List.map_toArray, List.map_cons, List.map_nil]); first | done | rfl | (simp only [List.length_drop, List.length_take]; rfl)) ?_; (with_reducible refine (impl_pageOf.calls k _ _ l0 a1 t159 _ ?side1 ?side2 A9.out).mono ?_); (case side1 => repeat (first | exact (Kd.C_below HR0.out (by exact hopb HB.out)) | (with_reducible refine Kd.C_alloc ?_ _) | (with_reducible refine Kd.C_drewN ?_ _) | (with_reducible refine Kd.C_drew ?_))); (case side2 => exact HC0.out); rintro e w11 ⟨rfl, hb⟩; refine ⟨_, rfl, ?_⟩; replace HB := ak (below_step (by exact hopb HB.out) hb); (try clear hb)))
    go_ret
    exact ⟨by first | rfl | (simp only [u8_w_, w64_u8_] <;> rfl) | (simp [errW_none, errW_some] <;> rfl) | (simp [*, errW_none, errW_some] <;> rfl), by exact hopb HB.out⟩
  ·replace c6 := Bool.eq_false_iff.mpr c6
   subst c6
   rw [if_neg (show ¬ (false = true) by decide)] at H
   obtain rfl := Option.some.inj H
   go_enter Try.func36, Try.ntmps36
   go_wp2_with (first | ((with_reducible refine gate_callee (f := 28) rfl ?_); refine goesL_ (some 6) rfl rfl Try.func28 (by kernel_rfl) rfl #[.slice A0 l0.length c0] rfl (by (try simp only [List.map_toArray, List.map_cons, List.map_nil]); first | done | rfl | (simp only [List.length_drop, List.length_take]; rfl)) ?_; (with_reducible refine (impl_PagesValid.calls k _ _ l0 true _ ?side1 ?side2 A3.out).mono ?_); (case side1 => repeat (first | exact HR0.out | (with_reducible refine Kd.C_alloc ?_ _) | (with_reducible refine Kd.C_drewN ?_ _) | (with_reducible refine Kd.C_drew ?_))); (case side2 => exact HC0.out); rintro e w12 ⟨rfl, hb⟩; refine ⟨_, rfl, ?_⟩; replace HB := ak (below_step (by exact hopb HB.out) hb); (try clear hb)) | (go_at_call 50; (with_reducible refine (impl_KeyValid.calls k a1 false _ A5.out).mono ?_); rintro e w' ⟨rfl, ⟨nd, rfl⟩⟩))
   go_ret
   exact ⟨by first | rfl | (simp only [u8_w_, w64_u8_] <;> rfl) | (simp [errW_none, errW_some] <;> rfl) | (simp [*, errW_none, errW_some] <;> rfl), by exact hopb HB.out⟩
 ·replace c4 := Bool.eq_false_iff.mpr c4
  subst c4
  rw [if_neg (show ¬ (false = true) by decide)] at H
  obtain rfl := Option.some.inj H
  go_enter Try.func36, Try.ntmps36
  go_wp2_with (first | ((with_reducible refine gate_callee (f := 28) rfl ?_); refine goesL_ (some 6) rfl rfl Try.func28 (by kernel_rfl) rfl #[.slice A0 l0.length c0] rfl (by (try simp only [List.map_toArray, List.map_cons, List.map_nil]); first | done | rfl | (simp only [List.length_drop, List.length_take]; rfl)) ?_; (with_reducible refine (impl_PagesValid.calls k _ _ l0 false _ ?side1 ?side2 A3.out).mono ?_); (case side1 => repeat (first | exact HR0.out | (with_reducible refine Kd.C_alloc ?_ _) | (with_reducible refine Kd.C_drewN ?_ _) | (with_reducible refine Kd.C_drew ?_))); (case side2 => exact HC0.out); rintro e w13 ⟨rfl, hb⟩; refine ⟨_, rfl, ?_⟩; replace HB := ak (below_step (by exact hopb HB.out) hb); (try clear hb)))
  go_ret
  exact ⟨by first | rfl | (simp only [u8_w_, w64_u8_] <;> rfl) | (simp [errW_none, errW_some] <;> rfl) | (simp [*, errW_none, errW_some] <;> rfl), by exact hopb HB.out⟩

end Go.Proofs.Ytebgpbcbbjpbfaa.PFnPageFind
