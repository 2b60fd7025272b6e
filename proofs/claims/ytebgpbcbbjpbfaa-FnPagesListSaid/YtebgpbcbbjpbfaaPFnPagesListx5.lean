-- Written for this claim by a program of this session (wip/myprint in the proofs' repo)
import Derived.Test.YtebgpbcbbjpbfaaPFnPagesListx0
import Derived.Test.YtebgpbcbbjpbfaaPFnPagesListx4
import Derived.Test.YtebgpbcbbjpbfaaWZip
-- slim2
namespace Go.Proofs.Ytebgpbcbbjpbfaa.PFnPagesList
open Go.RowKit Go.Proofs.YtebgpbcbbjpbfaaW.PrintWords Go.Proofs.YtebgpbcbbjpbfaaW.PrintLast Go.Proofs.YtebgpbcbbjpbfaaW.PrintMore
attribute [local go_sem] max2_int min2_int max_two min_two max_three min_three max_four min_four max2_strs min2_strs   -- for this text's walks alone
set_option linter.unusedVariables false
set_option linter.unusedSimpArgs false

/-! ### spec_PagesValid: function 32 -/
def spec_PagesValid.l0 : Nat → List (S64) → List (S71) → Int → Option (Bool)
 | 0, _, _, _ => none
 | k + 1, x0, x3, x4 => if x4 < (x0.length : Int) then (if 0 ≤ x4 then (if (((rd_T64 x0 x4).f0).length : Int) > 4 then (some false) else (if (((rd_T64 x0 x4).f0).length : Int) < 2 then (if (x0.length : Int) > 1 then (some false) else (if (((rd_T64 x0 x4).f0).length : Int) < 1 then (some false) else (if (x3.length : Int) > 48 then (some false) else (if x3.length + ((rd_T64 x0 x4).f0).length < 5864062014805 then (spec_PagesValid.l0 k x0 (x3 ++ ((rd_T64 x0 x4).f0)) (wrap64 (x4 + 1))) else (none))))) else (if (x3.length : Int) > 48 then (some false) else (if x3.length + ((rd_T64 x0 x4).f0).length < 5864062014805 then (spec_PagesValid.l0 k x0 (x3 ++ ((rd_T64 x0 x4).f0)) (wrap64 (x4 + 1))) else (none))))) else (none)) else ((spec_PairsValid.f k x3).bind fun t151 => (some t151))
def spec_PagesValid.f (k : Nat) (l0 : List (S64)) : Option (Bool) := spec_PagesValid.l0 k l0 (([] : List (S71))) 0
theorem spec_PagesValid.mono_l : ∀ k, (∀ y0 y1 y2, LeO (spec_PagesValid.l0 k y0 y1 y2) (spec_PagesValid.l0 (k + 1) y0 y1 y2))
 | 0 => fun _ _ _ r h => by simp [spec_PagesValid.l0] at h
 | k + 1 => by
  have ih0 := spec_PagesValid.mono_l k
  ·intro y0 y1 y2
   unfold spec_PagesValid.l0
   repeat' first
   | (with_reducible exact ih0 _ _ _)
   | (with_reducible exact spec_PairsValid.mono _ _)
   | (with_reducible exact LeO.refl _)
   | (with_reducible exact LeO.none _)
   | (with_reducible refine LeO.ite ?_ ?_)
   | (with_reducible refine LeO.bind ?_ (fun _ => ?_))
   | exact ih0 _ _ _
   | exact spec_PairsValid.mono _ _
   | exact LeO.none _
   | refine LeO.ite ?_ ?_
   | refine LeO.bind ?_ (fun _ => ?_)
theorem spec_PagesValid.mono : ∀ a0 k, LeO (spec_PagesValid.f k a0) (spec_PagesValid.f (k + 1) a0) := by
 intro a0 k
 have ih0 := spec_PagesValid.mono_l k
 unfold spec_PagesValid.f
 repeat' first
   | (with_reducible exact ih0 _ _ _)
   | (with_reducible exact spec_PairsValid.mono _ _)
   | (with_reducible exact LeO.refl _)
   | (with_reducible exact LeO.none _)
   | (with_reducible refine LeO.ite ?_ ?_)
   | (with_reducible refine LeO.bind ?_ (fun _ => ?_))
   | exact ih0 _ _ _
   | exact spec_PairsValid.mono _ _
   | exact LeO.none _
   | refine LeO.ite ?_ ?_
   | refine LeO.bind ?_ (fun _ => ?_)
set_option maxHeartbeats 8000000 in
set_option maxRecDepth 100000 in
theorem spec_PagesValid.calls (k : Nat) (A0 : Option Addr) (c0 : Nat) (l0 : List (S64)) (r : Bool) (w : World) (hr0 : Kd.C k64 w A0 l0.length l0) (hc0 : l0.length ≤ c0) (h : spec_PagesValid.f k l0 = some r) :
  Calls Try.prog 32 #[.slice A0 l0.length c0] w fun e w' => e = .returned (.bool r) ∧ Below w.heap.size w w' := by
 have HR0 := ak hr0
 have HC0 := ak hc0
 clear hr0 hc0
 have HB := ak (Below.refl w.heap.size w)
 have H : (spec_PagesValid.l0 k l0 (([] : List (S71))) 0) = some r := h
 clear h
 obtain ⟨y139, hy139⟩ : ∃ y_ : List (S71), y_ = (([] : List (S71))) := ⟨_, rfl⟩
 replace H : (spec_PagesValid.l0 k l0 y139 0) = some r := by first | (rw [hy139]; exact H) | exact H
 have Ny139 := ak hy139
 clear hy139
 have H' := ak H
 clear H
 go_enter Try.func32, Try.ntmps32
 go_wp2_with (first | ((with_reducible refine gate_dst (N := 6) rfl ?_); (try (refine gate_guard (by rfl) ?_; dsimp only)); refine Kd.R_lit k71 _ 71 ?hg (N := 6) ?hd (xs := ([] : List (S71))) (inner := []) (ok := fun _ => True) (okp := fun _ => True) ?hr ?hp (fun _ hk => hk) trivial (Below.refl _ _) (Nat.le_refl _) (by simp) ?_; (case hd => rfl); (case hg => rfl); (case hr => first | (go_simp; done) | (go_simp; rfl)); (case hp => exact (Reps.none _ _)); intro v140 w2 ho3 hb hg_ hnew_; clear hg_ hnew_; (first | rw [← Ny139.out] at ho3 | (simp only [Int.reduceToNat] at ho3; rw [← Ny139.out] at ho3)); have HO141 := ak (Kd.R_lower ho3 (below_size (by exact hopb HB.out))); replace HB := ak (below_step (by exact hopb HB.out) hb); clear hb ho3))
 go_loopg [3, 4] k (fun kq v3 v4 w' => ∃ (x3_1 : List (S71)) (x4_1 : Int), v4 = .int .i64 x4_1 ∧ Aside0 (spec_PagesValid.l0 kq l0 x3_1 x4_1 = some r) ∧ Aside0 (kq ≤ k) ∧ Aside0 (Kd.R k71 71 w' w.heap.size (fun _ => True) v3 x3_1) ∧ Aside0 (Below w.heap.size w w'))
 case atStart => exact ⟨(y139), (0), (by first | rfl | (simp; done) | (simp [bne]; done) | (simp [*]; done)), H', ⟨Nat.le_refl _⟩, ⟨by (with_reducible repeat (first | apply Kd.R_alloc | apply Kd.R_drewN | apply Kd.R_drew)); exact HO141.out⟩, ⟨by repeat (first | (with_reducible first | exact HB.out | apply bA | apply bN | apply bD) | exact HB.out)⟩⟩
 case round =>
  clear H'
  try clear p2
  try clear c3
  obtain ⟨x3_1, x4_1, rfl, HA, HK1, HO_3, HB⟩ := hrel
  cases gk with
  | zero => exact absurd HA.out (by simp [spec_PagesValid.l0])
  | succ k1 =>
   have H := HA.out
   clear HA
   simp only [spec_PagesValid.l0] at H
   by_cases c4 : x4_1 < (l0.length : Int)
   ·rw [if_pos c4] at H
    have c4b0 : decide (x4_1 < (l0.length : Int)) = true := decide_eq_true c4
    clear c4
    by_cases c5 : 0 ≤ x4_1
    ·rw [if_pos c5] at H
     have c5b0 : decide (0 ≤ x4_1) = true := decide_eq_true c5
     clear c5
     by_cases c6 : (((rd_T64 l0 x4_1).f0).length : Int) > 4
     ·rw [if_pos c6] at H
      have c6b0 : decide (4 < (((rd_T64 l0 x4_1).f0).length : Int)) = true := decide_eq_true c6
      have c6b1 : decide (4 < ((rd_T64 l0 x4_1).f0).length) = true := decide_eq_true (by omega)
      clear c6
      obtain rfl := Option.some.inj H
      have p142 : 0 ≤ (x4_1 : Int) := of_decide_eq_true (by assumption)
      have q142 : x4_1 < (l0.length : Int) := of_decide_eq_true (by assumption)
      obtain ⟨ad142, A142_0, c142_0, e142, hx142_0, hl142_0, hi142_0⟩ := at_T64 HR0.out x4_1 p142 q142
      cases e142
      replace hx142_0 := (HB.out.cell (World.block_lt_of_cell? w _ hx142_0)).trans hx142_0
      have HR142_0 := ak hi142_0
      have HC142_0 := ak hl142_0
      clear hi142_0 hl142_0
      replace p142 := eq_true p142
      replace q142 := eq_true q142
      go_wp2
      go_ret
      exact ⟨by first | rfl | (simp only [u8_w_, w64_u8_] <;> rfl) | (simp [errW_none, errW_some] <;> rfl) | (simp [*, errW_none, errW_some] <;> rfl), by repeat (first | (with_reducible first | exact HB.out | apply bA | apply bN | apply bD) | exact HB.out)⟩
     ·rw [if_neg c6] at H
      have c6b0 : decide (4 < (((rd_T64 l0 x4_1).f0).length : Int)) = false := decide_eq_false c6
      have c6b1 : decide (4 < ((rd_T64 l0 x4_1).f0).length) = false := decide_eq_false (by omega)
      clear c6
      by_cases c7 : (((rd_T64 l0 x4_1).f0).length : Int) < 2
      ·rw [if_pos c7] at H
       have c7b0 : decide ((((rd_T64 l0 x4_1).f0).length : Int) < 2) = true := decide_eq_true c7
       have c7b1 : decide (((rd_T64 l0 x4_1).f0).length < 2) = true := decide_eq_true (by omega)
       clear c7
       by_cases c8 : (l0.length : Int) > 1
       ·rw [if_pos c8] at H
        have c8b0 : decide (1 < (l0.length : Int)) = true := decide_eq_true c8
        have c8b1 : decide (1 < l0.length) = true := decide_eq_true (by omega)
        clear c8
        obtain rfl := Option.some.inj H
        have p142 : 0 ≤ (x4_1 : Int) := of_decide_eq_true (by assumption)
        have q142 : x4_1 < (l0.length : Int) := of_decide_eq_true (by assumption)
        obtain ⟨ad142, A142_0, c142_0, e142, hx142_0, hl142_0, hi142_0⟩ := at_T64 HR0.out x4_1 p142 q142
        cases e142
        replace hx142_0 := (HB.out.cell (World.block_lt_of_cell? w _ hx142_0)).trans hx142_0
        have HR142_0 := ak hi142_0
        have HC142_0 := ak hl142_0
        clear hi142_0 hl142_0
        replace p142 := eq_true p142
        replace q142 := eq_true q142
        go_wp2
        go_ret
        exact ⟨by first | rfl | (simp only [u8_w_, w64_u8_] <;> rfl) | (simp [errW_none, errW_some] <;> rfl) | (simp [*, errW_none, errW_some] <;> rfl), by repeat (first | (with_reducible first | exact HB.out | apply bA | apply bN | apply bD) | exact HB.out)⟩
       ·rw [if_neg c8] at H
        have c8b0 : decide (1 < (l0.length : Int)) = false := decide_eq_false c8
        have c8b1 : decide (1 < l0.length) = false := decide_eq_false (by omega)
        clear c8
        by_cases c9 : (((rd_T64 l0 x4_1).f0).length : Int) < 1
        ·rw [if_pos c9] at H
         have c9b0 : decide ((((rd_T64 l0 x4_1).f0).length : Int) < 1) = true := decide_eq_true c9
         have c9b1 : decide (((rd_T64 l0 x4_1).f0).length < 1) = true := decide_eq_true (by omega)
         clear c9
         obtain rfl := Option.some.inj H
         have p142 : 0 ≤ (x4_1 : Int) := of_decide_eq_true (by assumption)
         have q142 : x4_1 < (l0.length : Int) := of_decide_eq_true (by assumption)
         obtain ⟨ad142, A142_0, c142_0, e142, hx142_0, hl142_0, hi142_0⟩ := at_T64 HR0.out x4_1 p142 q142
         cases e142
         replace hx142_0 := (HB.out.cell (World.block_lt_of_cell? w _ hx142_0)).trans hx142_0
         have HR142_0 := ak hi142_0
         have HC142_0 := ak hl142_0
         clear hi142_0 hl142_0
         replace p142 := eq_true p142
         replace q142 := eq_true q142
         go_wp2
         go_ret
         exact ⟨by first | rfl | (simp only [u8_w_, w64_u8_] <;> rfl) | (simp [errW_none, errW_some] <;> rfl) | (simp [*, errW_none, errW_some] <;> rfl), by repeat (first | (with_reducible first | exact HB.out | apply bA | apply bN | apply bD) | exact HB.out)⟩
        ·rw [if_neg c9] at H
         have c9b0 : decide ((((rd_T64 l0 x4_1).f0).length : Int) < 1) = false := decide_eq_false c9
         have c9b1 : decide (((rd_T64 l0 x4_1).f0).length < 1) = false := decide_eq_false (by omega)
         clear c9
         by_cases c10 : (x3_1.length : Int) > 48
         ·rw [if_pos c10] at H
          have c10b0 : decide (48 < (x3_1.length : Int)) = true := decide_eq_true c10
          have c10b1 : decide (48 < x3_1.length) = true := decide_eq_true (by omega)
          clear c10
          obtain rfl := Option.some.inj H
          have p142 : 0 ≤ (x4_1 : Int) := of_decide_eq_true (by assumption)
          have q142 : x4_1 < (l0.length : Int) := of_decide_eq_true (by assumption)
          obtain ⟨ad142, A142_0, c142_0, e142, hx142_0, hl142_0, hi142_0⟩ := at_T64 HR0.out x4_1 p142 q142
          cases e142
          replace hx142_0 := (HB.out.cell (World.block_lt_of_cell? w _ hx142_0)).trans hx142_0
          have HR142_0 := ak hi142_0
          have HC142_0 := ak hl142_0
          clear hi142_0 hl142_0
          replace p142 := eq_true p142
          replace q142 := eq_true q142
          obtain ⟨Ao11, co11, eo11⟩ := Kd.R_slice HO_3.out
          subst eo11
          go_wp2
          go_ret
          exact ⟨by first | rfl | (simp only [u8_w_, w64_u8_] <;> rfl) | (simp [errW_none, errW_some] <;> rfl) | (simp [*, errW_none, errW_some] <;> rfl), by repeat (first | (with_reducible first | exact HB.out | apply bA | apply bN | apply bD) | exact HB.out)⟩
         ·rw [if_neg c10] at H
          have c10b0 : decide (48 < (x3_1.length : Int)) = false := decide_eq_false c10
          have c10b1 : decide (48 < x3_1.length) = false := decide_eq_false (by omega)
          clear c10
          by_cases c12 : x3_1.length + ((rd_T64 l0 x4_1).f0).length < 5864062014805
          ·rw [if_pos c12] at H
           have LMc12 := ak c12
           clear c12
           obtain ⟨y144, hy144⟩ : ∃ y_ : List (S71), y_ = (x3_1 ++ ((rd_T64 l0 x4_1).f0)) := ⟨_, rfl⟩
           replace H : (spec_PagesValid.l0 k1 l0 y144 (wrap64 (x4_1 + 1))) = some r := by first | (rw [hy144]; exact H) | exact H
           have Ny144 := ak hy144
           clear hy144
           have H' := ak H
           clear H
           have p142 : 0 ≤ (x4_1 : Int) := of_decide_eq_true (by assumption)
           have q142 : x4_1 < (l0.length : Int) := of_decide_eq_true (by assumption)
           obtain ⟨ad142, A142_0, c142_0, e142, hx142_0, hl142_0, hi142_0⟩ := at_T64 HR0.out x4_1 p142 q142
           cases e142
           replace hx142_0 := (HB.out.cell (World.block_lt_of_cell? w _ hx142_0)).trans hx142_0
           have HR142_0 := ak hi142_0
           have HC142_0 := ak hl142_0
           clear hi142_0 hl142_0
           replace p142 := eq_true p142
           replace q142 := eq_true q142
           obtain ⟨Ao13, co13, eo13⟩ := Kd.R_slice HO_3.out
           subst eo13
           have p143 : 0 ≤ (x4_1 : Int) := of_decide_eq_true (by assumption)
           have q143 : x4_1 < (l0.length : Int) := of_decide_eq_true (by assumption)
           obtain ⟨ad143, A143_0, c143_0, e143, hx143_0, hl143_0, hi143_0⟩ := at_T64 HR0.out x4_1 p143 q143
           obtain rfl : ad142 = ad143 := (by injection e143)
           replace hx143_0 := (HB.out.cell (World.block_lt_of_cell? w _ hx143_0)).trans hx143_0
           have HR143_0 := ak hi143_0
           have HC143_0 := ak hl143_0
           clear hi143_0 hl143_0
           replace p143 := eq_true p143
           replace q143 := eq_true q143
           have ea_ := Option.some.inj (hx142_0.symm.trans hx143_0)
           injection ea_ with ea_ en_ ec_
           subst ea_
           subst ec_
           clear en_
           go_wp2_with (first | ((with_reducible refine gate_builtin (b := .append) (xs := #[.tmp 39, .tmp 44]) rfl ?_); (try (refine gate_guard (by rfl) ?_; dsimp only)); at_builtin; refine Kd.R_append_rows k71 (w0 := w) w.heap.size rfl (.tmp 39) (.tmp 44) 32 71 (.agg #[(.string ⟨#[]⟩), (.int .i64 0)]) 24 rfl Try.underlying32 info71 rfl (by decide) (by omega) (.slice Ao13 x3_1.length co13) x3_1 ((rd_T64 l0 x4_1).f0) _ _ _ (fun _ => True) (fun _ => False) rfl rfl ?aO ?aR (fun _ _ h => h) (fun _ h => h.elim) ?aF ?aB ?aS ?aL ?_; (case aR => repeat (first | exact (Kd.C_below HR143_0.out HB.out) | (with_reducible refine Kd.C_alloc ?_ _) | (with_reducible refine Kd.C_drewN ?_ _) | (with_reducible refine Kd.C_drew ?_))); (case aB => exact (by exact hopb HB.out)); (case aF => exact (fun _ _ => trivial)); (case aO => exact (by (with_reducible repeat (first | apply Kd.R_alloc | apply Kd.R_drewN | apply Kd.R_drew)); exact HO_3.out)); (case aS => exact (below_size (by exact hopb HB.out))); (case aL => have := LMc12.out; omega); intro v145 w14 ho hb hg hat; rw [← Ny144.out] at ho; replace HB := ak (hb); have HO146 := ak (ho); clear HO_3; clear ho hb hg hat))
           go_roundg k1
           case measure => have := HK1.out; omega
           case rel => exact ⟨(y144), (wrap64 (x4_1 + 1)), (by first | rfl | (simp; done) | (simp [bne]; done) | (simp [*]; done)), H', ⟨by have := HK1.out; omega⟩, ⟨by (with_reducible repeat (first | apply Kd.R_alloc | apply Kd.R_drewN | apply Kd.R_drew)); exact HO146.out⟩, ⟨by repeat (first | (with_reducible first | exact HB.out | apply bA | apply bN | apply bD) | exact HB.out)⟩⟩
          ·rw [if_neg c12] at H
           exact absurd H (by simp)
      ·rw [if_neg c7] at H
       have c7b0 : decide ((((rd_T64 l0 x4_1).f0).length : Int) < 2) = false := decide_eq_false c7
       have c7b1 : decide (((rd_T64 l0 x4_1).f0).length < 2) = false := decide_eq_false (by omega)
       clear c7
       by_cases c15 : (x3_1.length : Int) > 48
       ·rw [if_pos c15] at H
        have c15b0 : decide (48 < (x3_1.length : Int)) = true := decide_eq_true c15
        have c15b1 : decide (48 < x3_1.length) = true := decide_eq_true (by omega)
        clear c15
        obtain rfl := Option.some.inj H
        have p142 : 0 ≤ (x4_1 : Int) := of_decide_eq_true (by assumption)
        have q142 : x4_1 < (l0.length : Int) := of_decide_eq_true (by assumption)
        obtain ⟨ad142, A142_0, c142_0, e142, hx142_0, hl142_0, hi142_0⟩ := at_T64 HR0.out x4_1 p142 q142
        cases e142
        replace hx142_0 := (HB.out.cell (World.block_lt_of_cell? w _ hx142_0)).trans hx142_0
        have HR142_0 := ak hi142_0
        have HC142_0 := ak hl142_0
        clear hi142_0 hl142_0
        replace p142 := eq_true p142
        replace q142 := eq_true q142
        obtain ⟨Ao16, co16, eo16⟩ := Kd.R_slice HO_3.out
        subst eo16
        go_wp2
        go_ret
        exact ⟨by first | rfl | (simp only [u8_w_, w64_u8_] <;> rfl) | (simp [errW_none, errW_some] <;> rfl) | (simp [*, errW_none, errW_some] <;> rfl), by repeat (first | (with_reducible first | exact HB.out | apply bA | apply bN | apply bD) | exact HB.out)⟩
       ·rw [if_neg c15] at H
        have c15b0 : decide (48 < (x3_1.length : Int)) = false := decide_eq_false c15
        have c15b1 : decide (48 < x3_1.length) = false := decide_eq_false (by omega)
        clear c15
        by_cases c17 : x3_1.length + ((rd_T64 l0 x4_1).f0).length < 5864062014805
        ·rw [if_pos c17] at H
         have LMc17 := ak c17
         clear c17
         obtain ⟨y148, hy148⟩ : ∃ y_ : List (S71), y_ = (x3_1 ++ ((rd_T64 l0 x4_1).f0)) := ⟨_, rfl⟩
         replace H : (spec_PagesValid.l0 k1 l0 y148 (wrap64 (x4_1 + 1))) = some r := by first | (rw [hy148]; exact H) | exact H
         have Ny148 := ak hy148
         clear hy148
         have H' := ak H
         clear H
         have p142 : 0 ≤ (x4_1 : Int) := of_decide_eq_true (by assumption)
         have q142 : x4_1 < (l0.length : Int) := of_decide_eq_true (by assumption)
         obtain ⟨ad142, A142_0, c142_0, e142, hx142_0, hl142_0, hi142_0⟩ := at_T64 HR0.out x4_1 p142 q142
         cases e142
         replace hx142_0 := (HB.out.cell (World.block_lt_of_cell? w _ hx142_0)).trans hx142_0
         have HR142_0 := ak hi142_0
         have HC142_0 := ak hl142_0
         clear hi142_0 hl142_0
         replace p142 := eq_true p142
         replace q142 := eq_true q142
         obtain ⟨Ao18, co18, eo18⟩ := Kd.R_slice HO_3.out
         subst eo18
         have p147 : 0 ≤ (x4_1 : Int) := of_decide_eq_true (by assumption)
         have q147 : x4_1 < (l0.length : Int) := of_decide_eq_true (by assumption)
         obtain ⟨ad147, A147_0, c147_0, e147, hx147_0, hl147_0, hi147_0⟩ := at_T64 HR0.out x4_1 p147 q147
         obtain rfl : ad142 = ad147 := (by injection e147)
         replace hx147_0 := (HB.out.cell (World.block_lt_of_cell? w _ hx147_0)).trans hx147_0
         have HR147_0 := ak hi147_0
         have HC147_0 := ak hl147_0
         clear hi147_0 hl147_0
         replace p147 := eq_true p147
         replace q147 := eq_true q147
         have ea_ := Option.some.inj (hx142_0.symm.trans hx147_0)
         injection ea_ with ea_ en_ ec_
         subst ea_
         subst ec_
         clear en_
         go_wp2_with (first | ((with_reducible refine gate_builtin (b := .append) (xs := #[.tmp 39, .tmp 44]) rfl ?_); (try (refine gate_guard (by rfl) ?_; dsimp only)); at_builtin; refine Kd.R_append_rows k71 (w0 := w) w.heap.size rfl (.tmp 39) (.tmp 44) 32 71 (.agg #[(.string ⟨#[]⟩), (.int .i64 0)]) 24 rfl Try.underlying32 info71 rfl (by decide) (by omega) (.slice Ao18 x3_1.length co18) x3_1 ((rd_T64 l0 x4_1).f0) _ _ _ (fun _ => True) (fun _ => False) rfl rfl ?aO ?aR (fun _ _ h => h) (fun _ h => h.elim) ?aF ?aB ?aS ?aL ?_; (case aR => repeat (first | exact (Kd.C_below HR147_0.out HB.out) | (with_reducible refine Kd.C_alloc ?_ _) | (with_reducible refine Kd.C_drewN ?_ _) | (with_reducible refine Kd.C_drew ?_))); (case aB => exact (by exact hopb HB.out)); (case aF => exact (fun _ _ => trivial)); (case aO => exact (by (with_reducible repeat (first | apply Kd.R_alloc | apply Kd.R_drewN | apply Kd.R_drew)); exact HO_3.out)); (case aS => exact (below_size (by exact hopb HB.out))); (case aL => have := LMc17.out; omega); intro v149 w19 ho hb hg hat; rw [← Ny148.out] at ho; replace HB := ak (hb); have HO150 := ak (ho); clear HO_3; clear ho hb hg hat))
         go_roundg k1
         case measure => have := HK1.out; omega
         case rel => exact ⟨(y148), (wrap64 (x4_1 + 1)), (by first | rfl | (simp; done) | (simp [bne]; done) | (simp [*]; done)), H', ⟨by have := HK1.out; omega⟩, ⟨by (with_reducible repeat (first | apply Kd.R_alloc | apply Kd.R_drewN | apply Kd.R_drew)); exact HO150.out⟩, ⟨by repeat (first | (with_reducible first | exact HB.out | apply bA | apply bN | apply bD) | exact HB.out)⟩⟩
        ·rw [if_neg c17] at H
         exact absurd H (by simp)
    ·rw [if_neg c5] at H
     exact absurd H (by simp)
   ·rw [if_neg c4] at H
    have c4b0 : decide (x4_1 < (l0.length : Int)) = false := decide_eq_false c4
    clear c4
    replace H := Option.bind_eq_some_iff.mp H
    obtain ⟨t151, A200, H⟩ := H
    try dsimp only at H
    have A20 := ak A200
    clear A200
    obtain rfl := Option.some.inj H
    obtain ⟨Ao21, co21, eo21⟩ := Kd.R_slice HO_3.out
    subst eo21
    go_wp2_with (first | ((with_reducible refine gate_callee (f := 69) rfl ?_); refine goesL_ (some 47) rfl rfl Try.func69 (by kernel_rfl) rfl #[.slice Ao21 x3_1.length co21] rfl (by (try simp only [List.map_toArray, List.map_cons, List.map_nil]); first | done | rfl | (simp only [List.length_drop, List.length_take]; rfl)) ?_; (with_reducible refine (spec_PairsValid.calls k1 _ _ x3_1 t151 _ ?side1 ?side2 A20.out).mono ?_); (case side1 => repeat (first | exact (Kd.R_reads' HO_3.out).2.2 | (with_reducible refine Kd.C_alloc ?_ _) | (with_reducible refine Kd.C_drewN ?_ _) | (with_reducible refine Kd.C_drew ?_))); (case side2 => exact (Kd.R_reads' HO_3.out).2.1); rintro e w22 ⟨rfl, hb⟩; refine ⟨_, rfl, ?_⟩; replace HO_3 := ak (Kd.R_below (by (with_reducible repeat (first | apply Kd.R_alloc | apply Kd.R_drewN | apply Kd.R_drew)); exact HO_3.out) hb); replace HB := ak (below_step (by exact hopb HB.out) hb); (try clear hb)))
    go_ret
    exact ⟨by first | rfl | (simp only [u8_w_, w64_u8_] <;> rfl) | (simp [errW_none, errW_some] <;> rfl) | (simp [*, errW_none, errW_some] <;> rfl), by repeat (first | (with_reducible first | exact HB.out | apply bA | apply bN | apply bD) | exact HB.out)⟩

/-! ### spec_PagesList: function 43 -/
def spec_PagesList.l0 : Nat → List (S64) → List (S71) → Int → Option ((List (S71)))
 | 0, _, _, _ => none
 | k + 1, x0, x3, x4 => if x4 < (x0.length : Int) then ((spec_PagesValid.f k x0).bind fun t155 => (if t155 = true then (if 0 ≤ x4 then (if x3.length + ((rd_T64 x0 x4).f0).length < 5864062014805 then (spec_PagesList.l0 k x0 (x3 ++ ((rd_T64 x0 x4).f0)) (wrap64 (x4 + 1))) else (none)) else (none)) else (some x3))) else (some x3)
def spec_PagesList.f (k : Nat) (l0 : List (S64)) : Option ((List (S71))) := spec_PagesList.l0 k l0 (([] : List (S71))) 0
theorem spec_PagesList.mono_l : ∀ k, (∀ y0 y1 y2, LeO (spec_PagesList.l0 k y0 y1 y2) (spec_PagesList.l0 (k + 1) y0 y1 y2))
 | 0 => fun _ _ _ r h => by simp [spec_PagesList.l0] at h
 | k + 1 => by
  have ih0 := spec_PagesList.mono_l k
  ·intro y0 y1 y2
   unfold spec_PagesList.l0
   repeat' first
   | (with_reducible exact ih0 _ _ _)
   | (with_reducible exact spec_PagesValid.mono _ _)
   | (with_reducible exact LeO.refl _)
   | (with_reducible exact LeO.none _)
   | (with_reducible refine LeO.ite ?_ ?_)
   | (with_reducible refine LeO.bind ?_ (fun _ => ?_))
   | exact ih0 _ _ _
   | exact spec_PagesValid.mono _ _
   | exact LeO.none _
   | refine LeO.ite ?_ ?_
   | refine LeO.bind ?_ (fun _ => ?_)
theorem spec_PagesList.mono : ∀ a0 k, LeO (spec_PagesList.f k a0) (spec_PagesList.f (k + 1) a0) := by
 intro a0 k
 have ih0 := spec_PagesList.mono_l k
 unfold spec_PagesList.f
 repeat' first
   | (with_reducible exact ih0 _ _ _)
   | (with_reducible exact spec_PagesValid.mono _ _)
   | (with_reducible exact LeO.refl _)
   | (with_reducible exact LeO.none _)
   | (with_reducible refine LeO.ite ?_ ?_)
   | (with_reducible refine LeO.bind ?_ (fun _ => ?_))
   | exact ih0 _ _ _
   | exact spec_PagesValid.mono _ _
   | exact LeO.none _
   | refine LeO.ite ?_ ?_
   | refine LeO.bind ?_ (fun _ => ?_)
set_option maxHeartbeats 8000000 in
set_option maxRecDepth 100000 in
theorem spec_PagesList.calls (k : Nat) (A0 : Option Addr) (c0 : Nat) (l0 : List (S64)) (r : List (S71)) (w : World) (hr0 : Kd.C k64 w A0 l0.length l0) (hc0 : l0.length ≤ c0) (h : spec_PagesList.f k l0 = some r) :
  Calls Try.prog 43 #[.slice A0 l0.length c0] w fun e w' => ∃ v0_ : Value, e = .returned (v0_) ∧ Kd.R k71 71 w' w.heap.size (fun _ => True) v0_ r ∧ Below w.heap.size w w' := by
 have HR0 := ak hr0
 have HC0 := ak hc0
 clear hr0 hc0
 have HB := ak (Below.refl w.heap.size w)
 have H : (spec_PagesList.l0 k l0 (([] : List (S71))) 0) = some r := h
 clear h
 obtain ⟨y152, hy152⟩ : ∃ y_ : List (S71), y_ = (([] : List (S71))) := ⟨_, rfl⟩
 replace H : (spec_PagesList.l0 k l0 y152 0) = some r := by first | (rw [hy152]; exact H) | exact H
 have Ny152 := ak hy152
 clear hy152
 have H' := ak H
 clear H
 go_enter Try.func43, Try.ntmps43
 go_wp2_with (first | ((with_reducible refine gate_dst (N := 5) rfl ?_); refine Kd.R_lit k71 _ 71 ?hg (N := 5) ?hd (xs := ([] : List (S71))) (inner := []) (ok := fun _ => True) (okp := fun _ => True) ?hr ?hp (fun _ hk => hk) trivial (Below.refl _ _) (Nat.le_refl _) (by simp) ?_; (case hd => rfl); (case hg => rfl); (case hr => first | (go_simp; done) | (go_simp; rfl)); (case hp => exact (Reps.none _ _)); intro v153 w2 ho3 hb hg_ hnew_; clear hg_ hnew_; (first | rw [← Ny152.out] at ho3 | (simp only [Int.reduceToNat] at ho3; rw [← Ny152.out] at ho3)); have HO154 := ak (Kd.R_lower ho3 (below_size (by exact hopb HB.out))); replace HB := ak (below_step (by exact hopb HB.out) hb); clear hb ho3))
 go_loopg [3, 4] k (fun kq v3 v4 w' => ∃ (x3_1 : List (S71)) (x4_1 : Int), v4 = .int .i64 x4_1 ∧ Aside0 (spec_PagesList.l0 kq l0 x3_1 x4_1 = some r) ∧ Aside0 (kq ≤ k) ∧ Aside0 (Kd.R k71 71 w' w.heap.size (fun _ => True) v3 x3_1) ∧ Aside0 (Below w.heap.size w w'))
 case atStart => exact ⟨(y152), (0), (by first | rfl | (simp; done) | (simp [bne]; done) | (simp [*]; done)), H', ⟨Nat.le_refl _⟩, ⟨by (with_reducible repeat (first | apply Kd.R_alloc | apply Kd.R_drewN | apply Kd.R_drew)); exact HO154.out⟩, ⟨by repeat (first | (with_reducible first | exact HB.out | apply bA | apply bN | apply bD) | exact HB.out)⟩⟩
 case round =>
  clear H'
  try clear p2
  obtain ⟨x3_1, x4_1, rfl, HA, HK1, HO_3, HB⟩ := hrel
  cases gk with
  | zero => exact absurd HA.out (by simp [spec_PagesList.l0])
  | succ k1 =>
   have H := HA.out
   clear HA
   simp only [spec_PagesList.l0] at H
   by_cases c4 : x4_1 < (l0.length : Int)
   ·rw [if_pos c4] at H
    have c4b0 : decide (x4_1 < (l0.length : Int)) = true := decide_eq_true c4
    clear c4
    replace H := Option.bind_eq_some_iff.mp H
    obtain ⟨t155, A50, H⟩ := H
    try dsimp only at H
    have A5 := ak A50
    clear A50
    by_cases c6 : t155 = true
    ·subst c6
     rw [if_pos rfl] at H
     by_cases c7 : 0 ≤ x4_1
     ·rw [if_pos c7] at H
      have c7b0 : decide (0 ≤ x4_1) = true := decide_eq_true c7
      clear c7
      by_cases c8 : x3_1.length + ((rd_T64 l0 x4_1).f0).length < 5864062014805
      ·rw [if_pos c8] at H
       have LMc8 := ak c8
       clear c8
       obtain ⟨y157, hy157⟩ : ∃ y_ : List (S71), y_ = (x3_1 ++ ((rd_T64 l0 x4_1).f0)) := ⟨_, rfl⟩
       replace H : (spec_PagesList.l0 k1 l0 y157 (wrap64 (x4_1 + 1))) = some r := by first | (rw [hy157]; exact H) | exact H
       have Ny157 := ak hy157
       clear hy157
       have H' := ak H
       clear H
       go_wp2_with (first | (go_at_call 32; (with_reducible refine (spec_PagesValid.calls k1 _ _ l0 true _ ?side1 ?side2 A5.out).mono ?_); (case side1 => repeat (first | exact (Kd.C_below HR0.out HB.out) | (with_reducible refine Kd.C_alloc ?_ _) | (with_reducible refine Kd.C_drewN ?_ _) | (with_reducible refine Kd.C_drew ?_))); (case side2 => exact HC0.out); rintro e w9 ⟨rfl, hb⟩; replace HO_3 := ak (Kd.R_below (by (with_reducible repeat (first | apply Kd.R_alloc | apply Kd.R_drewN | apply Kd.R_drew)); exact HO_3.out) hb); replace HB := ak (below_step (by exact hopb HB.out) hb); (try clear hb); have p156 : 0 ≤ (x4_1 : Int) := of_decide_eq_true (by assumption); have q156 : x4_1 < (l0.length : Int) := of_decide_eq_true (by assumption); obtain ⟨ad156, A156_0, c156_0, e156, hx156_0, hl156_0, hi156_0⟩ := at_T64 HR0.out x4_1 p156 q156; cases e156; replace hx156_0 := (HB.out.cell (World.block_lt_of_cell? w _ hx156_0)).trans hx156_0; have HR156_0 := ak hi156_0; have HC156_0 := ak hl156_0; clear hi156_0 hl156_0; replace p156 := eq_true p156; replace q156 := eq_true q156) | ((with_reducible refine gate_builtin (b := .append) (xs := #[.tmp 16, .tmp 21]) rfl ?_); at_builtin; refine Kd.R_append_rows k71 (w0 := w) w.heap.size rfl (.tmp 16) (.tmp 21) 32 71 (.agg #[(.string ⟨#[]⟩), (.int .i64 0)]) 24 rfl Try.underlying32 info71 rfl (by decide) (by omega) u3 x3_1 ((rd_T64 l0 x4_1).f0) _ _ _ (fun _ => True) (fun _ => False) rfl rfl ?aO ?aR (fun _ _ h => h) (fun _ h => h.elim) ?aF ?aB ?aS ?aL ?_; (case aR => repeat (first | exact (Kd.C_below HR156_0.out HB.out) | (with_reducible refine Kd.C_alloc ?_ _) | (with_reducible refine Kd.C_drewN ?_ _) | (with_reducible refine Kd.C_drew ?_))); (case aB => exact (by exact hopb HB.out)); (case aF => exact (fun _ _ => trivial)); (case aO => exact (by (with_reducible repeat (first | apply Kd.R_alloc | apply Kd.R_drewN | apply Kd.R_drew)); exact HO_3.out)); (case aS => exact (below_size (by exact hopb HB.out))); (case aL => have := LMc8.out; omega); intro v158 w10 ho hb hg hat; rw [← Ny157.out] at ho; replace HB := ak (hb); have HO159 := ak (ho); clear HO_3; clear ho hb hg hat))
       go_roundg k1
       case measure => have := HK1.out; omega
       case rel => exact ⟨(y157), (wrap64 (x4_1 + 1)), (by first | rfl | (simp; done) | (simp [bne]; done) | (simp [*]; done)), H', ⟨by have := HK1.out; omega⟩, ⟨by (with_reducible repeat (first | apply Kd.R_alloc | apply Kd.R_drewN | apply Kd.R_drew)); exact HO159.out⟩, ⟨by repeat (first | (with_reducible first | exact HB.out | apply bA | apply bN | apply bD) | exact HB.out)⟩⟩
      ·rw [if_neg c8] at H
       exact absurd H (by simp)
     ·rw [if_neg c7] at H
      exact absurd H (by simp)
    ·replace c6 := Bool.eq_false_iff.mpr c6
     subst c6
     rw [if_neg (show ¬ (false = true) by decide)] at H
     obtain rfl := Option.some.inj H
     go_wp2_with (first | (go_at_call 32; (with_reducible refine (spec_PagesValid.calls k1 _ _ l0 false _ ?side1 ?side2 A5.out).mono ?_); (case side1 => repeat (first | exact (Kd.C_below HR0.out HB.out) | (with_reducible refine Kd.C_alloc ?_ _) | (with_reducible refine Kd.C_drewN ?_ _) | (with_reducible refine Kd.C_drew ?_))); (case side2 => exact HC0.out); rintro e w11 ⟨rfl, hb⟩; replace HO_3 := ak (Kd.R_below (by (with_reducible repeat (first | apply Kd.R_alloc | apply Kd.R_drewN | apply Kd.R_drew)); exact HO_3.out) hb); replace HB := ak (below_step (by exact hopb HB.out) hb); (try clear hb)))
     go_ret
     exact ⟨_, by first | rfl | (simp only [u8_w_, w64_u8_] <;> rfl) | (simp [errW_none, errW_some] <;> rfl) | (simp [*, errW_none, errW_some] <;> rfl), by (with_reducible repeat (first | apply Kd.R_alloc | apply Kd.R_drewN | apply Kd.R_drew)); exact HO_3.out, by repeat (first | (with_reducible first | exact HB.out | apply bA | apply bN | apply bD) | exact HB.out)⟩
   ·rw [if_neg c4] at H
    have c4b0 : decide (x4_1 < (l0.length : Int)) = false := decide_eq_false c4
    clear c4
    obtain rfl := Option.some.inj H
    go_wp2
    go_ret
    exact ⟨_, by first | rfl | (simp only [u8_w_, w64_u8_] <;> rfl) | (simp [errW_none, errW_some] <;> rfl) | (simp [*, errW_none, errW_some] <;> rfl), by (with_reducible repeat (first | apply Kd.R_alloc | apply Kd.R_drewN | apply Kd.R_drew)); exact HO_3.out, by repeat (first | (with_reducible first | exact HB.out | apply bA | apply bN | apply bD) | exact HB.out)⟩

/-- A state of type 116 at block g of W; what its slices lead to came in by w0. -/
def IsS116 (w0 W : World) (g : Nat) (f0 : List Int) (f1 : Int) : Prop := ∃ A0 c0, W.heap[g]? = some (.cells #[.slice A0 f0.length c0, .int .i64 f1] 116 (0, 0)) ∧ w0.heap.size ≤ g ∧ Kd.C (Kd.int .u8) w0 A0 f0.length f0
theorem IsS116.grown {w0 W : World} {g : Nat} {f0 : List Int} {f1 : Int} {W1 : World} {row : Option Nat} (h : IsS116 w0 W g f0 f1) (hw : W.grownBy W1 row) (hne : some g ≠ row) : IsS116 w0 W1 g f0 f1 := by
 obtain ⟨A0, c0, hb, hg, hr0⟩ := h
 exact ⟨A0, c0, blk_grown hb hw hne, hg, hr0⟩
theorem IsS116.own_neN {w0 W : World} {g : Nat} {f0 : List Int} {f1 : Int} {α : Type} {d : Kd α} {e : Nat} {base : Nat} {ok : Nat → Prop} {v : Value} {xs : List α} (h : IsS116 w0 W g f0 f1) (ho : Kd.N d e W base ok v xs) (ht : e ≠ 116) : some g ≠ v.ownBlock := by
 obtain ⟨A0, c0, hb, hg, hr0⟩ := h
 exact Kd.N_ne ho hb ht
theorem IsS116.fresh {w0 W : World} {g : Nat} {f0 : List Int} {f1 : Int} (h : IsS116 w0 W g f0 f1) : ∀ k, W.heap.size ≤ k → k ≠ g := by
 obtain ⟨A0, c0, hb, hg, hr0⟩ := h
 exact Kd.freshB hb
theorem IsS116.kept {w0 W : World} {g : Nat} {f0 : List Int} {f1 : Int} {W1 : World} {S : Nat → Prop} (h : IsS116 w0 W g f0 f1) (hk : Kept W W1 S) (hne : ¬ S g) : IsS116 w0 W1 g f0 f1 := by
 obtain ⟨A0, c0, hb, hg, hr0⟩ := h
 exact ⟨A0, c0, blk_kept hb hk hne, hg, hr0⟩
theorem IsS116.below {w0 W : World} {g : Nat} {f0 : List Int} {f1 : Int} {W1 : World} (h : IsS116 w0 W g f0 f1) (hw : Below W.heap.size W W1) : IsS116 w0 W1 g f0 f1 := h.grown (grown_of_below hw none) (by simp)
theorem IsS116.alloc {w0 W : World} {g : Nat} {f0 : List Int} {f1 : Int} (h : IsS116 w0 W g f0 f1) (o : Obj) : IsS116 w0 (W.alloc o) g f0 f1 := h.below (below_alloc (Below.refl _ _) o)
theorem IsS116.drewN {w0 W : World} {g : Nat} {f0 : List Int} {f1 : Int} (h : IsS116 w0 W g f0 f1) (m : Nat) : IsS116 w0 (W.drewN m) g f0 f1 := h
theorem IsS116.drew {w0 W : World} {g : Nat} {f0 : List Int} {f1 : Int} (h : IsS116 w0 W g f0 f1) : IsS116 w0 W.drew g f0 f1 := h
theorem IsS116.at_ {w0 W : World} {g : Nat} {f0 : List Int} {f1 : Int} {w' : World} {m : Nat} (hq : W.drewN m = w') (h : IsS116 w0 W g f0 f1) : IsS116 w0 w' g f0 f1 := by subst hq; exact IsS116.drewN h m
theorem IsS116.apart {w0 W : World} {g : Nat} {f0 : List Int} {f1 : Int} {α : Type} {d : Kd α} {e : Nat} {base : Nat} {ok : Nat → Prop} {v : Value} {xs : List α} (h : IsS116 w0 W g f0 f1) (ho : d.R e W base ok v xs) (ht : ∀ q, q ∈ e :: d.E → q ≠ 116) : d.R e W base (fun k => ok k ∧ k ≠ g) v xs := by
 obtain ⟨A0, c0, hb, hg, hr0⟩ := h
 exact Kd.R_types ho hb ht
theorem IsS116.own_ne {w0 W : World} {g : Nat} {f0 : List Int} {f1 : Int} {α : Type} {d : Kd α} {e : Nat} {base : Nat} {ok : Nat → Prop} {v : Value} {xs : List α} (h : IsS116 w0 W g f0 f1) (ho : d.R e W base ok v xs) (ht : e ≠ 116) : some g ≠ v.ownBlock := by
 obtain ⟨A0, c0, hb, hg, hr0⟩ := h
 exact Kd.R_ne ho hb ht
theorem IsS116.apartQ {w0 W : World} {g : Nat} {f0 : List Int} {f1 : Int} {α : Type} {d : Kd α} {e : Nat} {base : Nat} {ok : Nat → Prop} {v : Value} {xs : List α} (h : IsS116 w0 W g f0 f1) (ho : d.Q e W base ok v xs) (ht : ∀ q, q ∈ e :: d.E → q ≠ 116) : d.Q e W base (fun k => ok k ∧ k ≠ g) v xs := by
 obtain ⟨A0, c0, hb, hg, hr0⟩ := h
 exact Kd.Q_types ho hb ht
theorem IsS116.own_neQ {w0 W : World} {g : Nat} {f0 : List Int} {f1 : Int} {α : Type} {d : Kd α} {e : Nat} {base : Nat} {ok : Nat → Prop} {v : Value} {xs : List α} (h : IsS116 w0 W g f0 f1) (ho : d.Q e W base ok v xs) (ht : e ≠ 116) : some g ≠ v.ownBlock := by
 obtain ⟨A0, c0, hb, hg, hr0⟩ := h
 exact Kd.Q_ne ho hb ht
theorem IsS116.apartS {w0 W : World} {g : Nat} {f0 : List Int} {f1 : Int} {α : Type} {d : Kd α} {e : Nat} {base : Nat} {ok : Nat → Prop} {v : Value} {xs : List α} (h : IsS116 w0 W g f0 f1) (ho : d.S e W base ok v xs) (ht : ∀ q, q ∈ e :: d.E → q ≠ 116) : d.S e W base (fun k => ok k ∧ k ≠ g) v xs := by
 obtain ⟨A0, c0, hb, hg, hr0⟩ := h
 exact Kd.S_types ho hb ht
theorem IsS116.own_neS {w0 W : World} {g : Nat} {f0 : List Int} {f1 : Int} {α : Type} {d : Kd α} {e : Nat} {base : Nat} {ok : Nat → Prop} {v : Value} {xs : List α} (h : IsS116 w0 W g f0 f1) (ho : d.S e W base ok v xs) (ht : e ≠ 116) : some g ≠ v.ownBlock := by
 obtain ⟨A0, c0, hb, hg, hr0⟩ := h
 exact Kd.S_ne ho hb ht
theorem IsS116.lt {w0 W : World} {g : Nat} {f0 : List Int} {f1 : Int} (h : IsS116 w0 W g f0 f1) : g < W.heap.size := by
 obtain ⟨A0, c0, hb, hg, hr0⟩ := h
 exact blk_lt hb
theorem IsS116.ge {w0 W : World} {g : Nat} {f0 : List Int} {f1 : Int} (h : IsS116 w0 W g f0 f1) : w0.heap.size ≤ g := by
 obtain ⟨A0, c0, hb, hg, hr0⟩ := h
 exact hg
theorem IsS116.ne_blk {w0 W : World} {g : Nat} {f0 : List Int} {f1 : Int} {a : Nat} {cs : Array Value} {t : TypeId} {fr : Nat × Nat} (h : IsS116 w0 W g f0 f1) (hb2 : W.heap[a]? = some (.cells cs t fr)) (ht : t ≠ 116) : g ≠ a := by
 obtain ⟨A0, c0, hb, hg, hr0⟩ := h
 rintro rfl
 rw [hb] at hb2
 injection hb2 with hb2
 injection hb2 with _ ht2
 exact ht ht2.symm
theorem IsS116.far {w0 W : World} {g : Nat} {f0 : List Int} {f1 : Int} {p : Addr} (h : IsS116 w0 W g f0 f1) (hne : g ≠ p.block) (u : Value) : IsS116 w0 (W.setCell p u) g f0 f1 := by
 obtain ⟨A0, c0, hb, hg, hr0⟩ := h
 exact ⟨A0, c0, blk_far hb hne u, hg, hr0⟩
theorem cellS116_0 {W : World} {g : Nat} {A0 : Option Addr} {c0 : Nat} {f0 : List Int} {f1 : Int} (h : W.heap[g]? = some (.cells #[.slice A0 f0.length c0, .int .i64 f1] 116 (0, 0))) : W.cell? ⟨g, 0, none⟩ = some (.slice A0 f0.length c0) := (blk_cell h 0).trans rfl
theorem cellS116_1 {W : World} {g : Nat} {A0 : Option Addr} {c0 : Nat} {f0 : List Int} {f1 : Int} (h : W.heap[g]? = some (.cells #[.slice A0 f0.length c0, .int .i64 f1] 116 (0, 0))) : W.cell? ⟨g, 1, none⟩ = some (.int .i64 f1) := (blk_cell h 1).trans rfl
theorem IsS116.set_1 {w0 W : World} {g : Nat} {f0 : List Int} {f1 : Int} (h : IsS116 w0 W g f0 f1) (x : Int) : IsS116 w0 (W.setCell ⟨g, 1, none⟩ (.int .i64 x)) g f0 x := by
 obtain ⟨A0, c0, hb, hg, hr0⟩ := h
 exact ⟨A0, c0, by simpa using blk_set hb 1 (.int .i64 x), hg, hr0⟩
theorem IsS116.new (w0 W : World) (A0 : Option Addr) (c0 : Nat) (f0 : List Int) (f1 : Int) (hB : Below w0.heap.size w0 W) (hr0 : Kd.C (Kd.int .u8) w0 A0 f0.length f0) : IsS116 w0 (W.alloc (.cells #[.slice A0 f0.length c0, .int .i64 f1] 116)) W.heap.size f0 f1 := ⟨A0, c0, by simpa using heap_alloc_new W _, hB.size, hr0⟩

/-! ### spec_l20Open: function 67 -/
def spec_l20Open.f (l0 : List Int) : Option (List Int × Int) := if (l0.length : Int) > 2000 then (if 2000 ≤ (l0.length : Int) then (some (l0.take 2000, 0)) else (none)) else (some (l0, 0))
set_option maxHeartbeats 8000000 in
set_option maxRecDepth 100000 in
theorem spec_l20Open.calls (A0 : Option Addr) (c0 : Nat) (l0 : List Int) (r1 : List Int) (r2 : Int) (w0 w : World) (hB : Below w0.heap.size w0 w) (hr0 : Kd.C (Kd.int .u8) w0 A0 l0.length l0) (hc0 : l0.length ≤ c0) (h : spec_l20Open.f l0 = some (r1, r2)) :
  Calls Try.prog 67 #[.slice A0 l0.length c0] w fun e w' => ∃ g_ : Nat, e = .returned (.pointer (some ⟨g_, 0, none⟩)) ∧ IsS116 w0 w' g_ r1 r2 ∧ Below w0.heap.size w0 w' ∧ Below w.heap.size w w' := by
 have hu116 := Try.underlying116
 have HR0 := ak hr0
 have HC0 := ak hc0
 clear hr0 hc0
 have HBW := ak (Below.refl w.heap.size w)
 have HW0 := ak hB.size
 have HB := ak hB
 clear hB
 have H : (if (l0.length : Int) > 2000 then (if 2000 ≤ (l0.length : Int) then (some (l0.take 2000, 0)) else (none)) else (some (l0, 0))) = some (r1, r2) := h
 clear h
 by_cases c2 : (l0.length : Int) > 2000
 ·rw [if_pos c2] at H
  have c2b0 : decide (2000 < (l0.length : Int)) = true := decide_eq_true c2
  have c2b1 : decide (2000 < l0.length) = true := decide_eq_true (by omega)
  clear c2
  by_cases c3 : 2000 ≤ (l0.length : Int)
  ·rw [if_pos c3] at H
   have c3b0 := eq_true c3
   have c3b1 : decide (2000 ≤ (l0.length : Int)) = true := decide_eq_true c3
   clear c3
   simp only [Option.some.injEq, Prod.mk.injEq] at H
   obtain ⟨rfl, rfl⟩ := H
   obtain ⟨i04, hi04, _, hsz4, _⟩ := info_parts info5
   obtain ⟨hcut4, hA4, hC4⟩ := print_take_of (P := Try.prog) (Value.int .u8) 0 31 5 .i64 Try.underlying31 hi04 hsz4 A0 c0 l0 2000 (by omega) (of_decide_eq_true (by assumption)) HC0.out
   have HR160 := ak (Kd.C_of_reads (h1 := fun _ => rfl) (hA4 _ (Kd.reads_of_C HR0.out)))
   have HC160 := ak hC4
   clear hA4 hC4 hi04 hsz4
   go_enter Try.func67, Try.ntmps67
   go_wp2_with (first | ((with_reducible refine gate_dst (N := 10) rfl ?_); refine box_event ?hg (N := 10) ?hd (cs := #[.slice A0 (l0.take 2000).length c0, .int .i64 0]) (t := 116) ?hr ?_; (case hd => rfl); (case hg => rfl); (case hr => first | (go_simp; done) | (go_simp; rfl)); intro gb161 hg w5 hbox hb; replace HB := ak (below_step (by exact hopb HB.out) hb); have BK161 := ak (hbox); have GW161 := ak ((by rw [hg]; exact (below_size (by repeat (first | (with_reducible first | exact HBW.out | apply bA | apply bN | apply bD) | exact HBW.out))) : w.heap.size ≤ gb161)); have GE161 := ak ((Nat.le_trans HW0.out (by rw [hg]; exact (below_size (by repeat (first | (with_reducible first | exact HBW.out | apply bA | apply bN | apply bD) | exact HBW.out))) : w.heap.size ≤ gb161) : w0.heap.size ≤ gb161)); replace HBW := ak (below_step HBW.out hb); clear hb hbox hg))
   go_ret
   exact ⟨_, rfl, (show IsS116 w0 _ gb161 (l0.take 2000) 0 from ⟨_, _, by exact hop BK161.out, GE161.out, HR160.out⟩), by repeat (first | (with_reducible first | exact HB.out | apply bA | apply bN | apply bD | refine bS ?_ GE161.out) | exact HB.out), by repeat (first | (with_reducible first | exact HBW.out | apply bA | apply bN | apply bD | refine bS ?_ GW161.out) | exact HBW.out)⟩
  ·rw [if_neg c3] at H
   exact absurd H (by simp)
 ·rw [if_neg c2] at H
  have c2b0 : decide (2000 < (l0.length : Int)) = false := decide_eq_false c2
  have c2b1 : decide (2000 < l0.length) = false := decide_eq_false (by omega)
  clear c2
  simp only [Option.some.injEq, Prod.mk.injEq] at H
  obtain ⟨rfl, rfl⟩ := H
  go_enter Try.func67, Try.ntmps67
  go_wp2_with (first | ((with_reducible refine gate_dst (N := 10) rfl ?_); refine box_event ?hg (N := 10) ?hd (cs := #[.slice A0 l0.length c0, .int .i64 0]) (t := 116) ?hr ?_; (case hd => rfl); (case hg => rfl); (case hr => first | (go_simp; done) | (go_simp; rfl)); intro gb162 hg w6 hbox hb; replace HB := ak (below_step (by exact hopb HB.out) hb); have BK162 := ak (hbox); have GW162 := ak ((by rw [hg]; exact (below_size (by repeat (first | (with_reducible first | exact HBW.out | apply bA | apply bN | apply bD) | exact HBW.out))) : w.heap.size ≤ gb162)); have GE162 := ak ((Nat.le_trans HW0.out (by rw [hg]; exact (below_size (by repeat (first | (with_reducible first | exact HBW.out | apply bA | apply bN | apply bD) | exact HBW.out))) : w.heap.size ≤ gb162) : w0.heap.size ≤ gb162)); replace HBW := ak (below_step HBW.out hb); clear hb hbox hg))
  go_ret
  exact ⟨_, rfl, (show IsS116 w0 _ gb162 l0 0 from ⟨_, _, by exact hop BK162.out, GE162.out, HR0.out⟩), by repeat (first | (with_reducible first | exact HB.out | apply bA | apply bN | apply bD | refine bS ?_ GE162.out) | exact HB.out), by repeat (first | (with_reducible first | exact HBW.out | apply bA | apply bN | apply bD | refine bS ?_ GW162.out) | exact HBW.out)⟩

/-! ### spec_PagesOf: function 25 -/
def spec_PagesOf.l0 : Nat → List (S71) → List (S64) → Int → Option ((List (S64)))
 | 0, _, _, _ => none
 | k + 1, x0, x3, x4 => if x4 < (x0.length : Int) then (if (wrap64 ((x0.length : Int) - (mn (x0.length : Int) (wrap64 (x4 + 4))))) = 1 then ((some (([] : List (S71)) : List (S71))).bind fun y167 => (if 0 ≤ x4 then (if x4 ≤ (wrap64 ((mn (x0.length : Int) (wrap64 (x4 + 4))) - 1)) then (if (wrap64 ((mn (x0.length : Int) (wrap64 (x4 + 4))) - 1)) ≤ (x0.length : Int) then ((some ((x0.take ((wrap64 ((mn (x0.length : Int) (wrap64 (x4 + 4))) - 1)) : Int).toNat).drop (x4 : Int).toNat : List (S71))).bind fun y170 => (if y167.length + y170.length < 5864062014805 then (if x3.length < 5864062014805 then ((some (x3 ++ [(⟨(y167 ++ y170)⟩ : S64)] : List (S64))).bind fun y177 => (if (wrap64 ((mn (x0.length : Int) (wrap64 (x4 + 4))) - 1)) < (wrap64 (x4 + 4)) then (if (wrap64 ((mn (x0.length : Int) (wrap64 (x4 + 4))) - 1)) < (x0.length : Int) then ((some (([] : List (S71)) : List (S71))).bind fun y180 => (if 0 ≤ (wrap64 ((mn (x0.length : Int) (wrap64 (x4 + 4))) - 1)) then ((some (x0.drop ((wrap64 ((mn (x0.length : Int) (wrap64 (x4 + 4))) - 1)) : Int).toNat : List (S71))).bind fun y183 => (if y180.length + y183.length < 5864062014805 then (if y177.length < 5864062014805 then (some (y177 ++ [(⟨(y180 ++ y183)⟩ : S64)])) else (none)) else (none))) else (none))) else (spec_PagesOf.l0 k x0 y177 (wrap64 (x4 + 4)))) else (spec_PagesOf.l0 k x0 y177 (wrap64 (x4 + 4))))) else (none)) else (none))) else (none)) else (none)) else (none))) else ((some (([] : List (S71)) : List (S71))).bind fun y193 => (if 0 ≤ x4 then (if x4 ≤ (mn (x0.length : Int) (wrap64 (x4 + 4))) then (if (mn (x0.length : Int) (wrap64 (x4 + 4))) ≤ (x0.length : Int) then ((some ((x0.take ((mn (x0.length : Int) (wrap64 (x4 + 4))) : Int).toNat).drop (x4 : Int).toNat : List (S71))).bind fun y196 => (if y193.length + y196.length < 5864062014805 then (if x3.length < 5864062014805 then ((some (x3 ++ [(⟨(y193 ++ y196)⟩ : S64)] : List (S64))).bind fun y203 => (if (mn (x0.length : Int) (wrap64 (x4 + 4))) < (wrap64 (x4 + 4)) then (if (mn (x0.length : Int) (wrap64 (x4 + 4))) < (x0.length : Int) then ((some (([] : List (S71)) : List (S71))).bind fun y206 => (if 0 ≤ (mn (x0.length : Int) (wrap64 (x4 + 4))) then ((some (x0.drop ((mn (x0.length : Int) (wrap64 (x4 + 4))) : Int).toNat : List (S71))).bind fun y209 => (if y206.length + y209.length < 5864062014805 then (if y203.length < 5864062014805 then (some (y203 ++ [(⟨(y206 ++ y209)⟩ : S64)])) else (none)) else (none))) else (none))) else (spec_PagesOf.l0 k x0 y203 (wrap64 (x4 + 4)))) else (spec_PagesOf.l0 k x0 y203 (wrap64 (x4 + 4))))) else (none)) else (none))) else (none)) else (none)) else (none)))) else (some x3)
def spec_PagesOf.f (k : Nat) (l0 : List (S71)) : Option ((List (S64))) := (some (([] : List (S64)) : List (S64))).bind fun y163 => ((spec_PairsValid.f k l0).bind fun t166 => (if t166 = true then (spec_PagesOf.l0 k l0 y163 0) else (some y163)))
theorem spec_PagesOf.mono_l : ∀ k, (∀ y0 y1 y2, LeO (spec_PagesOf.l0 k y0 y1 y2) (spec_PagesOf.l0 (k + 1) y0 y1 y2))
 | 0 => fun _ _ _ r h => by simp [spec_PagesOf.l0] at h
 | k + 1 => by
  have ih0 := spec_PagesOf.mono_l k
  ·intro y0 y1 y2
   unfold spec_PagesOf.l0
   repeat' first
   | (with_reducible exact ih0 _ _ _)
   | (with_reducible exact spec_PairsValid.mono _ _)
   | (with_reducible exact LeO.refl _)
   | (with_reducible exact LeO.none _)
   | (with_reducible refine LeO.ite ?_ ?_)
   | (with_reducible refine LeO.bind ?_ (fun _ => ?_))
   | exact ih0 _ _ _
   | exact spec_PairsValid.mono _ _
   | exact LeO.none _
   | refine LeO.ite ?_ ?_
   | refine LeO.bind ?_ (fun _ => ?_)
theorem spec_PagesOf.mono : ∀ a0 k, LeO (spec_PagesOf.f k a0) (spec_PagesOf.f (k + 1) a0) := by
 intro a0 k
 have ih0 := spec_PagesOf.mono_l k
 unfold spec_PagesOf.f
 repeat' first
   | (with_reducible exact ih0 _ _ _)
   | (with_reducible exact spec_PairsValid.mono _ _)
   | (with_reducible exact LeO.refl _)
   | (with_reducible exact LeO.none _)
   | (with_reducible refine LeO.ite ?_ ?_)
   | (with_reducible refine LeO.bind ?_ (fun _ => ?_))
   | exact ih0 _ _ _
   | exact spec_PairsValid.mono _ _
   | exact LeO.none _
   | refine LeO.ite ?_ ?_
   | refine LeO.bind ?_ (fun _ => ?_)
set_option maxHeartbeats 8000000 in
set_option maxRecDepth 100000 in
theorem spec_PagesOf.calls (k : Nat) (A0 : Option Addr) (c0 : Nat) (l0 : List (S71)) (r : List (S64)) (w : World) (hr0 : Kd.C k71 w A0 l0.length l0) (hc0 : l0.length ≤ c0) (h : spec_PagesOf.f k l0 = some r) :
  Calls Try.prog 25 #[.slice A0 l0.length c0] w fun e w' => ∃ v0_ : Value, e = .returned (v0_) ∧ Kd.S k64 64 w' w.heap.size (fun _ => True) v0_ r ∧ Below w.heap.size w w' := by
 have hu64 := Try.underlying64
 have HR0 := ak hr0
 have HC0 := ak hc0
 clear hr0 hc0
 have HB := ak (Below.refl w.heap.size w)
 have H : ((some (([] : List (S64)) : List (S64))).bind fun y163 => ((spec_PairsValid.f k l0).bind fun t166 => (if t166 = true then (spec_PagesOf.l0 k l0 y163 0) else (some y163)))) = some r := h
 clear h
 obtain ⟨y163, hy163⟩ : ∃ y_ : List (S64), y_ = (([] : List (S64))) := ⟨_, rfl⟩
 replace H : ((spec_PairsValid.f k l0).bind fun t166 => (if t166 = true then (spec_PagesOf.l0 k l0 y163 0) else (some y163))) = some r := by first | (rw [hy163]; exact H) | exact H
 have Ny163 := ak hy163
 clear hy163
 replace H := Option.bind_eq_some_iff.mp H
 obtain ⟨t166, A20, H⟩ := H
 try dsimp only at H
 have A2 := ak A20
 clear A20
 by_cases c3 : t166 = true
 ·subst c3
  rw [if_pos rfl] at H
  have H' := ak H
  clear H
  go_enter Try.func25, Try.ntmps25
  go_wp2_with (first | ((with_reducible refine gate_dst (N := 6) rfl ?_); (try (refine gate_guard (by rfl) ?_; dsimp only)); refine Kd.S_lit k64 _ 64 ?hg (N := 6) ?hd (xs := ([] : List (S64))) (inner := []) (ok := fun _ => True) (okp := fun _ => True) ?hr ?hp (fun _ hk => hk) trivial (Below.refl _ _) (Nat.le_refl _) (by simp) ?_; (case hd => rfl); (case hg => rfl); (case hr => first | (go_simp; done) | (go_simp; rfl)); (case hp => exact (Reps.none _ _)); intro v164 w4 ho5 hb hg_ hnew_; clear hg_ hnew_; (first | rw [← Ny163.out] at ho5 | (simp only [Int.reduceToNat] at ho5; rw [← Ny163.out] at ho5)); have HO165 := ak (Kd.S_lower ho5 (below_size (by exact hopb HB.out))); replace HB := ak (below_step (by exact hopb HB.out) hb); clear hb ho5) | ((with_reducible refine gate_callee (f := 69) rfl ?_); refine goesL_ (some 8) rfl rfl Try.func69 (by kernel_rfl) rfl #[.slice A0 l0.length c0] rfl (by (try simp only [List.map_toArray, List.map_cons, List.map_nil]); first | done | rfl | (simp only [List.length_drop, List.length_take]; rfl)) ?_; (with_reducible refine (spec_PairsValid.calls k _ _ l0 true _ ?side1 ?side2 A2.out).mono ?_); (case side1 => repeat (first | exact (Kd.C_below HR0.out HB.out) | (with_reducible refine Kd.C_alloc ?_ _) | (with_reducible refine Kd.C_drewN ?_ _) | (with_reducible refine Kd.C_drew ?_))); (case side2 => exact HC0.out); rintro e w6 ⟨rfl, hb⟩; refine ⟨_, rfl, ?_⟩; replace HO165 := ak (Kd.S_below (by (with_reducible repeat (first | apply Kd.S_alloc | apply Kd.S_drewN | apply Kd.S_drew)); exact HO165.out) hb); replace HB := ak (below_step (by exact hopb HB.out) hb); (try clear hb)))
  go_loopg [3, 4] k (fun kq v3 v4 w' => ∃ (x3_1 : List (S64)) (x4_1 : Int), v4 = .int .i64 x4_1 ∧ Aside0 (spec_PagesOf.l0 kq l0 x3_1 x4_1 = some r) ∧ Aside0 (kq ≤ k) ∧ Aside0 (Kd.S k64 64 w' w.heap.size (fun _ => True) v3 x3_1) ∧ Aside0 (Below w.heap.size w w'))
  case atStart => exact ⟨(y163), (0), (by first | rfl | (simp; done) | (simp [bne]; done) | (simp [*]; done)), H', ⟨Nat.le_refl _⟩, ⟨by (with_reducible repeat (first | apply Kd.S_alloc | apply Kd.S_drewN | apply Kd.S_drew)); exact HO165.out⟩, ⟨by repeat (first | (with_reducible first | exact HB.out | apply bA | apply bN | apply bD) | exact HB.out)⟩⟩
  case round =>
   clear H'
   try clear c2
   try clear p2
   try clear c3
   try clear c6
   obtain ⟨x3_1, x4_1, rfl, HA, HK1, HO_3, HB⟩ := hrel
   cases gk with
   | zero => exact absurd HA.out (by simp [spec_PagesOf.l0])
   | succ k1 =>
    have H := HA.out
    clear HA
    simp only [spec_PagesOf.l0] at H
    by_cases c7 : x4_1 < (l0.length : Int)
    ·rw [if_pos c7] at H
     have c7b0 : decide (x4_1 < (l0.length : Int)) = true := decide_eq_true c7
     clear c7
     obtain ⟨ji8, hji8⟩ : ∃ j_ : Int, (mn (l0.length : Int) (wrap64 (x4_1 + 4))) = j_ := ⟨_, rfl⟩
     replace H : (if (wrap64 ((l0.length : Int) - (ji8))) = 1 then ((some (([] : List (S71)) : List (S71))).bind fun y167 => (if 0 ≤ x4_1 then (if x4_1 ≤ (wrap64 ((ji8) - 1)) then (if (wrap64 ((ji8) - 1)) ≤ (l0.length : Int) then ((some ((l0.take ((wrap64 ((ji8) - 1)) : Int).toNat).drop (x4_1 : Int).toNat : List (S71))).bind fun y170 => (if y167.length + y170.length < 5864062014805 then (if x3_1.length < 5864062014805 then ((some (x3_1 ++ [(⟨(y167 ++ y170)⟩ : S64)] : List (S64))).bind fun y177 => (if (wrap64 ((ji8) - 1)) < (wrap64 (x4_1 + 4)) then (if (wrap64 ((ji8) - 1)) < (l0.length : Int) then ((some (([] : List (S71)) : List (S71))).bind fun y180 => (if 0 ≤ (wrap64 ((ji8) - 1)) then ((some (l0.drop ((wrap64 ((ji8) - 1)) : Int).toNat : List (S71))).bind fun y183 => (if y180.length + y183.length < 5864062014805 then (if y177.length < 5864062014805 then (some (y177 ++ [(⟨(y180 ++ y183)⟩ : S64)])) else (none)) else (none))) else (none))) else (spec_PagesOf.l0 k1 l0 y177 (wrap64 (x4_1 + 4)))) else (spec_PagesOf.l0 k1 l0 y177 (wrap64 (x4_1 + 4))))) else (none)) else (none))) else (none)) else (none)) else (none))) else ((some (([] : List (S71)) : List (S71))).bind fun y193 => (if 0 ≤ x4_1 then (if x4_1 ≤ (ji8) then (if (ji8) ≤ (l0.length : Int) then ((some ((l0.take ((ji8) : Int).toNat).drop (x4_1 : Int).toNat : List (S71))).bind fun y196 => (if y193.length + y196.length < 5864062014805 then (if x3_1.length < 5864062014805 then ((some (x3_1 ++ [(⟨(y193 ++ y196)⟩ : S64)] : List (S64))).bind fun y203 => (if (ji8) < (wrap64 (x4_1 + 4)) then (if (ji8) < (l0.length : Int) then ((some (([] : List (S71)) : List (S71))).bind fun y206 => (if 0 ≤ (ji8) then ((some (l0.drop ((ji8) : Int).toNat : List (S71))).bind fun y209 => (if y206.length + y209.length < 5864062014805 then (if y203.length < 5864062014805 then (some (y203 ++ [(⟨(y206 ++ y209)⟩ : S64)])) else (none)) else (none))) else (none))) else (spec_PagesOf.l0 k1 l0 y203 (wrap64 (x4_1 + 4)))) else (spec_PagesOf.l0 k1 l0 y203 (wrap64 (x4_1 + 4))))) else (none)) else (none))) else (none)) else (none)) else (none)))) = some r := by first | (rw [hji8] at H; exact H) | (simp only [hji8] at H ⊢; exact H)
     have hji8_ : (if (wrap64 (x4_1 + 4)) < (l0.length : Int) then (wrap64 (x4_1 + 4)) else (l0.length : Int)) = ji8 := hji8
     by_cases c9 : (wrap64 ((l0.length : Int) - (ji8))) = 1
     ·rw [if_pos c9] at H
      have c9b0 : ((wrap64 ((l0.length : Int) - (ji8))) == 1) = true := beq_iff_eq.mpr c9
      have c9b1 : ((wrap64 ((l0.length : Int) - (ji8))) != 1) = false := bne_eq_false_iff_eq.mpr c9
      clear c9
      obtain ⟨y167, hy167⟩ : ∃ y_ : List (S71), y_ = (([] : List (S71))) := ⟨_, rfl⟩
      replace H : (if 0 ≤ x4_1 then (if x4_1 ≤ (wrap64 ((ji8) - 1)) then (if (wrap64 ((ji8) - 1)) ≤ (l0.length : Int) then ((some ((l0.take ((wrap64 ((ji8) - 1)) : Int).toNat).drop (x4_1 : Int).toNat : List (S71))).bind fun y170 => (if y167.length + y170.length < 5864062014805 then (if x3_1.length < 5864062014805 then ((some (x3_1 ++ [(⟨(y167 ++ y170)⟩ : S64)] : List (S64))).bind fun y177 => (if (wrap64 ((ji8) - 1)) < (wrap64 (x4_1 + 4)) then (if (wrap64 ((ji8) - 1)) < (l0.length : Int) then ((some (([] : List (S71)) : List (S71))).bind fun y180 => (if 0 ≤ (wrap64 ((ji8) - 1)) then ((some (l0.drop ((wrap64 ((ji8) - 1)) : Int).toNat : List (S71))).bind fun y183 => (if y180.length + y183.length < 5864062014805 then (if y177.length < 5864062014805 then (some (y177 ++ [(⟨(y180 ++ y183)⟩ : S64)])) else (none)) else (none))) else (none))) else (spec_PagesOf.l0 k1 l0 y177 (wrap64 (x4_1 + 4)))) else (spec_PagesOf.l0 k1 l0 y177 (wrap64 (x4_1 + 4))))) else (none)) else (none))) else (none)) else (none)) else (none)) = some r := by first | (rw [hy167]; exact H) | exact H
      have Ny167 := ak hy167
      clear hy167
      by_cases c10 : 0 ≤ x4_1
      ·rw [if_pos c10] at H
       have c10b0 := eq_true c10
       have c10b1 : decide (0 ≤ x4_1) = true := decide_eq_true c10
       clear c10
       by_cases c11 : x4_1 ≤ (wrap64 ((ji8) - 1))
       ·rw [if_pos c11] at H
        have c11b0 := eq_true c11
        have c11b1 : decide (x4_1 ≤ (wrap64 ((ji8) - 1))) = true := decide_eq_true c11
        clear c11
        by_cases c12 : (wrap64 ((ji8) - 1)) ≤ (l0.length : Int)
        ·rw [if_pos c12] at H
         have c12b0 := eq_true c12
         have c12b1 : decide ((wrap64 ((ji8) - 1)) ≤ (l0.length : Int)) = true := decide_eq_true c12
         clear c12
         obtain ⟨y170, hy170⟩ : ∃ y_ : List (S71), y_ = ((l0.take ((wrap64 ((ji8) - 1)) : Int).toNat).drop (x4_1 : Int).toNat) := ⟨_, rfl⟩
         replace H : (if y167.length + y170.length < 5864062014805 then (if x3_1.length < 5864062014805 then ((some (x3_1 ++ [(⟨(y167 ++ y170)⟩ : S64)] : List (S64))).bind fun y177 => (if (wrap64 ((ji8) - 1)) < (wrap64 (x4_1 + 4)) then (if (wrap64 ((ji8) - 1)) < (l0.length : Int) then ((some (([] : List (S71)) : List (S71))).bind fun y180 => (if 0 ≤ (wrap64 ((ji8) - 1)) then ((some (l0.drop ((wrap64 ((ji8) - 1)) : Int).toNat : List (S71))).bind fun y183 => (if y180.length + y183.length < 5864062014805 then (if y177.length < 5864062014805 then (some (y177 ++ [(⟨(y180 ++ y183)⟩ : S64)])) else (none)) else (none))) else (none))) else (spec_PagesOf.l0 k1 l0 y177 (wrap64 (x4_1 + 4)))) else (spec_PagesOf.l0 k1 l0 y177 (wrap64 (x4_1 + 4))))) else (none)) else (none)) = some r := by first | (rw [hy170]; exact H) | exact H
         have Ny170 := ak hy170
         clear hy170
         by_cases c13 : y167.length + y170.length < 5864062014805
         ·rw [if_pos c13] at H
          have LMc13 := ak c13
          clear c13
          obtain ⟨y174, hy174⟩ : ∃ y_ : List (S71), y_ = (y167 ++ y170) := ⟨_, rfl⟩
          replace H : (if x3_1.length < 5864062014805 then ((some (x3_1 ++ [(⟨y174⟩ : S64)] : List (S64))).bind fun y177 => (if (wrap64 ((ji8) - 1)) < (wrap64 (x4_1 + 4)) then (if (wrap64 ((ji8) - 1)) < (l0.length : Int) then ((some (([] : List (S71)) : List (S71))).bind fun y180 => (if 0 ≤ (wrap64 ((ji8) - 1)) then ((some (l0.drop ((wrap64 ((ji8) - 1)) : Int).toNat : List (S71))).bind fun y183 => (if y180.length + y183.length < 5864062014805 then (if y177.length < 5864062014805 then (some (y177 ++ [(⟨(y180 ++ y183)⟩ : S64)])) else (none)) else (none))) else (none))) else (spec_PagesOf.l0 k1 l0 y177 (wrap64 (x4_1 + 4)))) else (spec_PagesOf.l0 k1 l0 y177 (wrap64 (x4_1 + 4))))) else (none)) = some r := by first | (rw [hy174]; exact H) | exact H
          have Ny174 := ak hy174
          clear hy174
          by_cases c14 : x3_1.length < 5864062014805
          ·rw [if_pos c14] at H
           have LMc14 := ak c14
           clear c14
           obtain ⟨y177, hy177⟩ : ∃ y_ : List (S64), y_ = (x3_1 ++ [(⟨y174⟩ : S64)]) := ⟨_, rfl⟩
           replace H : (if (wrap64 ((ji8) - 1)) < (wrap64 (x4_1 + 4)) then (if (wrap64 ((ji8) - 1)) < (l0.length : Int) then ((some (([] : List (S71)) : List (S71))).bind fun y180 => (if 0 ≤ (wrap64 ((ji8) - 1)) then ((some (l0.drop ((wrap64 ((ji8) - 1)) : Int).toNat : List (S71))).bind fun y183 => (if y180.length + y183.length < 5864062014805 then (if y177.length < 5864062014805 then (some (y177 ++ [(⟨(y180 ++ y183)⟩ : S64)])) else (none)) else (none))) else (none))) else (spec_PagesOf.l0 k1 l0 y177 (wrap64 (x4_1 + 4)))) else (spec_PagesOf.l0 k1 l0 y177 (wrap64 (x4_1 + 4)))) = some r := by first | (rw [hy177]; exact H) | exact H
           have Ny177 := ak hy177
           clear hy177
           by_cases c15 : (wrap64 ((ji8) - 1)) < (wrap64 (x4_1 + 4))
           ·rw [if_pos c15] at H
            have c15b0 : decide ((wrap64 ((ji8) - 1)) < (wrap64 (x4_1 + 4))) = true := decide_eq_true c15
            clear c15
            by_cases c16 : (wrap64 ((ji8) - 1)) < (l0.length : Int)
            ·rw [if_pos c16] at H
             have c16b0 : decide ((wrap64 ((ji8) - 1)) < (l0.length : Int)) = true := decide_eq_true c16
             clear c16
             obtain ⟨y180, hy180⟩ : ∃ y_ : List (S71), y_ = (([] : List (S71))) := ⟨_, rfl⟩
             replace H : (if 0 ≤ (wrap64 ((ji8) - 1)) then ((some (l0.drop ((wrap64 ((ji8) - 1)) : Int).toNat : List (S71))).bind fun y183 => (if y180.length + y183.length < 5864062014805 then (if y177.length < 5864062014805 then (some (y177 ++ [(⟨(y180 ++ y183)⟩ : S64)])) else (none)) else (none))) else (none)) = some r := by first | (rw [hy180]; exact H) | exact H
             have Ny180 := ak hy180
             clear hy180
             obtain ⟨ji17, hji17⟩ : ∃ j_ : Int, (wrap64 ((ji8) - 1)) = j_ := ⟨_, rfl⟩
             replace H : (if 0 ≤ (ji17) then ((some (l0.drop ((ji17) : Int).toNat : List (S71))).bind fun y183 => (if y180.length + y183.length < 5864062014805 then (if y177.length < 5864062014805 then (some (y177 ++ [(⟨(y180 ++ y183)⟩ : S64)])) else (none)) else (none))) else (none)) = some r := by first | (rw [hji17] at H; exact H) | (simp only [hji17] at H ⊢; exact H)
             (try rw [hji17] at c11b0)
             (try rw [hji17] at c11b1)
             (try rw [hji17] at c12b0)
             (try rw [hji17] at c12b1)
             (try rw [hji17] at c15b0)
             (try rw [hji17] at c16b0)
             (try rw [hji17] at Ny170)
             (try rw [hji17] at Ny170)
             have hji17w : (IntKind.i64.wrap ((ji8) - 1)) = ji17 := (i64_w _).trans hji17
             by_cases c18 : 0 ≤ (ji17)
             ·rw [if_pos c18] at H
              have c18b0 := eq_true c18
              have c18b1 : decide (0 ≤ (ji17)) = true := decide_eq_true c18
              clear c18
              have c19b0 := eq_true (of_decide_eq_true (by assumption) : (ji17) ≤ (l0.length : Int))
              obtain ⟨y183, hy183⟩ : ∃ y_ : List (S71), y_ = (l0.drop ((ji17) : Int).toNat) := ⟨_, rfl⟩
              replace H : (if y180.length + y183.length < 5864062014805 then (if y177.length < 5864062014805 then (some (y177 ++ [(⟨(y180 ++ y183)⟩ : S64)])) else (none)) else (none)) = some r := by first | (rw [hy183]; exact H) | exact H
              have Ny183 := ak hy183
              clear hy183
              by_cases c20 : y180.length + y183.length < 5864062014805
              ·rw [if_pos c20] at H
               have LMc20 := ak c20
               clear c20
               obtain ⟨y187, hy187⟩ : ∃ y_ : List (S71), y_ = (y180 ++ y183) := ⟨_, rfl⟩
               replace H : (if y177.length < 5864062014805 then (some (y177 ++ [(⟨y187⟩ : S64)])) else (none)) = some r := by first | (rw [hy187]; exact H) | exact H
               have Ny187 := ak hy187
               clear hy187
               by_cases c21 : y177.length < 5864062014805
               ·rw [if_pos c21] at H
                have LMc21 := ak c21
                clear c21
                obtain ⟨y190, hy190⟩ : ∃ y_ : List (S64), y_ = (y177 ++ [(⟨y187⟩ : S64)]) := ⟨_, rfl⟩
                replace H : (some y190) = some r := by first | (rw [hy190]; exact H) | exact H
                have Ny190 := ak hy190
                clear hy190
                obtain rfl := Option.some.inj H
                go_wp2_with (first | ((with_reducible refine gate_dst (N := 30) rfl ?_); (try (refine gate_guard (by rfl) ?_; dsimp only)); refine Kd.R_lit k71 _ 71 ?hg (N := 30) ?hd (xs := ([] : List (S71))) (inner := []) (ok := fun _ => True) (okp := fun _ => True) ?hr ?hp (fun _ hk => hk) trivial (Below.refl _ _) (Nat.le_refl _) (by simp) ?_; (case hd => rfl); (case hg => rfl); (case hr => first | (go_simp; done) | (go_simp; rfl)); (case hp => exact (Reps.none _ _)); intro v168 w22 ho23 hb hg_ hnew_; clear hg_ hnew_; (first | rw [← Ny167.out] at ho23 | (simp only [Int.reduceToNat] at ho23; rw [← Ny167.out] at ho23)); replace HO_3 := ak (Kd.S_elder' (by (with_reducible repeat (first | apply Kd.S_alloc | apply Kd.S_drewN | apply Kd.S_drew)); exact HO_3.out) (Kd.R_base ho23) hb); have HO169 := ak (Kd.R_lower ho23 (below_size (by exact hopb HB.out))); replace HB := ak (below_step (by exact hopb HB.out) hb); clear hb ho23; have q24 : ((ji17) : Int) ≤ ((l0.length : Int) : Int) := of_decide_eq_true (by assumption); obtain ⟨i024, hi024, _, hsz24, _⟩ := info_parts info71; have hroom24 : l0.length ≤ c0 := HC0.out; have hC24 : Kd.C k71 _ A0 l0.length l0 := HR0.out; have ql24 : (x4_1 : Int) ≤ ((ji17) : Int) := of_decide_eq_true (by assumption); have q024 : (0 : Int) ≤ (x4_1 : Int) := of_decide_eq_true (by assumption); have hcut24 := cut_mid (P := Try.prog) 32 71 .i64 .i64 Try.underlying32 hi024 2 hsz24 A0 l0.length c0 x4_1 (ji17) q024 ql24 q24 hroom24; have hr24 := Kd.C_mid (lo := (x4_1 : Int).toNat) (hi := ((ji17) : Int).toNat) (c := c0) hC24 (by omega) (by omega) hroom24; obtain ⟨A24, hA24⟩ : ∃ A1, A1 = (if c0 = (x4_1 : Int).toNat then A0 else (A0 : Option Addr).map (·.add ((x4_1 : Int).toNat * 2))) := ⟨_, rfl⟩; obtain ⟨c24, hc24⟩ : ∃ c1, c1 = c0 - (x4_1 : Int).toNat := ⟨_, rfl⟩; have hy24 : y170.length = ((ji17) : Int).toNat - (x4_1 : Int).toNat := (by rw [Ny170.out, List.length_drop, List.length_take] <;> omega); rw [show ((l0).take ((ji17) : Int).toNat).drop (x4_1 : Int).toNat = y170 from Ny170.out.symm] at hr24; replace hr24 : Kd.C k71 _ A24 y170.length y170 := (by rw [hA24]; exact hr24); rw [← hy24, ← hA24, ← hc24] at hcut24; have HR173 := ak hr24; have HC173 := ak (show y170.length ≤ c24 from by rw [hy24, hc24]; exact Nat.sub_le_sub_right (Nat.le_trans (by omega) hroom24) _); clear hr24 hC24 hroom24 hi024 hsz24 hc24; have KY24 := ak hy24; have KA24 := ak hA24; clear hy24 hA24; replace q24 := eq_true q24) | ((with_reducible refine gate_builtin (b := .append) (xs := #[.tmp 30, .tmp 34]) rfl ?_); (try (refine gate_guard (by rfl) ?_; dsimp only)); at_builtin; refine Kd.R_append_rows k71 (w0 := w) w.heap.size rfl (.tmp 30) (.tmp 34) 32 71 (.agg #[(.string ⟨#[]⟩), (.int .i64 0)]) 24 rfl Try.underlying32 info71 rfl (by decide) (by omega) v168 y167 y170 _ _ _ (fun _ => True) (fun _ => False) rfl rfl ?aO ?aR (fun _ _ h => h) (fun _ h => h.elim) ?aF ?aB ?aS ?aL ?_; (case aR => repeat (first | exact (Kd.C_below HR173.out HB.out) | (with_reducible refine Kd.C_alloc ?_ _) | (with_reducible refine Kd.C_drewN ?_ _) | (with_reducible refine Kd.C_drew ?_))); (case aB => exact (by exact hopb HB.out)); (case aF => exact (fun _ _ => trivial)); (case aO => exact (by (with_reducible repeat (first | apply Kd.R_alloc | apply Kd.R_drewN | apply Kd.R_drew)); exact HO169.out)); (case aS => exact (below_size (by exact hopb HB.out))); (case aL => have := LMc13.out; omega); intro v175 w25 ho hb hg hat; rw [← Ny174.out] at ho; replace HO_3 := ak (Kd.S_after (ok := (fun _ => True)) (by (with_reducible repeat (first | apply Kd.S_alloc | apply Kd.S_drewN | apply Kd.S_drew)); exact HO_3.out) hg hat); replace HB := ak (hb); have HO176 := ak (ho); clear HO169; clear ho hb hg hat; obtain ⟨Ao26, co26, eo26⟩ := Kd.R_slice HO176.out; subst eo26) | ((with_reducible refine gate_builtin (b := .append) (xs := #[.tmp 29, .tmp 37]) rfl ?_); (try (refine gate_guard (by rfl) ?_; dsimp only)); at_builtin; refine Kd.S_append k64 (w0 := w) w.heap.size rfl (.tmp 29) (.tmp 37) 34 64 (.agg #[(.slice none 0 0)]) 24 rfl Try.underlying34 info64 rfl (by decide) (by omega) u3 x3_1 (⟨y174⟩ : S64) [.slice Ao26 y174.length co26] (fun _ => True) (fun k_ => some k_ = (.slice Ao26 y174.length co26 : Value).ownBlock) rfl rfl ?aP (fun k_ hk_ => ((Kd.R_mono (ok' := fun k_ => ((fun _ => True)) k_ ∧ some k_ ≠ (u3 : Value).ownBlock) (Kd.R_apart' (HO176.out) (Kd.S_typed HO_3.out) (by decide)) (fun k_ hk => ⟨trivial, hk.2⟩))).1 k_ hk_.symm) ?aF ?aO ?aB ?aS ?aL ?_; (case aP => exact k64_mkM _ _ _ (⟨y174⟩ : S64) (Kd.R_mono (Kd.R_tight rfl (Kd.R_mono (ok' := fun k_ => ((fun _ => True)) k_ ∧ some k_ ≠ (u3 : Value).ownBlock) (Kd.R_apart' (HO176.out) (Kd.S_typed HO_3.out) (by decide)) (fun k_ hk => ⟨trivial, hk.2⟩))) (fun _ h_ => h_))); (case aB => exact (by exact hopb HB.out)); (case aF => exact (fun _ _ => trivial)); (case aO => exact (by (with_reducible repeat (first | apply Kd.S_alloc | apply Kd.S_drewN | apply Kd.S_drew)); exact Kd.S_mono HO_3.out (fun k_ hk => ⟨trivial, fun e_ => hk.2 e_⟩))); (case aS => exact (below_size (by exact hopb HB.out))); (case aL => have := LMc14.out; omega); intro v178 w27 ho hb hg hat; rw [← Ny177.out] at ho; replace HB := ak (hb); have HO179 := ak (ho); clear HO_3 HO176; clear ho hb hg hat) | ((with_reducible refine gate_dst (N := 50) rfl ?_); (try (refine gate_guard (by rfl) ?_; dsimp only)); refine Kd.R_lit k71 _ 71 ?hg (N := 50) ?hd (xs := ([] : List (S71))) (inner := []) (ok := fun _ => True) (okp := fun _ => True) ?hr ?hp (fun _ hk => hk) trivial (Below.refl _ _) (Nat.le_refl _) (by simp) ?_; (case hd => rfl); (case hg => rfl); (case hr => first | (go_simp; done) | (go_simp; rfl)); (case hp => exact (Reps.none _ _)); intro v181 w28 ho29 hb hg_ hnew_; clear hg_ hnew_; (first | rw [← Ny180.out] at ho29 | (simp only [Int.reduceToNat] at ho29; rw [← Ny180.out] at ho29)); replace HO179 := ak (Kd.S_elder' (by (with_reducible repeat (first | apply Kd.S_alloc | apply Kd.S_drewN | apply Kd.S_drew)); exact HO179.out) (Kd.R_base ho29) hb); have HO182 := ak (Kd.R_lower ho29 (below_size (by exact hopb HB.out))); replace HB := ak (below_step (by exact hopb HB.out) hb); clear hb ho29; have q30 : ((ji17) : Int) ≤ ((l0.length : Int) : Int) := of_decide_eq_true (by assumption); obtain ⟨i030, hi030, _, hsz30, _⟩ := info_parts info71; have hroom30 : l0.length ≤ c0 := HC0.out; have hC30 : Kd.C k71 _ A0 l0.length l0 := HR0.out; have q030 : (0 : Int) ≤ ((ji17) : Int) := of_decide_eq_true (by assumption); have hcut30 := cut_from (P := Try.prog) 32 71 .i64 Try.underlying32 hi030 2 hsz30 A0 l0.length c0 (ji17) q030 q30; have hr30 := Kd.C_drop (m := ((ji17) : Int).toNat) (c := c0) hC30 (by omega) hroom30; obtain ⟨A30, hA30⟩ : ∃ A1, A1 = (if c0 = ((ji17) : Int).toNat then A0 else (A0 : Option Addr).map (·.add (((ji17) : Int).toNat * 2))) := ⟨_, rfl⟩; obtain ⟨c30, hc30⟩ : ∃ c1, c1 = c0 - ((ji17) : Int).toNat := ⟨_, rfl⟩; have hy30 : y183.length = l0.length - ((ji17) : Int).toNat := (by rw [Ny183.out, List.length_drop] <;> omega); rw [show (l0).drop ((ji17) : Int).toNat = y183 from Ny183.out.symm] at hr30; replace hr30 : Kd.C k71 _ A30 y183.length y183 := (by rw [hA30]; exact hr30); rw [← hy30, ← hA30, ← hc30] at hcut30; have HR186 := ak hr30; have HC186 := ak (show y183.length ≤ c30 from by rw [hy30, hc30]; exact Nat.sub_le_sub_right hroom30 _); clear hr30 hC30 hroom30 hi030 hsz30 hc30; have KY30 := ak hy30; have KA30 := ak hA30; clear hy30 hA30; replace q30 := eq_true q30) | ((with_reducible refine gate_builtin (b := .append) (xs := #[.tmp 50, .tmp 53]) rfl ?_); (try (refine gate_guard (by rfl) ?_; dsimp only)); at_builtin; refine Kd.R_append_rows k71 (w0 := w) w.heap.size rfl (.tmp 50) (.tmp 53) 32 71 (.agg #[(.string ⟨#[]⟩), (.int .i64 0)]) 24 rfl Try.underlying32 info71 rfl (by decide) (by omega) v181 y180 y183 _ _ _ (fun _ => True) (fun _ => False) rfl rfl ?aO ?aR (fun _ _ h => h) (fun _ h => h.elim) ?aF ?aB ?aS ?aL ?_; (case aR => repeat (first | exact (Kd.C_below HR186.out HB.out) | (with_reducible refine Kd.C_alloc ?_ _) | (with_reducible refine Kd.C_drewN ?_ _) | (with_reducible refine Kd.C_drew ?_))); (case aB => exact (by exact hopb HB.out)); (case aF => exact (fun _ _ => trivial)); (case aO => exact (by (with_reducible repeat (first | apply Kd.R_alloc | apply Kd.R_drewN | apply Kd.R_drew)); exact HO182.out)); (case aS => exact (below_size (by exact hopb HB.out))); (case aL => have := LMc20.out; omega); intro v188 w31 ho hb hg hat; rw [← Ny187.out] at ho; replace HO179 := ak (Kd.S_after (ok := (fun _ => True)) (by (with_reducible repeat (first | apply Kd.S_alloc | apply Kd.S_drewN | apply Kd.S_drew)); exact HO179.out) hg hat); replace HB := ak (hb); have HO189 := ak (ho); clear HO182; clear ho hb hg hat; obtain ⟨Ao32, co32, eo32⟩ := Kd.R_slice HO189.out; subst eo32) | ((with_reducible refine gate_builtin (b := .append) (xs := #[.tmp 49, .tmp 56]) rfl ?_); (try (refine gate_guard (by rfl) ?_; dsimp only)); at_builtin; refine Kd.S_append k64 (w0 := w) w.heap.size rfl (.tmp 49) (.tmp 56) 34 64 (.agg #[(.slice none 0 0)]) 24 rfl Try.underlying34 info64 rfl (by decide) (by omega) v178 y177 (⟨y187⟩ : S64) [.slice Ao32 y187.length co32] (fun _ => True) (fun k_ => some k_ = (.slice Ao32 y187.length co32 : Value).ownBlock) rfl rfl ?aP (fun k_ hk_ => ((Kd.R_mono (ok' := fun k_ => ((fun _ => True)) k_ ∧ some k_ ≠ (v178 : Value).ownBlock) (Kd.R_apart' (HO189.out) (Kd.S_typed HO179.out) (by decide)) (fun k_ hk => ⟨trivial, hk.2⟩))).1 k_ hk_.symm) ?aF ?aO ?aB ?aS ?aL ?_; (case aP => exact k64_mkM _ _ _ (⟨y187⟩ : S64) (Kd.R_mono (Kd.R_tight rfl (Kd.R_mono (ok' := fun k_ => ((fun _ => True)) k_ ∧ some k_ ≠ (v178 : Value).ownBlock) (Kd.R_apart' (HO189.out) (Kd.S_typed HO179.out) (by decide)) (fun k_ hk => ⟨trivial, hk.2⟩))) (fun _ h_ => h_))); (case aB => exact (by exact hopb HB.out)); (case aF => exact (fun _ _ => trivial)); (case aO => exact (by (with_reducible repeat (first | apply Kd.S_alloc | apply Kd.S_drewN | apply Kd.S_drew)); exact Kd.S_mono HO179.out (fun k_ hk => ⟨trivial, fun e_ => hk.2 e_⟩))); (case aS => exact (below_size (by exact hopb HB.out))); (case aL => have := LMc21.out; omega); intro v191 w33 ho hb hg hat; rw [← Ny190.out] at ho; replace HB := ak (hb); have HO192 := ak (ho); clear HO179 HO189; clear ho hb hg hat))
                go_ret
                exact ⟨_, by first | rfl | (simp only [u8_w_, w64_u8_] <;> rfl) | (simp [errW_none, errW_some] <;> rfl) | (simp only [← hji8, ← hji17]; first | rfl | (simp [errW_none, errW_some] <;> rfl)) | (simp [*, errW_none, errW_some] <;> rfl), by (with_reducible repeat (first | apply Kd.S_alloc | apply Kd.S_drewN | apply Kd.S_drew)); exact HO192.out, by repeat (first | (with_reducible first | exact HB.out | apply bA | apply bN | apply bD) | exact HB.out)⟩
               ·rw [if_neg c21] at H
                exact absurd H (by simp)
              ·rw [if_neg c20] at H
               exact absurd H (by simp)
             ·rw [if_neg c18] at H
              exact absurd H (by simp)
            ·rw [if_neg c16] at H
             have c16b0 : decide ((wrap64 ((ji8) - 1)) < (l0.length : Int)) = false := decide_eq_false c16
             clear c16
             have H' := ak H
             clear H
             go_wp2_with (first | ((with_reducible refine gate_dst (N := 30) rfl ?_); (try (refine gate_guard (by rfl) ?_; dsimp only)); refine Kd.R_lit k71 _ 71 ?hg (N := 30) ?hd (xs := ([] : List (S71))) (inner := []) (ok := fun _ => True) (okp := fun _ => True) ?hr ?hp (fun _ hk => hk) trivial (Below.refl _ _) (Nat.le_refl _) (by simp) ?_; (case hd => rfl); (case hg => rfl); (case hr => first | (go_simp; done) | (go_simp; rfl)); (case hp => exact (Reps.none _ _)); intro v168 w34 ho35 hb hg_ hnew_; clear hg_ hnew_; (first | rw [← Ny167.out] at ho35 | (simp only [Int.reduceToNat] at ho35; rw [← Ny167.out] at ho35)); replace HO_3 := ak (Kd.S_elder' (by (with_reducible repeat (first | apply Kd.S_alloc | apply Kd.S_drewN | apply Kd.S_drew)); exact HO_3.out) (Kd.R_base ho35) hb); have HO169 := ak (Kd.R_lower ho35 (below_size (by exact hopb HB.out))); replace HB := ak (below_step (by exact hopb HB.out) hb); clear hb ho35; have q36 : ((wrap64 ((ji8) - 1)) : Int) ≤ ((l0.length : Int) : Int) := of_decide_eq_true (by assumption); obtain ⟨i036, hi036, _, hsz36, _⟩ := info_parts info71; have hroom36 : l0.length ≤ c0 := HC0.out; have hC36 : Kd.C k71 _ A0 l0.length l0 := HR0.out; have ql36 : (x4_1 : Int) ≤ ((wrap64 ((ji8) - 1)) : Int) := of_decide_eq_true (by assumption); have q036 : (0 : Int) ≤ (x4_1 : Int) := of_decide_eq_true (by assumption); have hcut36 := cut_mid (P := Try.prog) 32 71 .i64 .i64 Try.underlying32 hi036 2 hsz36 A0 l0.length c0 x4_1 (wrap64 ((ji8) - 1)) q036 ql36 q36 hroom36; have hr36 := Kd.C_mid (lo := (x4_1 : Int).toNat) (hi := ((wrap64 ((ji8) - 1)) : Int).toNat) (c := c0) hC36 (by omega) (by omega) hroom36; obtain ⟨A36, hA36⟩ : ∃ A1, A1 = (if c0 = (x4_1 : Int).toNat then A0 else (A0 : Option Addr).map (·.add ((x4_1 : Int).toNat * 2))) := ⟨_, rfl⟩; obtain ⟨c36, hc36⟩ : ∃ c1, c1 = c0 - (x4_1 : Int).toNat := ⟨_, rfl⟩; have hy36 : y170.length = ((wrap64 ((ji8) - 1)) : Int).toNat - (x4_1 : Int).toNat := (by rw [Ny170.out, List.length_drop, List.length_take] <;> omega); rw [show ((l0).take ((wrap64 ((ji8) - 1)) : Int).toNat).drop (x4_1 : Int).toNat = y170 from Ny170.out.symm] at hr36; replace hr36 : Kd.C k71 _ A36 y170.length y170 := (by rw [hA36]; exact hr36); rw [← hy36, ← hA36, ← hc36] at hcut36; have HR173 := ak hr36; have HC173 := ak (show y170.length ≤ c36 from by rw [hy36, hc36]; exact Nat.sub_le_sub_right (Nat.le_trans (by omega) hroom36) _); clear hr36 hC36 hroom36 hi036 hsz36 hc36; have KY36 := ak hy36; have KA36 := ak hA36; clear hy36 hA36; replace q36 := eq_true q36) | ((with_reducible refine gate_builtin (b := .append) (xs := #[.tmp 30, .tmp 34]) rfl ?_); (try (refine gate_guard (by rfl) ?_; dsimp only)); at_builtin; refine Kd.R_append_rows k71 (w0 := w) w.heap.size rfl (.tmp 30) (.tmp 34) 32 71 (.agg #[(.string ⟨#[]⟩), (.int .i64 0)]) 24 rfl Try.underlying32 info71 rfl (by decide) (by omega) v168 y167 y170 _ _ _ (fun _ => True) (fun _ => False) rfl rfl ?aO ?aR (fun _ _ h => h) (fun _ h => h.elim) ?aF ?aB ?aS ?aL ?_; (case aR => repeat (first | exact (Kd.C_below HR173.out HB.out) | (with_reducible refine Kd.C_alloc ?_ _) | (with_reducible refine Kd.C_drewN ?_ _) | (with_reducible refine Kd.C_drew ?_))); (case aB => exact (by exact hopb HB.out)); (case aF => exact (fun _ _ => trivial)); (case aO => exact (by (with_reducible repeat (first | apply Kd.R_alloc | apply Kd.R_drewN | apply Kd.R_drew)); exact HO169.out)); (case aS => exact (below_size (by exact hopb HB.out))); (case aL => have := LMc13.out; omega); intro v175 w37 ho hb hg hat; rw [← Ny174.out] at ho; replace HO_3 := ak (Kd.S_after (ok := (fun _ => True)) (by (with_reducible repeat (first | apply Kd.S_alloc | apply Kd.S_drewN | apply Kd.S_drew)); exact HO_3.out) hg hat); replace HB := ak (hb); have HO176 := ak (ho); clear HO169; clear ho hb hg hat; obtain ⟨Ao38, co38, eo38⟩ := Kd.R_slice HO176.out; subst eo38) | ((with_reducible refine gate_builtin (b := .append) (xs := #[.tmp 29, .tmp 37]) rfl ?_); (try (refine gate_guard (by rfl) ?_; dsimp only)); at_builtin; refine Kd.S_append k64 (w0 := w) w.heap.size rfl (.tmp 29) (.tmp 37) 34 64 (.agg #[(.slice none 0 0)]) 24 rfl Try.underlying34 info64 rfl (by decide) (by omega) u3 x3_1 (⟨y174⟩ : S64) [.slice Ao38 y174.length co38] (fun _ => True) (fun k_ => some k_ = (.slice Ao38 y174.length co38 : Value).ownBlock) rfl rfl ?aP (fun k_ hk_ => ((Kd.R_mono (ok' := fun k_ => ((fun _ => True)) k_ ∧ some k_ ≠ (u3 : Value).ownBlock) (Kd.R_apart' (HO176.out) (Kd.S_typed HO_3.out) (by decide)) (fun k_ hk => ⟨trivial, hk.2⟩))).1 k_ hk_.symm) ?aF ?aO ?aB ?aS ?aL ?_; (case aP => exact k64_mkM _ _ _ (⟨y174⟩ : S64) (Kd.R_mono (Kd.R_tight rfl (Kd.R_mono (ok' := fun k_ => ((fun _ => True)) k_ ∧ some k_ ≠ (u3 : Value).ownBlock) (Kd.R_apart' (HO176.out) (Kd.S_typed HO_3.out) (by decide)) (fun k_ hk => ⟨trivial, hk.2⟩))) (fun _ h_ => h_))); (case aB => exact (by exact hopb HB.out)); (case aF => exact (fun _ _ => trivial)); (case aO => exact (by (with_reducible repeat (first | apply Kd.S_alloc | apply Kd.S_drewN | apply Kd.S_drew)); exact Kd.S_mono HO_3.out (fun k_ hk => ⟨trivial, fun e_ => hk.2 e_⟩))); (case aS => exact (below_size (by exact hopb HB.out))); (case aL => have := LMc14.out; omega); intro v178 w39 ho hb hg hat; rw [← Ny177.out] at ho; replace HB := ak (hb); have HO179 := ak (ho); clear HO_3 HO176; clear ho hb hg hat))
             go_roundg k1
             case measure => have := HK1.out; omega
             case rel => exact ⟨(y177), (wrap64 (x4_1 + 4)), (by first | rfl | (simp; done) | (simp [bne]; done) | (simp [*]; done)), H', ⟨by have := HK1.out; omega⟩, ⟨by (with_reducible repeat (first | apply Kd.S_alloc | apply Kd.S_drewN | apply Kd.S_drew)); exact HO179.out⟩, ⟨by repeat (first | (with_reducible first | exact HB.out | apply bA | apply bN | apply bD) | exact HB.out)⟩⟩
           ·rw [if_neg c15] at H
            have c15b0 : decide ((wrap64 ((ji8) - 1)) < (wrap64 (x4_1 + 4))) = false := decide_eq_false c15
            clear c15
            have H' := ak H
            clear H
            go_wp2_with (first | ((with_reducible refine gate_dst (N := 30) rfl ?_); (try (refine gate_guard (by rfl) ?_; dsimp only)); refine Kd.R_lit k71 _ 71 ?hg (N := 30) ?hd (xs := ([] : List (S71))) (inner := []) (ok := fun _ => True) (okp := fun _ => True) ?hr ?hp (fun _ hk => hk) trivial (Below.refl _ _) (Nat.le_refl _) (by simp) ?_; (case hd => rfl); (case hg => rfl); (case hr => first | (go_simp; done) | (go_simp; rfl)); (case hp => exact (Reps.none _ _)); intro v168 w40 ho41 hb hg_ hnew_; clear hg_ hnew_; (first | rw [← Ny167.out] at ho41 | (simp only [Int.reduceToNat] at ho41; rw [← Ny167.out] at ho41)); replace HO_3 := ak (Kd.S_elder' (by (with_reducible repeat (first | apply Kd.S_alloc | apply Kd.S_drewN | apply Kd.S_drew)); exact HO_3.out) (Kd.R_base ho41) hb); have HO169 := ak (Kd.R_lower ho41 (below_size (by exact hopb HB.out))); replace HB := ak (below_step (by exact hopb HB.out) hb); clear hb ho41; have q42 : ((wrap64 ((ji8) - 1)) : Int) ≤ ((l0.length : Int) : Int) := of_decide_eq_true (by assumption); obtain ⟨i042, hi042, _, hsz42, _⟩ := info_parts info71; have hroom42 : l0.length ≤ c0 := HC0.out; have hC42 : Kd.C k71 _ A0 l0.length l0 := HR0.out; have ql42 : (x4_1 : Int) ≤ ((wrap64 ((ji8) - 1)) : Int) := of_decide_eq_true (by assumption); have q042 : (0 : Int) ≤ (x4_1 : Int) := of_decide_eq_true (by assumption); have hcut42 := cut_mid (P := Try.prog) 32 71 .i64 .i64 Try.underlying32 hi042 2 hsz42 A0 l0.length c0 x4_1 (wrap64 ((ji8) - 1)) q042 ql42 q42 hroom42; have hr42 := Kd.C_mid (lo := (x4_1 : Int).toNat) (hi := ((wrap64 ((ji8) - 1)) : Int).toNat) (c := c0) hC42 (by omega) (by omega) hroom42; obtain ⟨A42, hA42⟩ : ∃ A1, A1 = (if c0 = (x4_1 : Int).toNat then A0 else (A0 : Option Addr).map (·.add ((x4_1 : Int).toNat * 2))) := ⟨_, rfl⟩; obtain ⟨c42, hc42⟩ : ∃ c1, c1 = c0 - (x4_1 : Int).toNat := ⟨_, rfl⟩; have hy42 : y170.length = ((wrap64 ((ji8) - 1)) : Int).toNat - (x4_1 : Int).toNat := (by rw [Ny170.out, List.length_drop, List.length_take] <;> omega); rw [show ((l0).take ((wrap64 ((ji8) - 1)) : Int).toNat).drop (x4_1 : Int).toNat = y170 from Ny170.out.symm] at hr42; replace hr42 : Kd.C k71 _ A42 y170.length y170 := (by rw [hA42]; exact hr42); rw [← hy42, ← hA42, ← hc42] at hcut42; have HR173 := ak hr42; have HC173 := ak (show y170.length ≤ c42 from by rw [hy42, hc42]; exact Nat.sub_le_sub_right (Nat.le_trans (by omega) hroom42) _); clear hr42 hC42 hroom42 hi042 hsz42 hc42; have KY42 := ak hy42; have KA42 := ak hA42; clear hy42 hA42; replace q42 := eq_true q42) | ((with_reducible refine gate_builtin (b := .append) (xs := #[.tmp 30, .tmp 34]) rfl ?_); (try (refine gate_guard (by rfl) ?_; dsimp only)); at_builtin; refine Kd.R_append_rows k71 (w0 := w) w.heap.size rfl (.tmp 30) (.tmp 34) 32 71 (.agg #[(.string ⟨#[]⟩), (.int .i64 0)]) 24 rfl Try.underlying32 info71 rfl (by decide) (by omega) v168 y167 y170 _ _ _ (fun _ => True) (fun _ => False) rfl rfl ?aO ?aR (fun _ _ h => h) (fun _ h => h.elim) ?aF ?aB ?aS ?aL ?_; (case aR => repeat (first | exact (Kd.C_below HR173.out HB.out) | (with_reducible refine Kd.C_alloc ?_ _) | (with_reducible refine Kd.C_drewN ?_ _) | (with_reducible refine Kd.C_drew ?_))); (case aB => exact (by exact hopb HB.out)); (case aF => exact (fun _ _ => trivial)); (case aO => exact (by (with_reducible repeat (first | apply Kd.R_alloc | apply Kd.R_drewN | apply Kd.R_drew)); exact HO169.out)); (case aS => exact (below_size (by exact hopb HB.out))); (case aL => have := LMc13.out; omega); intro v175 w43 ho hb hg hat; rw [← Ny174.out] at ho; replace HO_3 := ak (Kd.S_after (ok := (fun _ => True)) (by (with_reducible repeat (first | apply Kd.S_alloc | apply Kd.S_drewN | apply Kd.S_drew)); exact HO_3.out) hg hat); replace HB := ak (hb); have HO176 := ak (ho); clear HO169; clear ho hb hg hat; obtain ⟨Ao44, co44, eo44⟩ := Kd.R_slice HO176.out; subst eo44) | ((with_reducible refine gate_builtin (b := .append) (xs := #[.tmp 29, .tmp 37]) rfl ?_); (try (refine gate_guard (by rfl) ?_; dsimp only)); at_builtin; refine Kd.S_append k64 (w0 := w) w.heap.size rfl (.tmp 29) (.tmp 37) 34 64 (.agg #[(.slice none 0 0)]) 24 rfl Try.underlying34 info64 rfl (by decide) (by omega) u3 x3_1 (⟨y174⟩ : S64) [.slice Ao44 y174.length co44] (fun _ => True) (fun k_ => some k_ = (.slice Ao44 y174.length co44 : Value).ownBlock) rfl rfl ?aP (fun k_ hk_ => ((Kd.R_mono (ok' := fun k_ => ((fun _ => True)) k_ ∧ some k_ ≠ (u3 : Value).ownBlock) (Kd.R_apart' (HO176.out) (Kd.S_typed HO_3.out) (by decide)) (fun k_ hk => ⟨trivial, hk.2⟩))).1 k_ hk_.symm) ?aF ?aO ?aB ?aS ?aL ?_; (case aP => exact k64_mkM _ _ _ (⟨y174⟩ : S64) (Kd.R_mono (Kd.R_tight rfl (Kd.R_mono (ok' := fun k_ => ((fun _ => True)) k_ ∧ some k_ ≠ (u3 : Value).ownBlock) (Kd.R_apart' (HO176.out) (Kd.S_typed HO_3.out) (by decide)) (fun k_ hk => ⟨trivial, hk.2⟩))) (fun _ h_ => h_))); (case aB => exact (by exact hopb HB.out)); (case aF => exact (fun _ _ => trivial)); (case aO => exact (by (with_reducible repeat (first | apply Kd.S_alloc | apply Kd.S_drewN | apply Kd.S_drew)); exact Kd.S_mono HO_3.out (fun k_ hk => ⟨trivial, fun e_ => hk.2 e_⟩))); (case aS => exact (below_size (by exact hopb HB.out))); (case aL => have := LMc14.out; omega); intro v178 w45 ho hb hg hat; rw [← Ny177.out] at ho; replace HB := ak (hb); have HO179 := ak (ho); clear HO_3 HO176; clear ho hb hg hat))
            go_roundg k1
            case measure => have := HK1.out; omega
            case rel => exact ⟨(y177), (wrap64 (x4_1 + 4)), (by first | rfl | (simp; done) | (simp [bne]; done) | (simp [*]; done)), H', ⟨by have := HK1.out; omega⟩, ⟨by (with_reducible repeat (first | apply Kd.S_alloc | apply Kd.S_drewN | apply Kd.S_drew)); exact HO179.out⟩, ⟨by repeat (first | (with_reducible first | exact HB.out | apply bA | apply bN | apply bD) | exact HB.out)⟩⟩
          ·rw [if_neg c14] at H
           exact absurd H (by simp)
         ·rw [if_neg c13] at H
          exact absurd H (by simp)
        ·rw [if_neg c12] at H
         exact absurd H (by simp)
       ·rw [if_neg c11] at H
        exact absurd H (by simp)
      ·rw [if_neg c10] at H
       exact absurd H (by simp)
     ·rw [if_neg c9] at H
      have c9b0 : ((wrap64 ((l0.length : Int) - (ji8))) == 1) = false := beq_eq_false_iff_ne.mpr c9
      have c9b1 : ((wrap64 ((l0.length : Int) - (ji8))) != 1) = true := bne_iff_ne.mpr c9
      obtain ⟨y193, hy193⟩ : ∃ y_ : List (S71), y_ = (([] : List (S71))) := ⟨_, rfl⟩
      replace H : (if 0 ≤ x4_1 then (if x4_1 ≤ (ji8) then (if (ji8) ≤ (l0.length : Int) then ((some ((l0.take ((ji8) : Int).toNat).drop (x4_1 : Int).toNat : List (S71))).bind fun y196 => (if y193.length + y196.length < 5864062014805 then (if x3_1.length < 5864062014805 then ((some (x3_1 ++ [(⟨(y193 ++ y196)⟩ : S64)] : List (S64))).bind fun y203 => (if (ji8) < (wrap64 (x4_1 + 4)) then (if (ji8) < (l0.length : Int) then ((some (([] : List (S71)) : List (S71))).bind fun y206 => (if 0 ≤ (ji8) then ((some (l0.drop ((ji8) : Int).toNat : List (S71))).bind fun y209 => (if y206.length + y209.length < 5864062014805 then (if y203.length < 5864062014805 then (some (y203 ++ [(⟨(y206 ++ y209)⟩ : S64)])) else (none)) else (none))) else (none))) else (spec_PagesOf.l0 k1 l0 y203 (wrap64 (x4_1 + 4)))) else (spec_PagesOf.l0 k1 l0 y203 (wrap64 (x4_1 + 4))))) else (none)) else (none))) else (none)) else (none)) else (none)) = some r := by first | (rw [hy193]; exact H) | exact H
      have Ny193 := ak hy193
      clear hy193
      by_cases c46 : 0 ≤ x4_1
      ·rw [if_pos c46] at H
       have c46b0 := eq_true c46
       have c46b1 : decide (0 ≤ x4_1) = true := decide_eq_true c46
       clear c46
       by_cases c47 : x4_1 ≤ (ji8)
       ·rw [if_pos c47] at H
        have c47b0 := eq_true c47
        have c47b1 : decide (x4_1 ≤ (ji8)) = true := decide_eq_true c47
        clear c47
        by_cases c48 : (ji8) ≤ (l0.length : Int)
        ·rw [if_pos c48] at H
         have c48b0 := eq_true c48
         have c48b1 : decide ((ji8) ≤ (l0.length : Int)) = true := decide_eq_true c48
         clear c48
         obtain ⟨y196, hy196⟩ : ∃ y_ : List (S71), y_ = ((l0.take ((ji8) : Int).toNat).drop (x4_1 : Int).toNat) := ⟨_, rfl⟩
         replace H : (if y193.length + y196.length < 5864062014805 then (if x3_1.length < 5864062014805 then ((some (x3_1 ++ [(⟨(y193 ++ y196)⟩ : S64)] : List (S64))).bind fun y203 => (if (ji8) < (wrap64 (x4_1 + 4)) then (if (ji8) < (l0.length : Int) then ((some (([] : List (S71)) : List (S71))).bind fun y206 => (if 0 ≤ (ji8) then ((some (l0.drop ((ji8) : Int).toNat : List (S71))).bind fun y209 => (if y206.length + y209.length < 5864062014805 then (if y203.length < 5864062014805 then (some (y203 ++ [(⟨(y206 ++ y209)⟩ : S64)])) else (none)) else (none))) else (none))) else (spec_PagesOf.l0 k1 l0 y203 (wrap64 (x4_1 + 4)))) else (spec_PagesOf.l0 k1 l0 y203 (wrap64 (x4_1 + 4))))) else (none)) else (none)) = some r := by first | (rw [hy196]; exact H) | exact H
         have Ny196 := ak hy196
         clear hy196
         by_cases c49 : y193.length + y196.length < 5864062014805
         ·rw [if_pos c49] at H
          have LMc49 := ak c49
          clear c49
          obtain ⟨y200, hy200⟩ : ∃ y_ : List (S71), y_ = (y193 ++ y196) := ⟨_, rfl⟩
          replace H : (if x3_1.length < 5864062014805 then ((some (x3_1 ++ [(⟨y200⟩ : S64)] : List (S64))).bind fun y203 => (if (ji8) < (wrap64 (x4_1 + 4)) then (if (ji8) < (l0.length : Int) then ((some (([] : List (S71)) : List (S71))).bind fun y206 => (if 0 ≤ (ji8) then ((some (l0.drop ((ji8) : Int).toNat : List (S71))).bind fun y209 => (if y206.length + y209.length < 5864062014805 then (if y203.length < 5864062014805 then (some (y203 ++ [(⟨(y206 ++ y209)⟩ : S64)])) else (none)) else (none))) else (none))) else (spec_PagesOf.l0 k1 l0 y203 (wrap64 (x4_1 + 4)))) else (spec_PagesOf.l0 k1 l0 y203 (wrap64 (x4_1 + 4))))) else (none)) = some r := by first | (rw [hy200]; exact H) | exact H
          have Ny200 := ak hy200
          clear hy200
          by_cases c50 : x3_1.length < 5864062014805
          ·rw [if_pos c50] at H
           have LMc50 := ak c50
           clear c50
           obtain ⟨y203, hy203⟩ : ∃ y_ : List (S64), y_ = (x3_1 ++ [(⟨y200⟩ : S64)]) := ⟨_, rfl⟩
           replace H : (if (ji8) < (wrap64 (x4_1 + 4)) then (if (ji8) < (l0.length : Int) then ((some (([] : List (S71)) : List (S71))).bind fun y206 => (if 0 ≤ (ji8) then ((some (l0.drop ((ji8) : Int).toNat : List (S71))).bind fun y209 => (if y206.length + y209.length < 5864062014805 then (if y203.length < 5864062014805 then (some (y203 ++ [(⟨(y206 ++ y209)⟩ : S64)])) else (none)) else (none))) else (none))) else (spec_PagesOf.l0 k1 l0 y203 (wrap64 (x4_1 + 4)))) else (spec_PagesOf.l0 k1 l0 y203 (wrap64 (x4_1 + 4)))) = some r := by first | (rw [hy203]; exact H) | exact H
           have Ny203 := ak hy203
           clear hy203
           by_cases c51 : (ji8) < (wrap64 (x4_1 + 4))
           ·rw [if_pos c51] at H
            have c51b0 : decide ((ji8) < (wrap64 (x4_1 + 4))) = true := decide_eq_true c51
            clear c51
            by_cases c52 : (ji8) < (l0.length : Int)
            ·rw [if_pos c52] at H
             have c52b0 : decide ((ji8) < (l0.length : Int)) = true := decide_eq_true c52
             clear c52
             obtain ⟨y206, hy206⟩ : ∃ y_ : List (S71), y_ = (([] : List (S71))) := ⟨_, rfl⟩
             replace H : (if 0 ≤ (ji8) then ((some (l0.drop ((ji8) : Int).toNat : List (S71))).bind fun y209 => (if y206.length + y209.length < 5864062014805 then (if y203.length < 5864062014805 then (some (y203 ++ [(⟨(y206 ++ y209)⟩ : S64)])) else (none)) else (none))) else (none)) = some r := by first | (rw [hy206]; exact H) | exact H
             have Ny206 := ak hy206
             clear hy206
             by_cases c53 : 0 ≤ (ji8)
             ·rw [if_pos c53] at H
              have c53b0 := eq_true c53
              have c53b1 : decide (0 ≤ (ji8)) = true := decide_eq_true c53
              clear c53
              have c54b0 := eq_true (of_decide_eq_true (by assumption) : (ji8) ≤ (l0.length : Int))
              obtain ⟨y209, hy209⟩ : ∃ y_ : List (S71), y_ = (l0.drop ((ji8) : Int).toNat) := ⟨_, rfl⟩
              replace H : (if y206.length + y209.length < 5864062014805 then (if y203.length < 5864062014805 then (some (y203 ++ [(⟨(y206 ++ y209)⟩ : S64)])) else (none)) else (none)) = some r := by first | (rw [hy209]; exact H) | exact H
              have Ny209 := ak hy209
              clear hy209
              by_cases c55 : y206.length + y209.length < 5864062014805
              ·rw [if_pos c55] at H
               have LMc55 := ak c55
               clear c55
               obtain ⟨y213, hy213⟩ : ∃ y_ : List (S71), y_ = (y206 ++ y209) := ⟨_, rfl⟩
               replace H : (if y203.length < 5864062014805 then (some (y203 ++ [(⟨y213⟩ : S64)])) else (none)) = some r := by first | (rw [hy213]; exact H) | exact H
               have Ny213 := ak hy213
               clear hy213
               by_cases c56 : y203.length < 5864062014805
               ·rw [if_pos c56] at H
                have LMc56 := ak c56
                clear c56
                obtain ⟨y216, hy216⟩ : ∃ y_ : List (S64), y_ = (y203 ++ [(⟨y213⟩ : S64)]) := ⟨_, rfl⟩
                replace H : (some y216) = some r := by first | (rw [hy216]; exact H) | exact H
                have Ny216 := ak hy216
                clear hy216
                obtain rfl := Option.some.inj H
                go_wp2_with (first | ((with_reducible refine gate_dst (N := 30) rfl ?_); (try (refine gate_guard (by rfl) ?_; dsimp only)); refine Kd.R_lit k71 _ 71 ?hg (N := 30) ?hd (xs := ([] : List (S71))) (inner := []) (ok := fun _ => True) (okp := fun _ => True) ?hr ?hp (fun _ hk => hk) trivial (Below.refl _ _) (Nat.le_refl _) (by simp) ?_; (case hd => rfl); (case hg => rfl); (case hr => first | (go_simp; done) | (go_simp; rfl)); (case hp => exact (Reps.none _ _)); intro v194 w57 ho58 hb hg_ hnew_; clear hg_ hnew_; (first | rw [← Ny193.out] at ho58 | (simp only [Int.reduceToNat] at ho58; rw [← Ny193.out] at ho58)); replace HO_3 := ak (Kd.S_elder' (by (with_reducible repeat (first | apply Kd.S_alloc | apply Kd.S_drewN | apply Kd.S_drew)); exact HO_3.out) (Kd.R_base ho58) hb); have HO195 := ak (Kd.R_lower ho58 (below_size (by exact hopb HB.out))); replace HB := ak (below_step (by exact hopb HB.out) hb); clear hb ho58; have q59 : ((ji8) : Int) ≤ ((l0.length : Int) : Int) := of_decide_eq_true (by assumption); obtain ⟨i059, hi059, _, hsz59, _⟩ := info_parts info71; have hroom59 : l0.length ≤ c0 := HC0.out; have hC59 : Kd.C k71 _ A0 l0.length l0 := HR0.out; have ql59 : (x4_1 : Int) ≤ ((ji8) : Int) := of_decide_eq_true (by assumption); have q059 : (0 : Int) ≤ (x4_1 : Int) := of_decide_eq_true (by assumption); have hcut59 := cut_mid (P := Try.prog) 32 71 .i64 .i64 Try.underlying32 hi059 2 hsz59 A0 l0.length c0 x4_1 (ji8) q059 ql59 q59 hroom59; have hr59 := Kd.C_mid (lo := (x4_1 : Int).toNat) (hi := ((ji8) : Int).toNat) (c := c0) hC59 (by omega) (by omega) hroom59; obtain ⟨A59, hA59⟩ : ∃ A1, A1 = (if c0 = (x4_1 : Int).toNat then A0 else (A0 : Option Addr).map (·.add ((x4_1 : Int).toNat * 2))) := ⟨_, rfl⟩; obtain ⟨c59, hc59⟩ : ∃ c1, c1 = c0 - (x4_1 : Int).toNat := ⟨_, rfl⟩; have hy59 : y196.length = ((ji8) : Int).toNat - (x4_1 : Int).toNat := (by rw [Ny196.out, List.length_drop, List.length_take] <;> omega); rw [show ((l0).take ((ji8) : Int).toNat).drop (x4_1 : Int).toNat = y196 from Ny196.out.symm] at hr59; replace hr59 : Kd.C k71 _ A59 y196.length y196 := (by rw [hA59]; exact hr59); rw [← hy59, ← hA59, ← hc59] at hcut59; have HR199 := ak hr59; have HC199 := ak (show y196.length ≤ c59 from by rw [hy59, hc59]; exact Nat.sub_le_sub_right (Nat.le_trans (by omega) hroom59) _); clear hr59 hC59 hroom59 hi059 hsz59 hc59; have KY59 := ak hy59; have KA59 := ak hA59; clear hy59 hA59; replace q59 := eq_true q59) | ((with_reducible refine gate_builtin (b := .append) (xs := #[.tmp 30, .tmp 34]) rfl ?_); (try (refine gate_guard (by rfl) ?_; dsimp only)); at_builtin; refine Kd.R_append_rows k71 (w0 := w) w.heap.size rfl (.tmp 30) (.tmp 34) 32 71 (.agg #[(.string ⟨#[]⟩), (.int .i64 0)]) 24 rfl Try.underlying32 info71 rfl (by decide) (by omega) v194 y193 y196 _ _ _ (fun _ => True) (fun _ => False) rfl rfl ?aO ?aR (fun _ _ h => h) (fun _ h => h.elim) ?aF ?aB ?aS ?aL ?_; (case aR => repeat (first | exact (Kd.C_below HR199.out HB.out) | (with_reducible refine Kd.C_alloc ?_ _) | (with_reducible refine Kd.C_drewN ?_ _) | (with_reducible refine Kd.C_drew ?_))); (case aB => exact (by exact hopb HB.out)); (case aF => exact (fun _ _ => trivial)); (case aO => exact (by (with_reducible repeat (first | apply Kd.R_alloc | apply Kd.R_drewN | apply Kd.R_drew)); exact HO195.out)); (case aS => exact (below_size (by exact hopb HB.out))); (case aL => have := LMc49.out; omega); intro v201 w60 ho hb hg hat; rw [← Ny200.out] at ho; replace HO_3 := ak (Kd.S_after (ok := (fun _ => True)) (by (with_reducible repeat (first | apply Kd.S_alloc | apply Kd.S_drewN | apply Kd.S_drew)); exact HO_3.out) hg hat); replace HB := ak (hb); have HO202 := ak (ho); clear HO195; clear ho hb hg hat; obtain ⟨Ao61, co61, eo61⟩ := Kd.R_slice HO202.out; subst eo61) | ((with_reducible refine gate_builtin (b := .append) (xs := #[.tmp 29, .tmp 37]) rfl ?_); (try (refine gate_guard (by rfl) ?_; dsimp only)); at_builtin; refine Kd.S_append k64 (w0 := w) w.heap.size rfl (.tmp 29) (.tmp 37) 34 64 (.agg #[(.slice none 0 0)]) 24 rfl Try.underlying34 info64 rfl (by decide) (by omega) u3 x3_1 (⟨y200⟩ : S64) [.slice Ao61 y200.length co61] (fun _ => True) (fun k_ => some k_ = (.slice Ao61 y200.length co61 : Value).ownBlock) rfl rfl ?aP (fun k_ hk_ => ((Kd.R_mono (ok' := fun k_ => ((fun _ => True)) k_ ∧ some k_ ≠ (u3 : Value).ownBlock) (Kd.R_apart' (HO202.out) (Kd.S_typed HO_3.out) (by decide)) (fun k_ hk => ⟨trivial, hk.2⟩))).1 k_ hk_.symm) ?aF ?aO ?aB ?aS ?aL ?_; (case aP => exact k64_mkM _ _ _ (⟨y200⟩ : S64) (Kd.R_mono (Kd.R_tight rfl (Kd.R_mono (ok' := fun k_ => ((fun _ => True)) k_ ∧ some k_ ≠ (u3 : Value).ownBlock) (Kd.R_apart' (HO202.out) (Kd.S_typed HO_3.out) (by decide)) (fun k_ hk => ⟨trivial, hk.2⟩))) (fun _ h_ => h_))); (case aB => exact (by exact hopb HB.out)); (case aF => exact (fun _ _ => trivial)); (case aO => exact (by (with_reducible repeat (first | apply Kd.S_alloc | apply Kd.S_drewN | apply Kd.S_drew)); exact Kd.S_mono HO_3.out (fun k_ hk => ⟨trivial, fun e_ => hk.2 e_⟩))); (case aS => exact (below_size (by exact hopb HB.out))); (case aL => have := LMc50.out; omega); intro v204 w62 ho hb hg hat; rw [← Ny203.out] at ho; replace HB := ak (hb); have HO205 := ak (ho); clear HO_3 HO202; clear ho hb hg hat) | ((with_reducible refine gate_dst (N := 50) rfl ?_); (try (refine gate_guard (by rfl) ?_; dsimp only)); refine Kd.R_lit k71 _ 71 ?hg (N := 50) ?hd (xs := ([] : List (S71))) (inner := []) (ok := fun _ => True) (okp := fun _ => True) ?hr ?hp (fun _ hk => hk) trivial (Below.refl _ _) (Nat.le_refl _) (by simp) ?_; (case hd => rfl); (case hg => rfl); (case hr => first | (go_simp; done) | (go_simp; rfl)); (case hp => exact (Reps.none _ _)); intro v207 w63 ho64 hb hg_ hnew_; clear hg_ hnew_; (first | rw [← Ny206.out] at ho64 | (simp only [Int.reduceToNat] at ho64; rw [← Ny206.out] at ho64)); replace HO205 := ak (Kd.S_elder' (by (with_reducible repeat (first | apply Kd.S_alloc | apply Kd.S_drewN | apply Kd.S_drew)); exact HO205.out) (Kd.R_base ho64) hb); have HO208 := ak (Kd.R_lower ho64 (below_size (by exact hopb HB.out))); replace HB := ak (below_step (by exact hopb HB.out) hb); clear hb ho64; have q65 : ((ji8) : Int) ≤ ((l0.length : Int) : Int) := of_decide_eq_true (by assumption); obtain ⟨i065, hi065, _, hsz65, _⟩ := info_parts info71; have hroom65 : l0.length ≤ c0 := HC0.out; have hC65 : Kd.C k71 _ A0 l0.length l0 := HR0.out; have q065 : (0 : Int) ≤ ((ji8) : Int) := of_decide_eq_true (by assumption); have hcut65 := cut_from (P := Try.prog) 32 71 .i64 Try.underlying32 hi065 2 hsz65 A0 l0.length c0 (ji8) q065 q65; have hr65 := Kd.C_drop (m := ((ji8) : Int).toNat) (c := c0) hC65 (by omega) hroom65; obtain ⟨A65, hA65⟩ : ∃ A1, A1 = (if c0 = ((ji8) : Int).toNat then A0 else (A0 : Option Addr).map (·.add (((ji8) : Int).toNat * 2))) := ⟨_, rfl⟩; obtain ⟨c65, hc65⟩ : ∃ c1, c1 = c0 - ((ji8) : Int).toNat := ⟨_, rfl⟩; have hy65 : y209.length = l0.length - ((ji8) : Int).toNat := (by rw [Ny209.out, List.length_drop] <;> omega); rw [show (l0).drop ((ji8) : Int).toNat = y209 from Ny209.out.symm] at hr65; replace hr65 : Kd.C k71 _ A65 y209.length y209 := (by rw [hA65]; exact hr65); rw [← hy65, ← hA65, ← hc65] at hcut65; have HR212 := ak hr65; have HC212 := ak (show y209.length ≤ c65 from by rw [hy65, hc65]; exact Nat.sub_le_sub_right hroom65 _); clear hr65 hC65 hroom65 hi065 hsz65 hc65; have KY65 := ak hy65; have KA65 := ak hA65; clear hy65 hA65; replace q65 := eq_true q65) | ((with_reducible refine gate_builtin (b := .append) (xs := #[.tmp 50, .tmp 53]) rfl ?_); (try (refine gate_guard (by rfl) ?_; dsimp only)); at_builtin; refine Kd.R_append_rows k71 (w0 := w) w.heap.size rfl (.tmp 50) (.tmp 53) 32 71 (.agg #[(.string ⟨#[]⟩), (.int .i64 0)]) 24 rfl Try.underlying32 info71 rfl (by decide) (by omega) v207 y206 y209 _ _ _ (fun _ => True) (fun _ => False) rfl rfl ?aO ?aR (fun _ _ h => h) (fun _ h => h.elim) ?aF ?aB ?aS ?aL ?_; (case aR => repeat (first | exact (Kd.C_below HR212.out HB.out) | (with_reducible refine Kd.C_alloc ?_ _) | (with_reducible refine Kd.C_drewN ?_ _) | (with_reducible refine Kd.C_drew ?_))); (case aB => exact (by exact hopb HB.out)); (case aF => exact (fun _ _ => trivial)); (case aO => exact (by (with_reducible repeat (first | apply Kd.R_alloc | apply Kd.R_drewN | apply Kd.R_drew)); exact HO208.out)); (case aS => exact (below_size (by exact hopb HB.out))); (case aL => have := LMc55.out; omega); intro v214 w66 ho hb hg hat; rw [← Ny213.out] at ho; replace HO205 := ak (Kd.S_after (ok := (fun _ => True)) (by (with_reducible repeat (first | apply Kd.S_alloc | apply Kd.S_drewN | apply Kd.S_drew)); exact HO205.out) hg hat); replace HB := ak (hb); have HO215 := ak (ho); clear HO208; clear ho hb hg hat; obtain ⟨Ao67, co67, eo67⟩ := Kd.R_slice HO215.out; subst eo67) | ((with_reducible refine gate_builtin (b := .append) (xs := #[.tmp 49, .tmp 56]) rfl ?_); (try (refine gate_guard (by rfl) ?_; dsimp only)); at_builtin; refine Kd.S_append k64 (w0 := w) w.heap.size rfl (.tmp 49) (.tmp 56) 34 64 (.agg #[(.slice none 0 0)]) 24 rfl Try.underlying34 info64 rfl (by decide) (by omega) v204 y203 (⟨y213⟩ : S64) [.slice Ao67 y213.length co67] (fun _ => True) (fun k_ => some k_ = (.slice Ao67 y213.length co67 : Value).ownBlock) rfl rfl ?aP (fun k_ hk_ => ((Kd.R_mono (ok' := fun k_ => ((fun _ => True)) k_ ∧ some k_ ≠ (v204 : Value).ownBlock) (Kd.R_apart' (HO215.out) (Kd.S_typed HO205.out) (by decide)) (fun k_ hk => ⟨trivial, hk.2⟩))).1 k_ hk_.symm) ?aF ?aO ?aB ?aS ?aL ?_; (case aP => exact k64_mkM _ _ _ (⟨y213⟩ : S64) (Kd.R_mono (Kd.R_tight rfl (Kd.R_mono (ok' := fun k_ => ((fun _ => True)) k_ ∧ some k_ ≠ (v204 : Value).ownBlock) (Kd.R_apart' (HO215.out) (Kd.S_typed HO205.out) (by decide)) (fun k_ hk => ⟨trivial, hk.2⟩))) (fun _ h_ => h_))); (case aB => exact (by exact hopb HB.out)); (case aF => exact (fun _ _ => trivial)); (case aO => exact (by (with_reducible repeat (first | apply Kd.S_alloc | apply Kd.S_drewN | apply Kd.S_drew)); exact Kd.S_mono HO205.out (fun k_ hk => ⟨trivial, fun e_ => hk.2 e_⟩))); (case aS => exact (below_size (by exact hopb HB.out))); (case aL => have := LMc56.out; omega); intro v217 w68 ho hb hg hat; rw [← Ny216.out] at ho; replace HB := ak (hb); have HO218 := ak (ho); clear HO205 HO215; clear ho hb hg hat))
                go_ret
                exact ⟨_, by first | rfl | (simp only [u8_w_, w64_u8_] <;> rfl) | (simp [errW_none, errW_some] <;> rfl) | (simp only [← hji8]; first | rfl | (simp [errW_none, errW_some] <;> rfl)) | (simp [*, errW_none, errW_some] <;> rfl), by (with_reducible repeat (first | apply Kd.S_alloc | apply Kd.S_drewN | apply Kd.S_drew)); exact HO218.out, by repeat (first | (with_reducible first | exact HB.out | apply bA | apply bN | apply bD) | exact HB.out)⟩
               ·rw [if_neg c56] at H
                exact absurd H (by simp)
              ·rw [if_neg c55] at H
               exact absurd H (by simp)
             ·rw [if_neg c53] at H
              exact absurd H (by simp)
            ·rw [if_neg c52] at H
             have c52b0 : decide ((ji8) < (l0.length : Int)) = false := decide_eq_false c52
             clear c52
             have H' := ak H
             clear H
             go_wp2_with (first | ((with_reducible refine gate_dst (N := 30) rfl ?_); (try (refine gate_guard (by rfl) ?_; dsimp only)); refine Kd.R_lit k71 _ 71 ?hg (N := 30) ?hd (xs := ([] : List (S71))) (inner := []) (ok := fun _ => True) (okp := fun _ => True) ?hr ?hp (fun _ hk => hk) trivial (Below.refl _ _) (Nat.le_refl _) (by simp) ?_; (case hd => rfl); (case hg => rfl); (case hr => first | (go_simp; done) | (go_simp; rfl)); (case hp => exact (Reps.none _ _)); intro v194 w69 ho70 hb hg_ hnew_; clear hg_ hnew_; (first | rw [← Ny193.out] at ho70 | (simp only [Int.reduceToNat] at ho70; rw [← Ny193.out] at ho70)); replace HO_3 := ak (Kd.S_elder' (by (with_reducible repeat (first | apply Kd.S_alloc | apply Kd.S_drewN | apply Kd.S_drew)); exact HO_3.out) (Kd.R_base ho70) hb); have HO195 := ak (Kd.R_lower ho70 (below_size (by exact hopb HB.out))); replace HB := ak (below_step (by exact hopb HB.out) hb); clear hb ho70; have q71 : ((ji8) : Int) ≤ ((l0.length : Int) : Int) := of_decide_eq_true (by assumption); obtain ⟨i071, hi071, _, hsz71, _⟩ := info_parts info71; have hroom71 : l0.length ≤ c0 := HC0.out; have hC71 : Kd.C k71 _ A0 l0.length l0 := HR0.out; have ql71 : (x4_1 : Int) ≤ ((ji8) : Int) := of_decide_eq_true (by assumption); have q071 : (0 : Int) ≤ (x4_1 : Int) := of_decide_eq_true (by assumption); have hcut71 := cut_mid (P := Try.prog) 32 71 .i64 .i64 Try.underlying32 hi071 2 hsz71 A0 l0.length c0 x4_1 (ji8) q071 ql71 q71 hroom71; have hr71 := Kd.C_mid (lo := (x4_1 : Int).toNat) (hi := ((ji8) : Int).toNat) (c := c0) hC71 (by omega) (by omega) hroom71; obtain ⟨A71, hA71⟩ : ∃ A1, A1 = (if c0 = (x4_1 : Int).toNat then A0 else (A0 : Option Addr).map (·.add ((x4_1 : Int).toNat * 2))) := ⟨_, rfl⟩; obtain ⟨c71, hc71⟩ : ∃ c1, c1 = c0 - (x4_1 : Int).toNat := ⟨_, rfl⟩; have hy71 : y196.length = ((ji8) : Int).toNat - (x4_1 : Int).toNat := (by rw [Ny196.out, List.length_drop, List.length_take] <;> omega); rw [show ((l0).take ((ji8) : Int).toNat).drop (x4_1 : Int).toNat = y196 from Ny196.out.symm] at hr71; replace hr71 : Kd.C k71 _ A71 y196.length y196 := (by rw [hA71]; exact hr71); rw [← hy71, ← hA71, ← hc71] at hcut71; have HR199 := ak hr71; have HC199 := ak (show y196.length ≤ c71 from by rw [hy71, hc71]; exact Nat.sub_le_sub_right (Nat.le_trans (by omega) hroom71) _); clear hr71 hC71 hroom71 hi071 hsz71 hc71; have KY71 := ak hy71; have KA71 := ak hA71; clear hy71 hA71; replace q71 := eq_true q71) | ((with_reducible refine gate_builtin (b := .append) (xs := #[.tmp 30, .tmp 34]) rfl ?_); (try (refine gate_guard (by rfl) ?_; dsimp only)); at_builtin; refine Kd.R_append_rows k71 (w0 := w) w.heap.size rfl (.tmp 30) (.tmp 34) 32 71 (.agg #[(.string ⟨#[]⟩), (.int .i64 0)]) 24 rfl Try.underlying32 info71 rfl (by decide) (by omega) v194 y193 y196 _ _ _ (fun _ => True) (fun _ => False) rfl rfl ?aO ?aR (fun _ _ h => h) (fun _ h => h.elim) ?aF ?aB ?aS ?aL ?_; (case aR => repeat (first | exact (Kd.C_below HR199.out HB.out) | (with_reducible refine Kd.C_alloc ?_ _) | (with_reducible refine Kd.C_drewN ?_ _) | (with_reducible refine Kd.C_drew ?_))); (case aB => exact (by exact hopb HB.out)); (case aF => exact (fun _ _ => trivial)); (case aO => exact (by (with_reducible repeat (first | apply Kd.R_alloc | apply Kd.R_drewN | apply Kd.R_drew)); exact HO195.out)); (case aS => exact (below_size (by exact hopb HB.out))); (case aL => have := LMc49.out; omega); intro v201 w72 ho hb hg hat; rw [← Ny200.out] at ho; replace HO_3 := ak (Kd.S_after (ok := (fun _ => True)) (by (with_reducible repeat (first | apply Kd.S_alloc | apply Kd.S_drewN | apply Kd.S_drew)); exact HO_3.out) hg hat); replace HB := ak (hb); have HO202 := ak (ho); clear HO195; clear ho hb hg hat; obtain ⟨Ao73, co73, eo73⟩ := Kd.R_slice HO202.out; subst eo73) | ((with_reducible refine gate_builtin (b := .append) (xs := #[.tmp 29, .tmp 37]) rfl ?_); (try (refine gate_guard (by rfl) ?_; dsimp only)); at_builtin; refine Kd.S_append k64 (w0 := w) w.heap.size rfl (.tmp 29) (.tmp 37) 34 64 (.agg #[(.slice none 0 0)]) 24 rfl Try.underlying34 info64 rfl (by decide) (by omega) u3 x3_1 (⟨y200⟩ : S64) [.slice Ao73 y200.length co73] (fun _ => True) (fun k_ => some k_ = (.slice Ao73 y200.length co73 : Value).ownBlock) rfl rfl ?aP (fun k_ hk_ => ((Kd.R_mono (ok' := fun k_ => ((fun _ => True)) k_ ∧ some k_ ≠ (u3 : Value).ownBlock) (Kd.R_apart' (HO202.out) (Kd.S_typed HO_3.out) (by decide)) (fun k_ hk => ⟨trivial, hk.2⟩))).1 k_ hk_.symm) ?aF ?aO ?aB ?aS ?aL ?_; (case aP => exact k64_mkM _ _ _ (⟨y200⟩ : S64) (Kd.R_mono (Kd.R_tight rfl (Kd.R_mono (ok' := fun k_ => ((fun _ => True)) k_ ∧ some k_ ≠ (u3 : Value).ownBlock) (Kd.R_apart' (HO202.out) (Kd.S_typed HO_3.out) (by decide)) (fun k_ hk => ⟨trivial, hk.2⟩))) (fun _ h_ => h_))); (case aB => exact (by exact hopb HB.out)); (case aF => exact (fun _ _ => trivial)); (case aO => exact (by (with_reducible repeat (first | apply Kd.S_alloc | apply Kd.S_drewN | apply Kd.S_drew)); exact Kd.S_mono HO_3.out (fun k_ hk => ⟨trivial, fun e_ => hk.2 e_⟩))); (case aS => exact (below_size (by exact hopb HB.out))); (case aL => have := LMc50.out; omega); intro v204 w74 ho hb hg hat; rw [← Ny203.out] at ho; replace HB := ak (hb); have HO205 := ak (ho); clear HO_3 HO202; clear ho hb hg hat))
             go_roundg k1
             case measure => have := HK1.out; omega
             case rel => exact ⟨(y203), (wrap64 (x4_1 + 4)), (by first | rfl | (simp; done) | (simp [bne]; done) | (simp [*]; done)), H', ⟨by have := HK1.out; omega⟩, ⟨by (with_reducible repeat (first | apply Kd.S_alloc | apply Kd.S_drewN | apply Kd.S_drew)); exact HO205.out⟩, ⟨by repeat (first | (with_reducible first | exact HB.out | apply bA | apply bN | apply bD) | exact HB.out)⟩⟩
           ·rw [if_neg c51] at H
            have c51b0 : decide ((ji8) < (wrap64 (x4_1 + 4))) = false := decide_eq_false c51
            clear c51
            have H' := ak H
            clear H
            go_wp2_with (first | ((with_reducible refine gate_dst (N := 30) rfl ?_); (try (refine gate_guard (by rfl) ?_; dsimp only)); refine Kd.R_lit k71 _ 71 ?hg (N := 30) ?hd (xs := ([] : List (S71))) (inner := []) (ok := fun _ => True) (okp := fun _ => True) ?hr ?hp (fun _ hk => hk) trivial (Below.refl _ _) (Nat.le_refl _) (by simp) ?_; (case hd => rfl); (case hg => rfl); (case hr => first | (go_simp; done) | (go_simp; rfl)); (case hp => exact (Reps.none _ _)); intro v194 w75 ho76 hb hg_ hnew_; clear hg_ hnew_; (first | rw [← Ny193.out] at ho76 | (simp only [Int.reduceToNat] at ho76; rw [← Ny193.out] at ho76)); replace HO_3 := ak (Kd.S_elder' (by (with_reducible repeat (first | apply Kd.S_alloc | apply Kd.S_drewN | apply Kd.S_drew)); exact HO_3.out) (Kd.R_base ho76) hb); have HO195 := ak (Kd.R_lower ho76 (below_size (by exact hopb HB.out))); replace HB := ak (below_step (by exact hopb HB.out) hb); clear hb ho76; have q77 : ((ji8) : Int) ≤ ((l0.length : Int) : Int) := of_decide_eq_true (by assumption); obtain ⟨i077, hi077, _, hsz77, _⟩ := info_parts info71; have hroom77 : l0.length ≤ c0 := HC0.out; have hC77 : Kd.C k71 _ A0 l0.length l0 := HR0.out; have ql77 : (x4_1 : Int) ≤ ((ji8) : Int) := of_decide_eq_true (by assumption); have q077 : (0 : Int) ≤ (x4_1 : Int) := of_decide_eq_true (by assumption); have hcut77 := cut_mid (P := Try.prog) 32 71 .i64 .i64 Try.underlying32 hi077 2 hsz77 A0 l0.length c0 x4_1 (ji8) q077 ql77 q77 hroom77; have hr77 := Kd.C_mid (lo := (x4_1 : Int).toNat) (hi := ((ji8) : Int).toNat) (c := c0) hC77 (by omega) (by omega) hroom77; obtain ⟨A77, hA77⟩ : ∃ A1, A1 = (if c0 = (x4_1 : Int).toNat then A0 else (A0 : Option Addr).map (·.add ((x4_1 : Int).toNat * 2))) := ⟨_, rfl⟩; obtain ⟨c77, hc77⟩ : ∃ c1, c1 = c0 - (x4_1 : Int).toNat := ⟨_, rfl⟩; have hy77 : y196.length = ((ji8) : Int).toNat - (x4_1 : Int).toNat := (by rw [Ny196.out, List.length_drop, List.length_take] <;> omega); rw [show ((l0).take ((ji8) : Int).toNat).drop (x4_1 : Int).toNat = y196 from Ny196.out.symm] at hr77; replace hr77 : Kd.C k71 _ A77 y196.length y196 := (by rw [hA77]; exact hr77); rw [← hy77, ← hA77, ← hc77] at hcut77; have HR199 := ak hr77; have HC199 := ak (show y196.length ≤ c77 from by rw [hy77, hc77]; exact Nat.sub_le_sub_right (Nat.le_trans (by omega) hroom77) _); clear hr77 hC77 hroom77 hi077 hsz77 hc77; have KY77 := ak hy77; have KA77 := ak hA77; clear hy77 hA77; replace q77 := eq_true q77) | ((with_reducible refine gate_builtin (b := .append) (xs := #[.tmp 30, .tmp 34]) rfl ?_); (try (refine gate_guard (by rfl) ?_; dsimp only)); at_builtin; refine Kd.R_append_rows k71 (w0 := w) w.heap.size rfl (.tmp 30) (.tmp 34) 32 71 (.agg #[(.string ⟨#[]⟩), (.int .i64 0)]) 24 rfl Try.underlying32 info71 rfl (by decide) (by omega) v194 y193 y196 _ _ _ (fun _ => True) (fun _ => False) rfl rfl ?aO ?aR (fun _ _ h => h) (fun _ h => h.elim) ?aF ?aB ?aS ?aL ?_; (case aR => repeat (first | exact (Kd.C_below HR199.out HB.out) | (with_reducible refine Kd.C_alloc ?_ _) | (with_reducible refine Kd.C_drewN ?_ _) | (with_reducible refine Kd.C_drew ?_))); (case aB => exact (by exact hopb HB.out)); (case aF => exact (fun _ _ => trivial)); (case aO => exact (by (with_reducible repeat (first | apply Kd.R_alloc | apply Kd.R_drewN | apply Kd.R_drew)); exact HO195.out)); (case aS => exact (below_size (by exact hopb HB.out))); (case aL => have := LMc49.out; omega); intro v201 w78 ho hb hg hat; rw [← Ny200.out] at ho; replace HO_3 := ak (Kd.S_after (ok := (fun _ => True)) (by (with_reducible repeat (first | apply Kd.S_alloc | apply Kd.S_drewN | apply Kd.S_drew)); exact HO_3.out) hg hat); replace HB := ak (hb); have HO202 := ak (ho); clear HO195; clear ho hb hg hat; obtain ⟨Ao79, co79, eo79⟩ := Kd.R_slice HO202.out; subst eo79) | ((with_reducible refine gate_builtin (b := .append) (xs := #[.tmp 29, .tmp 37]) rfl ?_); (try (refine gate_guard (by rfl) ?_; dsimp only)); at_builtin; refine Kd.S_append k64 (w0 := w) w.heap.size rfl (.tmp 29) (.tmp 37) 34 64 (.agg #[(.slice none 0 0)]) 24 rfl Try.underlying34 info64 rfl (by decide) (by omega) u3 x3_1 (⟨y200⟩ : S64) [.slice Ao79 y200.length co79] (fun _ => True) (fun k_ => some k_ = (.slice Ao79 y200.length co79 : Value).ownBlock) rfl rfl ?aP (fun k_ hk_ => ((Kd.R_mono (ok' := fun k_ => ((fun _ => True)) k_ ∧ some k_ ≠ (u3 : Value).ownBlock) (Kd.R_apart' (HO202.out) (Kd.S_typed HO_3.out) (by decide)) (fun k_ hk => ⟨trivial, hk.2⟩))).1 k_ hk_.symm) ?aF ?aO ?aB ?aS ?aL ?_; (case aP => exact k64_mkM _ _ _ (⟨y200⟩ : S64) (Kd.R_mono (Kd.R_tight rfl (Kd.R_mono (ok' := fun k_ => ((fun _ => True)) k_ ∧ some k_ ≠ (u3 : Value).ownBlock) (Kd.R_apart' (HO202.out) (Kd.S_typed HO_3.out) (by decide)) (fun k_ hk => ⟨trivial, hk.2⟩))) (fun _ h_ => h_))); (case aB => exact (by exact hopb HB.out)); (case aF => exact (fun _ _ => trivial)); (case aO => exact (by (with_reducible repeat (first | apply Kd.S_alloc | apply Kd.S_drewN | apply Kd.S_drew)); exact Kd.S_mono HO_3.out (fun k_ hk => ⟨trivial, fun e_ => hk.2 e_⟩))); (case aS => exact (below_size (by exact hopb HB.out))); (case aL => have := LMc50.out; omega); intro v204 w80 ho hb hg hat; rw [← Ny203.out] at ho; replace HB := ak (hb); have HO205 := ak (ho); clear HO_3 HO202; clear ho hb hg hat))
            go_roundg k1
            case measure => have := HK1.out; omega
            case rel => exact ⟨(y203), (wrap64 (x4_1 + 4)), (by first | rfl | (simp; done) | (simp [bne]; done) | (simp [*]; done)), H', ⟨by have := HK1.out; omega⟩, ⟨by (with_reducible repeat (first | apply Kd.S_alloc | apply Kd.S_drewN | apply Kd.S_drew)); exact HO205.out⟩, ⟨by repeat (first | (with_reducible first | exact HB.out | apply bA | apply bN | apply bD) | exact HB.out)⟩⟩
          ·rw [if_neg c50] at H
           exact absurd H (by simp)
         ·rw [if_neg c49] at H
          exact absurd H (by simp)
        ·rw [if_neg c48] at H
         exact absurd H (by simp)
       ·rw [if_neg c47] at H
        exact absurd H (by simp)
      ·rw [if_neg c46] at H
       exact absurd H (by simp)
    ·rw [if_neg c7] at H
     have c7b0 : decide (x4_1 < (l0.length : Int)) = false := decide_eq_false c7
     clear c7
     obtain rfl := Option.some.inj H
     go_wp2
     go_ret
     exact ⟨_, by first | rfl | (simp only [u8_w_, w64_u8_] <;> rfl) | (simp [errW_none, errW_some] <;> rfl) | (simp [*, errW_none, errW_some] <;> rfl), by (with_reducible repeat (first | apply Kd.S_alloc | apply Kd.S_drewN | apply Kd.S_drew)); exact HO_3.out, by repeat (first | (with_reducible first | exact HB.out | apply bA | apply bN | apply bD) | exact HB.out)⟩
 ·replace c3 := Bool.eq_false_iff.mpr c3
  subst c3
  rw [if_neg (show ¬ (false = true) by decide)] at H
  obtain rfl := Option.some.inj H
  go_enter Try.func25, Try.ntmps25
  go_wp2_with (first | ((with_reducible refine gate_dst (N := 6) rfl ?_); (try (refine gate_guard (by rfl) ?_; dsimp only)); refine Kd.S_lit k64 _ 64 ?hg (N := 6) ?hd (xs := ([] : List (S64))) (inner := []) (ok := fun _ => True) (okp := fun _ => True) ?hr ?hp (fun _ hk => hk) trivial (Below.refl _ _) (Nat.le_refl _) (by simp) ?_; (case hd => rfl); (case hg => rfl); (case hr => first | (go_simp; done) | (go_simp; rfl)); (case hp => exact (Reps.none _ _)); intro v164 w81 ho82 hb hg_ hnew_; clear hg_ hnew_; (first | rw [← Ny163.out] at ho82 | (simp only [Int.reduceToNat] at ho82; rw [← Ny163.out] at ho82)); have HO165 := ak (Kd.S_lower ho82 (below_size (by exact hopb HB.out))); replace HB := ak (below_step (by exact hopb HB.out) hb); clear hb ho82) | ((with_reducible refine gate_callee (f := 69) rfl ?_); refine goesL_ (some 8) rfl rfl Try.func69 (by kernel_rfl) rfl #[.slice A0 l0.length c0] rfl (by (try simp only [List.map_toArray, List.map_cons, List.map_nil]); first | done | rfl | (simp only [List.length_drop, List.length_take]; rfl)) ?_; (with_reducible refine (spec_PairsValid.calls k _ _ l0 false _ ?side1 ?side2 A2.out).mono ?_); (case side1 => repeat (first | exact (Kd.C_below HR0.out HB.out) | (with_reducible refine Kd.C_alloc ?_ _) | (with_reducible refine Kd.C_drewN ?_ _) | (with_reducible refine Kd.C_drew ?_))); (case side2 => exact HC0.out); rintro e w83 ⟨rfl, hb⟩; refine ⟨_, rfl, ?_⟩; replace HO165 := ak (Kd.S_below (by (with_reducible repeat (first | apply Kd.S_alloc | apply Kd.S_drewN | apply Kd.S_drew)); exact HO165.out) hb); replace HB := ak (below_step (by exact hopb HB.out) hb); (try clear hb)))
  go_ret
  exact ⟨_, by first | rfl | (simp only [u8_w_, w64_u8_] <;> rfl) | (simp [errW_none, errW_some] <;> rfl) | (simp [*, errW_none, errW_some] <;> rfl), by (with_reducible repeat (first | apply Kd.S_alloc | apply Kd.S_drewN | apply Kd.S_drew)); exact HO165.out, by repeat (first | (with_reducible first | exact HB.out | apply bA | apply bN | apply bD) | exact HB.out)⟩

end Go.Proofs.Ytebgpbcbbjpbfaa.PFnPagesList
