-- Written for this claim by a program of this session (wip/myprint in the proofs' repo)
import Derived.Test.YtebgpbcbbjpbfaaPFnPageFindx0
import Derived.Test.YtebgpbcbbjpbfaaPFnPageFindx1
import Derived.Test.YtebgpbcbbjpbfaaPFnPageFindx2
import Derived.Test.YtebgpbcbbjpbfaaPFnPageFindx5
import Derived.Test.YtebgpbcbbjpbfaaPFnPageFindx13
import Derived.Test.YtebgpbcbbjpbfaaWZip
-- slim3
namespace Go.Proofs.Ytebgpbcbbjpbfaa.PFnPageFind
open Go.RowKit Go.Proofs.YtebgpbcbbjpbfaaW.PrintWords Go.Proofs.YtebgpbcbbjpbfaaW.PrintLast Go.Proofs.YtebgpbcbbjpbfaaW.PrintMore
attribute [local go_sem] max2_int min2_int max_two min_two max_three min_three max_four min_four max2_strs min2_strs   -- for this text's walks alone
set_option linter.unusedVariables false
set_option linter.unusedSimpArgs false

/-! ### laws_FnPageFind: function 11 -/
def laws_FnPageFind.j0 : Nat → List (S64) → ByteArray → Int → Bool → Option (Bool)
 | 0, _, _, _, _ => none
 | k + 1, x3, x4, x5, x29 => if x29 = true then (if x5 = (-1) then (if (x3.length : Int) = 0 then ((laws_alive.f k).bind fun t646 => (some t646)) else ((impl_PagesValid.f k x3).bind fun t647 => (if t647 = true then ((impl_KeyValid.f k x4).bind fun t648 => (if t648 = true then (none) else ((laws_alive.f k).bind fun t649 => (some t649)))) else ((laws_alive.f k).bind fun t650 => (some t650))))) else (none)) else (if 0 ≤ x5 then (if x5 < (x3.length : Int) then ((impl_PairGet.f k ((rd_T64 x3 x5).f0) x4).bind fun t652 => ((impl_PagesList.f k x3).bind fun t653 => ((impl_PairGet.f k t653 x4).bind fun t656 => (some (t652 == t656))))) else (none)) else (none))
def laws_FnPageFind.f (k : Nat) (l0 : List Int) : Option (Bool) := if (l0.length : Int) > 1048576 then (some true) else ((spec_DrawPageFind.f k l0).bind fun bt640 => ((impl_PageFind.f k bt640.1 bt640.2).bind fun t644 => ((spec_PageFind.f k bt640.1 bt640.2).bind fun t645 => (if t644 = t645 then (if t644 < 0 then (laws_FnPageFind.j0 k bt640.1 bt640.2 t644 true) else (laws_FnPageFind.j0 k bt640.1 bt640.2 t644 (decide (t644 ≥ (bt640.1.length : Int))))) else (none)))))
theorem laws_FnPageFind.mono_l : ∀ k, (∀ y0 y1 y2 y3, LeO (laws_FnPageFind.j0 k y0 y1 y2 y3) (laws_FnPageFind.j0 (k + 1) y0 y1 y2 y3))
 | 0 => fun _ _ _ _ r h => by simp [laws_FnPageFind.j0] at h
 | k + 1 => by
  have ih0 := laws_FnPageFind.mono_l k
  ·intro y0 y1 y2 y3
   unfold laws_FnPageFind.j0
   repeat' first
   | (with_reducible exact ih0 _ _ _ _)
   | (with_reducible exact impl_KeyValid.mono _ _)
   | (with_reducible exact impl_PageFind.mono _ _ _)
   | (with_reducible exact impl_PagesList.mono _ _)
   | (with_reducible exact impl_PagesValid.mono _ _)
   | (with_reducible exact impl_PairGet.mono _ _ _)
   | (with_reducible exact laws_alive.mono _)
   | (with_reducible exact spec_DrawPageFind.mono _ _)
   | (with_reducible exact spec_PageFind.mono _ _ _)
   | (with_reducible exact LeO.refl _)
   | (with_reducible exact LeO.none _)
   | (with_reducible refine LeO.ite ?_ ?_)
   | (with_reducible refine LeO.bind ?_ (fun _ => ?_))
   | exact ih0 _ _ _ _
   | exact LeO.none _
   | refine LeO.ite ?_ ?_
   | refine LeO.bind ?_ (fun _ => ?_)
theorem laws_FnPageFind.mono : ∀ a0 k, LeO (laws_FnPageFind.f k a0) (laws_FnPageFind.f (k + 1) a0) := by
 intro a0 k
 have ih0 := laws_FnPageFind.mono_l k
 unfold laws_FnPageFind.f
 repeat' first
   | (with_reducible exact ih0 _ _ _ _)
   | (with_reducible exact impl_KeyValid.mono _ _)
   | (with_reducible exact impl_PageFind.mono _ _ _)
   | (with_reducible exact impl_PagesList.mono _ _)
   | (with_reducible exact impl_PagesValid.mono _ _)
   | (with_reducible exact impl_PairGet.mono _ _ _)
   | (with_reducible exact laws_alive.mono _)
   | (with_reducible exact spec_DrawPageFind.mono _ _)
   | (with_reducible exact spec_PageFind.mono _ _ _)
   | (with_reducible exact LeO.refl _)
   | (with_reducible exact LeO.none _)
   | (with_reducible refine LeO.ite ?_ ?_)
   | (with_reducible refine LeO.bind ?_ (fun _ => ?_))
   | exact ih0 _ _ _ _
   | exact LeO.none _
   | refine LeO.ite ?_ ?_
   | refine LeO.bind ?_ (fun _ => ?_)
set_option maxHeartbeats 8000000 in
set_option maxRecDepth 100000 in
theorem laws_FnPageFind.calls (k : Nat) (A0 : Option Addr) (c0 : Nat) (l0 : List Int) (r : Bool) (w : World) (hr0 : Kd.C (Kd.int .u8) w A0 l0.length l0) (hc0 : l0.length ≤ c0) (h : laws_FnPageFind.f k l0 = some r) :
  Calls Try.prog 11 #[.slice A0 l0.length c0] w fun e w' => e = .returned (.bool r) ∧ Below w.heap.size w w' := by
 have HR0 := ak hr0
 have HC0 := ak hc0
 clear hr0 hc0
 have HB := ak (Below.refl w.heap.size w)
 have H : (if (l0.length : Int) > 1048576 then (some true) else ((spec_DrawPageFind.f k l0).bind fun bt640 => ((impl_PageFind.f k bt640.1 bt640.2).bind fun t644 => ((spec_PageFind.f k bt640.1 bt640.2).bind fun t645 => (if t644 = t645 then (if t644 < 0 then (laws_FnPageFind.j0 k bt640.1 bt640.2 t644 true) else (laws_FnPageFind.j0 k bt640.1 bt640.2 t644 (decide (t644 ≥ (bt640.1.length : Int))))) else (none)))))) = some r := h
 clear h
 by_cases c2 : (l0.length : Int) > 1048576
 ·rw [if_pos c2] at H
  have c2b0 : decide (1048576 < (l0.length : Int)) = true := decide_eq_true c2
  have c2b1 : decide (1048576 < l0.length) = true := decide_eq_true (by omega)
  clear c2
  obtain rfl := Option.some.inj H
  go_enter Try.func11, Try.ntmps11
  go_wp2
  go_ret
  exact ⟨by first | rfl | (simp only [u8_w_, w64_u8_] <;> rfl) | (simp [errW_none, errW_some] <;> rfl) | (simp [*, errW_none, errW_some] <;> rfl), by exact hopb HB.out⟩
 ·rw [if_neg c2] at H
  have c2b0 : decide (1048576 < (l0.length : Int)) = false := decide_eq_false c2
  have c2b1 : decide (1048576 < l0.length) = false := decide_eq_false (by omega)
  clear c2
  replace H := Option.bind_eq_some_iff.mp H
  obtain ⟨⟨t640, t643⟩, A30, H⟩ := H
  try dsimp only at H
  have A3 := ak A30
  clear A30
  replace H := Option.bind_eq_some_iff.mp H
  obtain ⟨t644, A40, H⟩ := H
  try dsimp only at H
  have A4 := ak A40
  clear A40
  replace H := Option.bind_eq_some_iff.mp H
  obtain ⟨t645, A50, H⟩ := H
  try dsimp only at H
  have A5 := ak A50
  clear A50
  by_cases c6 : t644 = t645
  ·rw [if_pos c6] at H
   have c6b0 : (t644 == t645) = true := beq_iff_eq.mpr c6
   have c6b1 : (t644 != t645) = false := bne_eq_false_iff_eq.mpr c6
   clear c6
   have HC7 := ak H
   clear H
   go_enter Try.func11, Try.ntmps11
   go_upto_region 7 with (first | ((with_reducible refine gate_callee (f := 49) rfl ?_); refine goesL_ (some 11) rfl rfl Try.func49 (by kernel_rfl) rfl #[.slice A0 l0.length c0] rfl (by (try simp only [List.map_toArray, List.map_cons, List.map_nil]); first | done | rfl | (simp only [List.length_drop, List.length_take]; rfl)) ?_; (with_reducible refine (spec_DrawPageFind.calls k _ _ l0 t640 t643 _ ?side1 ?side2 A3.out).mono ?_); (case side1 => repeat (first | exact HR0.out | (with_reducible refine Kd.C_alloc ?_ _) | (with_reducible refine Kd.C_drewN ?_ _) | (with_reducible refine Kd.C_drew ?_))); (case side2 => exact HC0.out); rintro e w8 ⟨v641, rfl, ho0, hb⟩; refine ⟨_, rfl, ?_⟩; have HO642 := ak (Kd.N_lower (Kd.N_mono (ok' := fun k_ => True) ho0 (fun k_ hk_ => trivial)) (below_size (by exact hopb HB.out))); replace HB := ak (below_step (by exact hopb HB.out) hb); (try clear hb); (try clear ho0); obtain ⟨Ao9, co9, eo9⟩ := Kd.N_slice HO642.out; subst eo9) | ((with_reducible refine gate_callee (f := 36) rfl ?_); refine goesL_ (some 16) rfl rfl Try.func36 (by kernel_rfl) rfl #[.slice Ao9 t640.length co9, .string t643] rfl (by (try simp only [List.map_toArray, List.map_cons, List.map_nil]); first | done | rfl | (simp only [List.length_drop, List.length_take]; rfl)) ?_; (with_reducible refine (impl_PageFind.calls k _ _ t640 t643 t644 _ ?side1 ?side2 A4.out).mono ?_); (case side1 => repeat (first | exact (Kd.N_reads' HO642.out).2.2 | (with_reducible refine Kd.C_alloc ?_ _) | (with_reducible refine Kd.C_drewN ?_ _) | (with_reducible refine Kd.C_drew ?_))); (case side2 => exact (Kd.N_reads' HO642.out).2.1); rintro e w10 ⟨rfl, hb⟩; refine ⟨_, rfl, ?_⟩; replace HO642 := ak (Kd.N_below (by (with_reducible repeat (first | apply Kd.N_alloc | apply Kd.N_drewN | apply Kd.N_drew)); exact HO642.out) hb); replace HB := ak (below_step (by exact hopb HB.out) hb); (try clear hb)) | ((with_reducible refine gate_callee (f := 35) rfl ?_); refine goesL_ (some 20) rfl rfl Try.func35 (by kernel_rfl) rfl #[.slice Ao9 t640.length co9, .string t643] rfl (by (try simp only [List.map_toArray, List.map_cons, List.map_nil]); first | done | rfl | (simp only [List.length_drop, List.length_take]; rfl)) ?_; (with_reducible refine (spec_PageFind.calls k _ _ t640 t643 t645 _ ?side1 ?side2 A5.out).mono ?_); (case side1 => repeat (first | exact (Kd.N_reads' HO642.out).2.2 | (with_reducible refine Kd.C_alloc ?_ _) | (with_reducible refine Kd.C_drewN ?_ _) | (with_reducible refine Kd.C_drew ?_))); (case side2 => exact (Kd.N_reads' HO642.out).2.1); rintro e w11 ⟨rfl, hb⟩; refine ⟨_, rfl, ?_⟩; replace HO642 := ak (Kd.N_below (by (with_reducible repeat (first | apply Kd.N_alloc | apply Kd.N_drewN | apply Kd.N_drew)); exact HO642.out) hb); replace HB := ak (below_step (by exact hopb HB.out) hb); (try clear hb)))
   (try simp only [Act.put, lT, lZ, lS])
   go_cut [29] (fun v29 wc => ∃ (kq : Nat) (x29_6 : Bool), v29 = .bool x29_6 ∧ Aside0 (laws_FnPageFind.j0 kq t640 t643 t644 x29_6 = some r) ∧ Aside0 (kq ≤ k) ∧ Aside0 (Kd.N k64 64 wc w.heap.size (fun _ => True) (.slice Ao9 t640.length co9) t640) ∧ Aside0 (Below w.heap.size w wc))
   case first =>
    have H := HC7.out
    clear HC7
    by_cases c12 : t644 < 0
    ·rw [if_pos c12] at H
     have c12b0 : decide (t644 < 0) = true := decide_eq_true c12
     clear c12
     (first | rw [c12b0] | (simp only [i64_w, i32_w]; rw [c12b0]) | skip)
     have H' := ak H
     clear H
     go_wp2
     go_meet
     case rel => exact ⟨_, (true), (by first | rfl | (simp; done) | (simp [bne]; done) | (simp [*]; done)), H', ⟨by first | omega | exact Nat.le_refl _⟩, ⟨by (with_reducible repeat (first | apply Kd.N_alloc | apply Kd.N_drewN | apply Kd.N_drew)); exact HO642.out⟩, ⟨by exact hopb HB.out⟩⟩
    ·rw [if_neg c12] at H
     have c12b0 : decide (t644 < 0) = false := decide_eq_false c12
     clear c12
     (first | rw [c12b0] | (simp only [i64_w, i32_w]; rw [c12b0]) | skip)
     have H' := ak H
     clear H
     go_wp2
     go_meet
     case rel => exact ⟨_, (decide (t644 ≥ (t640.length : Int))), (by first | rfl | (simp; done) | (simp [bne]; done) | (simp [*]; done)), H', ⟨by first | omega | exact Nat.le_refl _⟩, ⟨by (with_reducible repeat (first | apply Kd.N_alloc | apply Kd.N_drewN | apply Kd.N_drew)); exact HO642.out⟩, ⟨by exact hopb HB.out⟩⟩
   case rest =>
    clear HC7
    try clear c1
    try clear c2
    try clear c2b0
    try clear c2b1
    try clear p2
    try clear c3
    try clear c4
    try clear c6
    try clear c6b0
    try clear c6b1
    try clear c11
    try clear c12
    try clear c12b0
    obtain ⟨kq, x29_6, rfl, HA, HJ6, HO_3, HB⟩ := hcut
    cases kq with
    | zero => exact absurd HA.out (by simp [laws_FnPageFind.j0])
    | succ kj6 =>
     have H := HA.out
     clear HA
     simp only [laws_FnPageFind.j0] at H
     by_cases c13 : x29_6 = true
     ·subst c13
      rw [if_pos rfl] at H
      by_cases c14 : t644 = (-1)
      ·rw [if_pos c14] at H
       have c14b0 : (t644 == (-1)) = true := beq_iff_eq.mpr c14
       have c14b1 : (t644 != (-1)) = false := bne_eq_false_iff_eq.mpr c14
       clear c14
       by_cases c15 : (t640.length : Int) = 0
       ·rw [if_pos c15] at H
        have c15b0 : ((t640.length : Int) == 0) = true := beq_iff_eq.mpr c15
        have c15b1 : ((t640.length : Int) != 0) = false := bne_eq_false_iff_eq.mpr c15
        clear c15
        replace H := Option.bind_eq_some_iff.mp H
        obtain ⟨t646, A160, H⟩ := H
        try dsimp only at H
        have A16 := ak A160
        clear A160
        obtain rfl := Option.some.inj H
        go_wp2_with (first | (go_at_call 27; (with_reducible refine (laws_alive.calls kj6  t646 _ A16.out).mono ?_); rintro e w17 ⟨rfl, hb⟩; replace HO_3 := ak (Kd.N_below (by (with_reducible repeat (first | apply Kd.N_alloc | apply Kd.N_drewN | apply Kd.N_drew)); exact HO_3.out) hb); replace HB := ak (below_step (by exact hopb HB.out) hb); (try clear hb)))
        go_ret
        exact ⟨by first | rfl | (simp only [u8_w_, w64_u8_] <;> rfl) | (simp [errW_none, errW_some] <;> rfl) | (simp [*, errW_none, errW_some] <;> rfl), by exact hopb HB.out⟩
       ·rw [if_neg c15] at H
        have c15b0 : ((t640.length : Int) == 0) = false := beq_eq_false_iff_ne.mpr c15
        have c15b1 : ((t640.length : Int) != 0) = true := bne_iff_ne.mpr c15
        have c15b2 : ¬ (t640 = []) := fun h_ => c15 (by rw [h_]; rfl)
        replace H := Option.bind_eq_some_iff.mp H
        obtain ⟨t647, A180, H⟩ := H
        try dsimp only at H
        have A18 := ak A180
        clear A180
        by_cases c19 : t647 = true
        ·subst c19
         rw [if_pos rfl] at H
         replace H := Option.bind_eq_some_iff.mp H
         obtain ⟨t648, A200, H⟩ := H
         try dsimp only at H
         have A20 := ak A200
         clear A200
         by_cases c21 : t648 = true
         ·subst c21
          rw [if_pos rfl] at H
          exact absurd H (by simp)
         ·replace c21 := Bool.eq_false_iff.mpr c21
          subst c21
          rw [if_neg (show ¬ (false = true) by decide)] at H
          replace H := Option.bind_eq_some_iff.mp H
          obtain ⟨t649, A220, H⟩ := H
          try dsimp only at H
          have A22 := ak A220
          clear A220
          obtain rfl := Option.some.inj H
          go_wp2_with (first | (go_at_call 28; (with_reducible refine (impl_PagesValid.calls kj6 _ _ t640 true _ ?side1 ?side2 A18.out).mono ?_); (case side1 => repeat (first | exact (Kd.N_reads' HO_3.out).2.2 | (with_reducible refine Kd.C_alloc ?_ _) | (with_reducible refine Kd.C_drewN ?_ _) | (with_reducible refine Kd.C_drew ?_))); (case side2 => exact (Kd.N_reads' HO_3.out).2.1); rintro e w23 ⟨rfl, hb⟩; replace HO_3 := ak (Kd.N_below (by (with_reducible repeat (first | apply Kd.N_alloc | apply Kd.N_drewN | apply Kd.N_drew)); exact HO_3.out) hb); replace HB := ak (below_step (by exact hopb HB.out) hb); (try clear hb)) | (go_at_call 50; (with_reducible refine (impl_KeyValid.calls kj6 t643 false _ A20.out).mono ?_); rintro e w' ⟨rfl, ⟨nd, rfl⟩⟩) | (go_at_call 27; (with_reducible refine (laws_alive.calls kj6  t649 _ A22.out).mono ?_); rintro e w24 ⟨rfl, hb⟩; replace HO_3 := ak (Kd.N_below (by (with_reducible repeat (first | apply Kd.N_alloc | apply Kd.N_drewN | apply Kd.N_drew)); exact HO_3.out) hb); replace HB := ak (below_step (by exact hopb HB.out) hb); (try clear hb)))
          go_ret
          exact ⟨by first | rfl | (simp only [u8_w_, w64_u8_] <;> rfl) | (simp [errW_none, errW_some] <;> rfl) | (simp [*, errW_none, errW_some] <;> rfl), by exact hopb HB.out⟩
        ·replace c19 := Bool.eq_false_iff.mpr c19
         subst c19
         rw [if_neg (show ¬ (false = true) by decide)] at H
         replace H := Option.bind_eq_some_iff.mp H
         obtain ⟨t650, A250, H⟩ := H
         try dsimp only at H
         have A25 := ak A250
         clear A250
         obtain rfl := Option.some.inj H
         go_wp2_with (first | (go_at_call 28; (with_reducible refine (impl_PagesValid.calls kj6 _ _ t640 false _ ?side1 ?side2 A18.out).mono ?_); (case side1 => repeat (first | exact (Kd.N_reads' HO_3.out).2.2 | (with_reducible refine Kd.C_alloc ?_ _) | (with_reducible refine Kd.C_drewN ?_ _) | (with_reducible refine Kd.C_drew ?_))); (case side2 => exact (Kd.N_reads' HO_3.out).2.1); rintro e w26 ⟨rfl, hb⟩; replace HO_3 := ak (Kd.N_below (by (with_reducible repeat (first | apply Kd.N_alloc | apply Kd.N_drewN | apply Kd.N_drew)); exact HO_3.out) hb); replace HB := ak (below_step (by exact hopb HB.out) hb); (try clear hb)) | (go_at_call 27; (with_reducible refine (laws_alive.calls kj6  t650 _ A25.out).mono ?_); rintro e w27 ⟨rfl, hb⟩; replace HO_3 := ak (Kd.N_below (by (with_reducible repeat (first | apply Kd.N_alloc | apply Kd.N_drewN | apply Kd.N_drew)); exact HO_3.out) hb); replace HB := ak (below_step (by exact hopb HB.out) hb); (try clear hb)))
         go_ret
         exact ⟨by first | rfl | (simp only [u8_w_, w64_u8_] <;> rfl) | (simp [errW_none, errW_some] <;> rfl) | (simp [*, errW_none, errW_some] <;> rfl), by exact hopb HB.out⟩
      ·rw [if_neg c14] at H
       exact absurd H (by simp)
     ·replace c13 := Bool.eq_false_iff.mpr c13
      subst c13
      rw [if_neg (show ¬ (false = true) by decide)] at H
      by_cases c28 : 0 ≤ t644
      ·rw [if_pos c28] at H
       have c28b0 : decide (0 ≤ t644) = true := decide_eq_true c28
       clear c28
       by_cases c29 : t644 < (t640.length : Int)
       ·rw [if_pos c29] at H
        have c29b0 : decide (t644 < (t640.length : Int)) = true := decide_eq_true c29
        clear c29
        replace H := Option.bind_eq_some_iff.mp H
        obtain ⟨t652, A300, H⟩ := H
        try dsimp only at H
        have A30 := ak A300
        clear A300
        replace H := Option.bind_eq_some_iff.mp H
        obtain ⟨t653, A310, H⟩ := H
        try dsimp only at H
        have A31 := ak A310
        clear A310
        replace H := Option.bind_eq_some_iff.mp H
        obtain ⟨t656, A320, H⟩ := H
        try dsimp only at H
        have A32 := ak A320
        clear A320
        obtain rfl := Option.some.inj H
        have p651 : 0 ≤ (t644 : Int) := of_decide_eq_true (by assumption)
        have q651 : t644 < (t640.length : Int) := of_decide_eq_true (by assumption)
        obtain ⟨ad651, A651_0, c651_0, e651, hx651_0, hl651_0, hi651_0⟩ := at_T64 (Kd.N_reads' HO_3.out).2.2 t644 p651 q651
        cases e651
        obtain ⟨ce651, hce651, hMe651, hcc651⟩ := Kd.N_get HO_3.out z64 t644 p651 (by first | exact q651 | exact of_decide_eq_true (by assumption) | (have e_ := (Kd.N_reads' HO_3.out).1; omega))
        obtain ⟨ua651_0, uc651_0, rfl, ul651_0, ge651_0⟩ := k64_openF hMe651
        have hv651_0 := hcc651 0 _ rfl
        rw [Nat.add_zero, show (k64).sz = 1 from rfl, Nat.mul_one] at hv651_0
        replace hv651_0 := Option.some.inj (hv651_0.symm.trans hx651_0)
        injection hv651_0 with hva_ hvn_ hvc_
        rw [hva_] at ge651_0
        rw [hvc_] at ul651_0
        have HL651_0 := ak (show Kd.V k71 71 _ w.heap.size _ _ ((rd_T64 t640 t644).f0) from Kd.V_mk ul651_0 ge651_0)
        clear hva_ hvn_ hvc_ ge651_0 ul651_0
        clear hcc651 hce651
        have HR651_0 := ak hi651_0
        have HC651_0 := ak hl651_0
        clear hi651_0 hl651_0
        replace p651 := eq_true p651
        replace q651 := eq_true q651
        go_wp2_with (first | ((with_reducible refine gate_callee (f := 51) rfl ?_); refine goesL_ (some 56) rfl rfl Try.func51 (by kernel_rfl) rfl #[.slice A651_0 ((rd_T64 t640 t644).f0).length c651_0, .string t643] rfl (by (try simp only [List.map_toArray, List.map_cons, List.map_nil]); first | done | rfl | (simp only [List.length_drop, List.length_take]; rfl)) ?_; (with_reducible refine (impl_PairGet.calls kj6 _ _ ((rd_T64 t640 t644).f0) t643 t652 _ ?side1 ?side2 A30.out).mono ?_); (case side1 => repeat (first | exact (by repeat (first | (with_reducible exact HR651_0.out) | (with_reducible refine Kd.C_alloc ?_ _) | (with_reducible refine Kd.C_drewN ?_ _) | (with_reducible refine Kd.C_drew ?_) | exact HR651_0.out)) | (with_reducible refine Kd.C_alloc ?_ _) | (with_reducible refine Kd.C_drewN ?_ _) | (with_reducible refine Kd.C_drew ?_))); (case side2 => exact HC651_0.out); rintro e w33 ⟨rfl, hb⟩; refine ⟨_, rfl, ?_⟩; replace HO_3 := ak (Kd.N_below (by (with_reducible repeat (first | apply Kd.N_alloc | apply Kd.N_drewN | apply Kd.N_drew)); exact HO_3.out) hb); replace HL651_0 := ak (Kd.V_below (by (with_reducible repeat (first | apply Kd.V_alloc | apply Kd.V_drewN | apply Kd.V_drew)); exact HL651_0.out) hb); replace HR651_0 := ak (Kd.C_below (by repeat (first | (with_reducible exact HR651_0.out) | (with_reducible refine Kd.C_alloc ?_ _) | (with_reducible refine Kd.C_drewN ?_ _) | (with_reducible refine Kd.C_drew ?_) | exact HR651_0.out)) hb); replace HB := ak (below_step (by exact hopb HB.out) hb); (try clear hb)) | ((with_reducible refine gate_callee (f := 30) rfl ?_); refine goesL_ (some 58) rfl rfl Try.func30 (by kernel_rfl) rfl #[.slice (some ad651) t640.length co9] rfl (by (try simp only [List.map_toArray, List.map_cons, List.map_nil]); first | done | rfl | (simp only [List.length_drop, List.length_take]; rfl)) ?_; (with_reducible refine (impl_PagesList.calls kj6 _ _ t640 t653 _ ?side1 ?side2 A31.out).mono ?_); (case side1 => repeat (first | exact (Kd.N_reads' HO_3.out).2.2 | (with_reducible refine Kd.C_alloc ?_ _) | (with_reducible refine Kd.C_drewN ?_ _) | (with_reducible refine Kd.C_drew ?_))); (case side2 => exact (Kd.N_reads' HO_3.out).2.1); rintro e w34 ⟨v654, rfl, ho0, hb⟩; refine ⟨_, rfl, ?_⟩; replace HO_3 := ak (Kd.N_elder' (by (with_reducible repeat (first | apply Kd.N_alloc | apply Kd.N_drewN | apply Kd.N_drew)); exact HO_3.out) (Kd.R_base ho0) hb); replace HL651_0 := ak (Kd.V_elder' (by (with_reducible repeat (first | apply Kd.V_alloc | apply Kd.V_drewN | apply Kd.V_drew)); exact HL651_0.out) (Kd.R_base ho0) hb); have HO655 := ak (Kd.R_lower ho0 (below_size (by exact hopb HB.out))); replace HR651_0 := ak (Kd.C_below (by repeat (first | (with_reducible exact HR651_0.out) | (with_reducible refine Kd.C_alloc ?_ _) | (with_reducible refine Kd.C_drewN ?_ _) | (with_reducible refine Kd.C_drew ?_) | exact HR651_0.out)) hb); replace HB := ak (below_step (by exact hopb HB.out) hb); (try clear hb); (try clear ho0); obtain ⟨Ao35, co35, eo35⟩ := Kd.R_slice HO655.out; subst eo35) | ((with_reducible refine gate_callee (f := 51) rfl ?_); refine goesL_ (some 60) rfl rfl Try.func51 (by kernel_rfl) rfl #[.slice Ao35 t653.length co35, .string t643] rfl (by (try simp only [List.map_toArray, List.map_cons, List.map_nil]); first | done | rfl | (simp only [List.length_drop, List.length_take]; rfl)) ?_; (with_reducible refine (impl_PairGet.calls kj6 _ _ t653 t643 t656 _ ?side1 ?side2 A32.out).mono ?_); (case side1 => repeat (first | exact (Kd.R_reads' HO655.out).2.2 | (with_reducible refine Kd.C_alloc ?_ _) | (with_reducible refine Kd.C_drewN ?_ _) | (with_reducible refine Kd.C_drew ?_))); (case side2 => exact (Kd.R_reads' HO655.out).2.1); rintro e w36 ⟨rfl, hb⟩; refine ⟨_, rfl, ?_⟩; replace HO_3 := ak (Kd.N_below (by (with_reducible repeat (first | apply Kd.N_alloc | apply Kd.N_drewN | apply Kd.N_drew)); exact HO_3.out) hb); replace HL651_0 := ak (Kd.V_below (by (with_reducible repeat (first | apply Kd.V_alloc | apply Kd.V_drewN | apply Kd.V_drew)); exact HL651_0.out) hb); replace HO655 := ak (Kd.R_below (by (with_reducible repeat (first | apply Kd.R_alloc | apply Kd.R_drewN | apply Kd.R_drew)); exact HO655.out) hb); replace HR651_0 := ak (Kd.C_below (by repeat (first | (with_reducible exact HR651_0.out) | (with_reducible refine Kd.C_alloc ?_ _) | (with_reducible refine Kd.C_drewN ?_ _) | (with_reducible refine Kd.C_drew ?_) | exact HR651_0.out)) hb); replace HB := ak (below_step (by exact hopb HB.out) hb); (try clear hb)))
        go_ret
        exact ⟨by first | rfl | (simp only [u8_w_, w64_u8_] <;> rfl) | (simp [errW_none, errW_some] <;> rfl) | (simp [*, errW_none, errW_some] <;> rfl), by exact hopb HB.out⟩
       ·rw [if_neg c29] at H
        exact absurd H (by simp)
      ·rw [if_neg c28] at H
       exact absurd H (by simp)
  ·rw [if_neg c6] at H
   exact absurd H (by simp)

/-- THE ONE PURE STATEMENT of laws_FnPageFind: yours. -/
def laws_FnPageFind.Pure : Prop := ∀ (l0 : List Int), l0.length ≤ maxLen → l0.length * 1 ≤ 140737488351232 → (∀ x ∈ l0, (Lit.int .u8 x).wf = true) → ∃ k, laws_FnPageFind.f k l0 = some true
theorem laws_FnPageFind.walk (P : laws_FnPageFind.Pure) (a0 : Option Addr) (len0 cap0 : Nat) (z0 : List Int) (w : World) (w0 : (a0 = none ∧ len0 = 0 ∧ cap0 = 0 ∧ z0 = []) ∨ ∃ x, a0 = some x ∧ len0 ≤ cap0 ∧ cap0 ≤ maxLen ∧ z0.length = cap0 ∧ (∀ i, i < z0.length → w.cell? (x.add i) = some (.int .u8 (z0.getD i 0))) ∧ ∀ n ∈ z0, (Lit.int .u8 n).wf = true) (y0 : len0 * 1 ≤ 140737488351232) :
  Calls Try.prog 11 #[.slice a0 len0 cap0] w fun e w' => e = .returned (.bool true) ∧ Below w.heap.size w w' := by
 obtain ⟨l0, rfl, hr0, hm0, hw0, hc0⟩ := ReadsInt.ofRowC w0
 obtain ⟨k, h⟩ := P l0 hm0 y0 hw0
 refine (laws_FnPageFind.calls k _ _ l0 true w (Kd.C_of_reads (d := (0 : Int)) (h1 := fun _ => rfl) hr0) hc0 h).mono ?_
 rintro e w' ⟨rfl, hd⟩
 exact ⟨rfl, hd⟩

end Go.Proofs.Ytebgpbcbbjpbfaa.PFnPageFind
