-- Written for this claim by a program of this session (wip/myprint in the proofs' repo)
import Derived.Test.YtebgpbcbbjpbfaaPFnExactPagesOfx0
import Derived.Test.YtebgpbcbbjpbfaaPFnExactPagesOfx3
namespace Go.Proofs.Ytebgpbcbbjpbfaa.PFnExactPagesOf
open Go.RowKit Go.Proofs.YtebgpbcbbjpbfaaW.PrintWords Go.Proofs.YtebgpbcbbjpbfaaW.PrintLast Go.Proofs.YtebgpbcbbjpbfaaW.PrintMore
attribute [local go_sem] max2_int min2_int max_two min_two max_three min_three max_four min_four max2_strs min2_strs   -- for this text's walks alone
set_option linter.unusedVariables false
set_option linter.unusedSimpArgs false

/-! ### spec_PagesOf: function 25 -/
def spec_PagesOf.l0 : Nat → List (S71) → List (S64) → Int → Option ((List (S64)))
  | 0, _, _, _ => none
  | k + 1, x0, x3, x4 => if x4 < (x0.length : Int) then (if (wrap64 ((x0.length : Int) - (mn (x0.length : Int) (wrap64 (x4 + 4))))) = 1 then ((some (([] : List (S71)) : List (S71))).bind fun y140 => (if 0 ≤ x4 then (if x4 ≤ (wrap64 ((mn (x0.length : Int) (wrap64 (x4 + 4))) - 1)) then (if (wrap64 ((mn (x0.length : Int) (wrap64 (x4 + 4))) - 1)) ≤ (x0.length : Int) then ((some ((x0.take ((wrap64 ((mn (x0.length : Int) (wrap64 (x4 + 4))) - 1)) : Int).toNat).drop (x4 : Int).toNat : List (S71))).bind fun y143 => (if y140.length + y143.length < 5864062014805 then (if x3.length < 5864062014805 then ((some (x3 ++ [(⟨(y140 ++ y143)⟩ : S64)] : List (S64))).bind fun y150 => (if (wrap64 ((mn (x0.length : Int) (wrap64 (x4 + 4))) - 1)) < (wrap64 (x4 + 4)) then (if (wrap64 ((mn (x0.length : Int) (wrap64 (x4 + 4))) - 1)) < (x0.length : Int) then ((some (([] : List (S71)) : List (S71))).bind fun y153 => (if 0 ≤ (wrap64 ((mn (x0.length : Int) (wrap64 (x4 + 4))) - 1)) then ((some (x0.drop ((wrap64 ((mn (x0.length : Int) (wrap64 (x4 + 4))) - 1)) : Int).toNat : List (S71))).bind fun y156 => (if y153.length + y156.length < 5864062014805 then (if y150.length < 5864062014805 then (some (y150 ++ [(⟨(y153 ++ y156)⟩ : S64)])) else (none)) else (none))) else (none))) else (spec_PagesOf.l0 k x0 y150 (wrap64 (x4 + 4)))) else (spec_PagesOf.l0 k x0 y150 (wrap64 (x4 + 4))))) else (none)) else (none))) else (none)) else (none)) else (none))) else ((some (([] : List (S71)) : List (S71))).bind fun y166 => (if 0 ≤ x4 then (if x4 ≤ (mn (x0.length : Int) (wrap64 (x4 + 4))) then (if (mn (x0.length : Int) (wrap64 (x4 + 4))) ≤ (x0.length : Int) then ((some ((x0.take ((mn (x0.length : Int) (wrap64 (x4 + 4))) : Int).toNat).drop (x4 : Int).toNat : List (S71))).bind fun y169 => (if y166.length + y169.length < 5864062014805 then (if x3.length < 5864062014805 then ((some (x3 ++ [(⟨(y166 ++ y169)⟩ : S64)] : List (S64))).bind fun y176 => (if (mn (x0.length : Int) (wrap64 (x4 + 4))) < (wrap64 (x4 + 4)) then (if (mn (x0.length : Int) (wrap64 (x4 + 4))) < (x0.length : Int) then ((some (([] : List (S71)) : List (S71))).bind fun y179 => (if 0 ≤ (mn (x0.length : Int) (wrap64 (x4 + 4))) then ((some (x0.drop ((mn (x0.length : Int) (wrap64 (x4 + 4))) : Int).toNat : List (S71))).bind fun y182 => (if y179.length + y182.length < 5864062014805 then (if y176.length < 5864062014805 then (some (y176 ++ [(⟨(y179 ++ y182)⟩ : S64)])) else (none)) else (none))) else (none))) else (spec_PagesOf.l0 k x0 y176 (wrap64 (x4 + 4)))) else (spec_PagesOf.l0 k x0 y176 (wrap64 (x4 + 4))))) else (none)) else (none))) else (none)) else (none)) else (none)))) else (some x3)
def spec_PagesOf.f (k : Nat) (l0 : List (S71)) : Option ((List (S64))) := (some (([] : List (S64)) : List (S64))).bind fun y136 => ((spec_PairsValid.f k l0).bind fun t139 => (if t139 = true then (spec_PagesOf.l0 k l0 y136 0) else (some y136)))
theorem spec_PagesOf.mono_l : ∀ k, (∀ y0 y1 y2, LeO (spec_PagesOf.l0 k y0 y1 y2) (spec_PagesOf.l0 (k + 1) y0 y1 y2))
  | 0 => fun _ _ _ r h => by simp [spec_PagesOf.l0] at h
  | k + 1 => by
    have ih0 := spec_PagesOf.mono_l k
    · intro y0 y1 y2
      unfold spec_PagesOf.l0
      repeat' first
      | (with_reducible exact ih0 _ _ _)
      | (with_reducible exact spec_PairsValid.mono _ _)
      | (with_reducible exact LeO.refl _)
      | (with_reducible exact LeO.none _)
      | (with_reducible refine LeO.ite ?_ ?_)
      | (with_reducible refine LeO.bind ?_ (fun _ => ?_))
      | exact ih0 _ _ _
      | exact spec_PairsValid.mono _ _
      | exact LeO.none _
      | refine LeO.ite ?_ ?_
      | refine LeO.bind ?_ (fun _ => ?_)
theorem spec_PagesOf.mono : ∀ a0 k, LeO (spec_PagesOf.f k a0) (spec_PagesOf.f (k + 1) a0) := by
  intro a0 k
  have ih0 := spec_PagesOf.mono_l k
  unfold spec_PagesOf.f
  repeat' first
      | (with_reducible exact ih0 _ _ _)
      | (with_reducible exact spec_PairsValid.mono _ _)
      | (with_reducible exact LeO.refl _)
      | (with_reducible exact LeO.none _)
      | (with_reducible refine LeO.ite ?_ ?_)
      | (with_reducible refine LeO.bind ?_ (fun _ => ?_))
      | exact ih0 _ _ _
      | exact spec_PairsValid.mono _ _
      | exact LeO.none _
      | refine LeO.ite ?_ ?_
      | refine LeO.bind ?_ (fun _ => ?_)
set_option maxHeartbeats 8000000 in
set_option maxRecDepth 100000 in
theorem spec_PagesOf.calls (k : Nat) (A0 : Option Addr) (c0 : Nat) (l0 : List (S71)) (r : List (S64)) (w : World) (hr0 : Kd.C k71 w A0 l0.length l0) (hc0 : l0.length ≤ c0) (h : spec_PagesOf.f k l0 = some r) :
    Calls Try.prog 25 #[.slice A0 l0.length c0] w fun e w' => ∃ v0_ : Value, e = .returned (v0_) ∧ Kd.S k64 64 w' w.heap.size (fun _ => True) v0_ r ∧ Below w.heap.size w w' := by
  have hu64 := Try.underlying64
  have HR0 := Aside0.mk hr0
  have HC0 := Aside0.mk hc0
  clear hr0 hc0
  have HB := Aside0.mk (Below.refl w.heap.size w)
  have H : ((some (([] : List (S64)) : List (S64))).bind fun y136 => ((spec_PairsValid.f k l0).bind fun t139 => (if t139 = true then (spec_PagesOf.l0 k l0 y136 0) else (some y136)))) = some r := h
  clear h
  obtain ⟨y136, hy136⟩ : ∃ y_ : List (S64), y_ = (([] : List (S64))) := ⟨_, rfl⟩
  replace H : ((spec_PairsValid.f k l0).bind fun t139 => (if t139 = true then (spec_PagesOf.l0 k l0 y136 0) else (some y136))) = some r := by first | (rw [hy136]; with_reducible exact H) | (have H2_ := (Option.bind_some _ _).symm.trans H; rw [hy136]; with_reducible exact H2_) | (have H2_ := (Option.bind_some _ _).symm.trans H; with_reducible exact H2_) | with_reducible exact H | (rw [hy136]; exact H) | exact H
  have Ny136 := Aside0.mk hy136
  clear hy136
  replace H := Option.bind_eq_some_iff.mp H
  obtain ⟨t139, A20, H⟩ := H
  replace H : (if t139 = true then (spec_PagesOf.l0 k l0 y136 0) else (some y136)) = some r := H
  have A2 := Aside0.mk A20
  clear A20
  by_cases c3 : t139 = true
  · subst c3
    have H1 : (spec_PagesOf.l0 k l0 y136 0) = some r := by rw [if_pos rfl] at H; exact H
    clear H
    have H := H1
    clear H1
    have H' := Aside0.mk H
    clear H
    go_enter Try.func25, Try.ntmps25
    go_wp2_with (first | ((with_reducible refine gate_dst (N := 6) rfl ?_); (try (refine gate_guard (by rfl) ?_; dsimp only)); refine Kd.S_lit k64 _ 64 ?hg (N := 6) ?hd (xs := ([] : List (S64))) (inner := []) (ok := fun _ => True) (okp := fun _ => True) ?hr ?hp (fun _ hk => hk) trivial (Below.refl _ _) (Nat.le_refl _) (by simp) ?_; (case hd => rfl); (case hg => rfl); (case hr => first | (go_simp; done) | (go_simp; rfl)); (case hp => exact (Reps.none _ _)); intro v137 w4 ho5 hb hg_ hnew_; clear hg_ hnew_; (first | rw [← Ny136.out] at ho5 | (simp only [Int.reduceToNat] at ho5; rw [← Ny136.out] at ho5)); have n0_ := Aside0.mk (Kd.S_lower ho5 (below_size (by repeat (first | (with_reducible first | exact HB.out | apply below_alloc | apply pw_below_drewN | apply below_drew1) | exact HB.out)))); have n1_ := Aside0.mk (below_step (by repeat (first | (with_reducible first | exact HB.out | apply below_alloc | apply pw_below_drewN | apply below_drew1) | exact HB.out)) hb); clear HB; have HO138 := n0_; have HB := n1_; clear n0_ n1_; clear hb ho5) | ((with_reducible refine gate_callee (f := 69) rfl ?_); refine goesL_ (some 8) rfl rfl Try.func69 (by kernel_rfl) rfl #[.slice A0 l0.length c0] rfl (by (try simp only [List.map_toArray, List.map_cons, List.map_nil]); first | done | rfl | (simp only [List.length_drop, List.length_take]; rfl)) ?_; (with_reducible refine (spec_PairsValid.calls k _ _ l0 true _ ?side1 ?side2 A2.out).mono ?_); (case side1 => repeat (first | exact (Kd.C_below HR0.out HB.out) | (with_reducible refine Kd.C_alloc ?_ _) | (with_reducible refine Kd.C_drewN ?_ _) | (with_reducible refine Kd.C_drew ?_))); (case side2 => exact HC0.out); rintro e w6 ⟨rfl, hb⟩; refine ⟨_, rfl, ?_⟩; have n0_ := Aside0.mk (Kd.S_below (by (with_reducible repeat (first | apply Kd.S_alloc | apply Kd.S_drewN | apply Kd.S_drew)); exact HO138.out) hb); have n1_ := Aside0.mk (below_step (by repeat (first | (with_reducible first | exact HB.out | apply below_alloc | apply pw_below_drewN | apply below_drew1) | exact HB.out)) hb); clear HO138; clear HB; have HO138 := n0_; have HB := n1_; clear n0_ n1_; (try clear hb); (try clear hb2); (try clear hk); (try clear hi)))
    go_loopg [3, 4] k (fun kq v3 v4 w' => ∃ (x3_1 : List (S64)) (x4_1 : Int), v4 = .int .i64 x4_1 ∧ Aside0 (spec_PagesOf.l0 kq l0 x3_1 x4_1 = some r) ∧ Aside0 (kq ≤ k) ∧ Aside0 (Kd.S k64 64 w' w.heap.size (fun _ => True) v3 x3_1) ∧ Aside0 (Below w.heap.size w w'))
    case atStart => exact ⟨(y136), (0), (by first | rfl | (simp; done) | (simp [bne]; done) | (simp [*]; done)), H', ⟨Nat.le_refl _⟩, ⟨by (with_reducible repeat (first | apply Kd.S_alloc | apply Kd.S_drewN | apply Kd.S_drew)); exact HO138.out⟩, ⟨by repeat (first | (with_reducible first | exact HB.out | apply below_alloc | apply pw_below_drewN | apply below_drew1) | exact HB.out)⟩⟩
    case round =>
      clear H'
      try clear c2
      try clear p2
      try clear c3
      try clear c6
      obtain ⟨x3_1, x4_1, rfl, HA, HK1, HO_3, HB⟩ := hrel
      cases gk with
      | zero => exact absurd HA.out (by simp [spec_PagesOf.l0])
      | succ k1 =>
        have H := HA.out
        clear HA
        simp only [spec_PagesOf.l0] at H
        by_cases c7 : x4_1 < (l0.length : Int)
        · rw [if_pos c7] at H
          have c7b0 : decide (x4_1 < (l0.length : Int)) = true := decide_eq_true c7
          clear c7
          obtain ⟨ji8, hji8⟩ : ∃ j_ : Int, (mn (l0.length : Int) (wrap64 (x4_1 + 4))) = j_ := ⟨_, rfl⟩
          replace H : (if (wrap64 ((l0.length : Int) - (ji8))) = 1 then ((some (([] : List (S71)) : List (S71))).bind fun y140 => (if 0 ≤ x4_1 then (if x4_1 ≤ (wrap64 ((ji8) - 1)) then (if (wrap64 ((ji8) - 1)) ≤ (l0.length : Int) then ((some ((l0.take ((wrap64 ((ji8) - 1)) : Int).toNat).drop (x4_1 : Int).toNat : List (S71))).bind fun y143 => (if y140.length + y143.length < 5864062014805 then (if x3_1.length < 5864062014805 then ((some (x3_1 ++ [(⟨(y140 ++ y143)⟩ : S64)] : List (S64))).bind fun y150 => (if (wrap64 ((ji8) - 1)) < (wrap64 (x4_1 + 4)) then (if (wrap64 ((ji8) - 1)) < (l0.length : Int) then ((some (([] : List (S71)) : List (S71))).bind fun y153 => (if 0 ≤ (wrap64 ((ji8) - 1)) then ((some (l0.drop ((wrap64 ((ji8) - 1)) : Int).toNat : List (S71))).bind fun y156 => (if y153.length + y156.length < 5864062014805 then (if y150.length < 5864062014805 then (some (y150 ++ [(⟨(y153 ++ y156)⟩ : S64)])) else (none)) else (none))) else (none))) else (spec_PagesOf.l0 k1 l0 y150 (wrap64 (x4_1 + 4)))) else (spec_PagesOf.l0 k1 l0 y150 (wrap64 (x4_1 + 4))))) else (none)) else (none))) else (none)) else (none)) else (none))) else ((some (([] : List (S71)) : List (S71))).bind fun y166 => (if 0 ≤ x4_1 then (if x4_1 ≤ (ji8) then (if (ji8) ≤ (l0.length : Int) then ((some ((l0.take ((ji8) : Int).toNat).drop (x4_1 : Int).toNat : List (S71))).bind fun y169 => (if y166.length + y169.length < 5864062014805 then (if x3_1.length < 5864062014805 then ((some (x3_1 ++ [(⟨(y166 ++ y169)⟩ : S64)] : List (S64))).bind fun y176 => (if (ji8) < (wrap64 (x4_1 + 4)) then (if (ji8) < (l0.length : Int) then ((some (([] : List (S71)) : List (S71))).bind fun y179 => (if 0 ≤ (ji8) then ((some (l0.drop ((ji8) : Int).toNat : List (S71))).bind fun y182 => (if y179.length + y182.length < 5864062014805 then (if y176.length < 5864062014805 then (some (y176 ++ [(⟨(y179 ++ y182)⟩ : S64)])) else (none)) else (none))) else (none))) else (spec_PagesOf.l0 k1 l0 y176 (wrap64 (x4_1 + 4)))) else (spec_PagesOf.l0 k1 l0 y176 (wrap64 (x4_1 + 4))))) else (none)) else (none))) else (none)) else (none)) else (none)))) = some r := by first | (rw [hji8] at H; exact H) | (simp only [hji8] at H ⊢; exact H)
          have hji8_ : (if (wrap64 (x4_1 + 4)) < (l0.length : Int) then (wrap64 (x4_1 + 4)) else (l0.length : Int)) = ji8 := hji8
          by_cases c9 : (wrap64 ((l0.length : Int) - (ji8))) = 1
          · rw [if_pos c9] at H
            have c9b0 : ((wrap64 ((l0.length : Int) - (ji8))) == 1) = true := beq_iff_eq.mpr c9
            have c9b1 : ((wrap64 ((l0.length : Int) - (ji8))) != 1) = false := bne_eq_false_iff_eq.mpr c9
            clear c9
            obtain ⟨y140, hy140⟩ : ∃ y_ : List (S71), y_ = (([] : List (S71))) := ⟨_, rfl⟩
            replace H : (if 0 ≤ x4_1 then (if x4_1 ≤ (wrap64 ((ji8) - 1)) then (if (wrap64 ((ji8) - 1)) ≤ (l0.length : Int) then ((some ((l0.take ((wrap64 ((ji8) - 1)) : Int).toNat).drop (x4_1 : Int).toNat : List (S71))).bind fun y143 => (if y140.length + y143.length < 5864062014805 then (if x3_1.length < 5864062014805 then ((some (x3_1 ++ [(⟨(y140 ++ y143)⟩ : S64)] : List (S64))).bind fun y150 => (if (wrap64 ((ji8) - 1)) < (wrap64 (x4_1 + 4)) then (if (wrap64 ((ji8) - 1)) < (l0.length : Int) then ((some (([] : List (S71)) : List (S71))).bind fun y153 => (if 0 ≤ (wrap64 ((ji8) - 1)) then ((some (l0.drop ((wrap64 ((ji8) - 1)) : Int).toNat : List (S71))).bind fun y156 => (if y153.length + y156.length < 5864062014805 then (if y150.length < 5864062014805 then (some (y150 ++ [(⟨(y153 ++ y156)⟩ : S64)])) else (none)) else (none))) else (none))) else (spec_PagesOf.l0 k1 l0 y150 (wrap64 (x4_1 + 4)))) else (spec_PagesOf.l0 k1 l0 y150 (wrap64 (x4_1 + 4))))) else (none)) else (none))) else (none)) else (none)) else (none)) = some r := by first | (rw [hy140]; with_reducible exact H) | (have H2_ := (Option.bind_some _ _).symm.trans H; rw [hy140]; with_reducible exact H2_) | (have H2_ := (Option.bind_some _ _).symm.trans H; with_reducible exact H2_) | with_reducible exact H | (rw [hy140]; exact H) | exact H
            have Ny140 := Aside0.mk hy140
            clear hy140
            by_cases c10 : 0 ≤ x4_1
            · rw [if_pos c10] at H
              have c10b0 := eq_true c10
              have c10b1 : decide (0 ≤ x4_1) = true := decide_eq_true c10
              clear c10
              by_cases c11 : x4_1 ≤ (wrap64 ((ji8) - 1))
              · rw [if_pos c11] at H
                have c11b0 := eq_true c11
                have c11b1 : decide (x4_1 ≤ (wrap64 ((ji8) - 1))) = true := decide_eq_true c11
                clear c11
                by_cases c12 : (wrap64 ((ji8) - 1)) ≤ (l0.length : Int)
                · rw [if_pos c12] at H
                  have c12b0 := eq_true c12
                  have c12b1 : decide ((wrap64 ((ji8) - 1)) ≤ (l0.length : Int)) = true := decide_eq_true c12
                  clear c12
                  obtain ⟨y143, hy143⟩ : ∃ y_ : List (S71), y_ = ((l0.take ((wrap64 ((ji8) - 1)) : Int).toNat).drop (x4_1 : Int).toNat) := ⟨_, rfl⟩
                  replace H : (if y140.length + y143.length < 5864062014805 then (if x3_1.length < 5864062014805 then ((some (x3_1 ++ [(⟨(y140 ++ y143)⟩ : S64)] : List (S64))).bind fun y150 => (if (wrap64 ((ji8) - 1)) < (wrap64 (x4_1 + 4)) then (if (wrap64 ((ji8) - 1)) < (l0.length : Int) then ((some (([] : List (S71)) : List (S71))).bind fun y153 => (if 0 ≤ (wrap64 ((ji8) - 1)) then ((some (l0.drop ((wrap64 ((ji8) - 1)) : Int).toNat : List (S71))).bind fun y156 => (if y153.length + y156.length < 5864062014805 then (if y150.length < 5864062014805 then (some (y150 ++ [(⟨(y153 ++ y156)⟩ : S64)])) else (none)) else (none))) else (none))) else (spec_PagesOf.l0 k1 l0 y150 (wrap64 (x4_1 + 4)))) else (spec_PagesOf.l0 k1 l0 y150 (wrap64 (x4_1 + 4))))) else (none)) else (none)) = some r := by first | (rw [hy143]; with_reducible exact H) | (have H2_ := (Option.bind_some _ _).symm.trans H; rw [hy143]; with_reducible exact H2_) | (have H2_ := (Option.bind_some _ _).symm.trans H; with_reducible exact H2_) | with_reducible exact H | (rw [hy143]; exact H) | exact H
                  have Ny143 := Aside0.mk hy143
                  clear hy143
                  by_cases c13 : y140.length + y143.length < 5864062014805
                  · rw [if_pos c13] at H
                    have LMc13 := Aside0.mk c13
                    clear c13
                    obtain ⟨y147, hy147⟩ : ∃ y_ : List (S71), y_ = (y140 ++ y143) := ⟨_, rfl⟩
                    replace H : (if x3_1.length < 5864062014805 then ((some (x3_1 ++ [(⟨y147⟩ : S64)] : List (S64))).bind fun y150 => (if (wrap64 ((ji8) - 1)) < (wrap64 (x4_1 + 4)) then (if (wrap64 ((ji8) - 1)) < (l0.length : Int) then ((some (([] : List (S71)) : List (S71))).bind fun y153 => (if 0 ≤ (wrap64 ((ji8) - 1)) then ((some (l0.drop ((wrap64 ((ji8) - 1)) : Int).toNat : List (S71))).bind fun y156 => (if y153.length + y156.length < 5864062014805 then (if y150.length < 5864062014805 then (some (y150 ++ [(⟨(y153 ++ y156)⟩ : S64)])) else (none)) else (none))) else (none))) else (spec_PagesOf.l0 k1 l0 y150 (wrap64 (x4_1 + 4)))) else (spec_PagesOf.l0 k1 l0 y150 (wrap64 (x4_1 + 4))))) else (none)) = some r := by first | (rw [hy147]; with_reducible exact H) | (have H2_ := (Option.bind_some _ _).symm.trans H; rw [hy147]; with_reducible exact H2_) | (have H2_ := (Option.bind_some _ _).symm.trans H; with_reducible exact H2_) | with_reducible exact H | (rw [hy147]; exact H) | exact H
                    have Ny147 := Aside0.mk hy147
                    clear hy147
                    by_cases c14 : x3_1.length < 5864062014805
                    · rw [if_pos c14] at H
                      have LMc14 := Aside0.mk c14
                      clear c14
                      obtain ⟨y150, hy150⟩ : ∃ y_ : List (S64), y_ = (x3_1 ++ [(⟨y147⟩ : S64)]) := ⟨_, rfl⟩
                      replace H : (if (wrap64 ((ji8) - 1)) < (wrap64 (x4_1 + 4)) then (if (wrap64 ((ji8) - 1)) < (l0.length : Int) then ((some (([] : List (S71)) : List (S71))).bind fun y153 => (if 0 ≤ (wrap64 ((ji8) - 1)) then ((some (l0.drop ((wrap64 ((ji8) - 1)) : Int).toNat : List (S71))).bind fun y156 => (if y153.length + y156.length < 5864062014805 then (if y150.length < 5864062014805 then (some (y150 ++ [(⟨(y153 ++ y156)⟩ : S64)])) else (none)) else (none))) else (none))) else (spec_PagesOf.l0 k1 l0 y150 (wrap64 (x4_1 + 4)))) else (spec_PagesOf.l0 k1 l0 y150 (wrap64 (x4_1 + 4)))) = some r := by first | (rw [hy150]; with_reducible exact H) | (have H2_ := (Option.bind_some _ _).symm.trans H; rw [hy150]; with_reducible exact H2_) | (have H2_ := (Option.bind_some _ _).symm.trans H; with_reducible exact H2_) | with_reducible exact H | (rw [hy150]; exact H) | exact H
                      have Ny150 := Aside0.mk hy150
                      clear hy150
                      by_cases c15 : (wrap64 ((ji8) - 1)) < (wrap64 (x4_1 + 4))
                      · rw [if_pos c15] at H
                        have c15b0 : decide ((wrap64 ((ji8) - 1)) < (wrap64 (x4_1 + 4))) = true := decide_eq_true c15
                        clear c15
                        by_cases c16 : (wrap64 ((ji8) - 1)) < (l0.length : Int)
                        · rw [if_pos c16] at H
                          have c16b0 : decide ((wrap64 ((ji8) - 1)) < (l0.length : Int)) = true := decide_eq_true c16
                          clear c16
                          obtain ⟨y153, hy153⟩ : ∃ y_ : List (S71), y_ = (([] : List (S71))) := ⟨_, rfl⟩
                          replace H : (if 0 ≤ (wrap64 ((ji8) - 1)) then ((some (l0.drop ((wrap64 ((ji8) - 1)) : Int).toNat : List (S71))).bind fun y156 => (if y153.length + y156.length < 5864062014805 then (if y150.length < 5864062014805 then (some (y150 ++ [(⟨(y153 ++ y156)⟩ : S64)])) else (none)) else (none))) else (none)) = some r := by first | (rw [hy153]; with_reducible exact H) | (have H2_ := (Option.bind_some _ _).symm.trans H; rw [hy153]; with_reducible exact H2_) | (have H2_ := (Option.bind_some _ _).symm.trans H; with_reducible exact H2_) | with_reducible exact H | (rw [hy153]; exact H) | exact H
                          have Ny153 := Aside0.mk hy153
                          clear hy153
                          obtain ⟨ji17, hji17⟩ : ∃ j_ : Int, (wrap64 ((ji8) - 1)) = j_ := ⟨_, rfl⟩
                          replace H : (if 0 ≤ (ji17) then ((some (l0.drop ((ji17) : Int).toNat : List (S71))).bind fun y156 => (if y153.length + y156.length < 5864062014805 then (if y150.length < 5864062014805 then (some (y150 ++ [(⟨(y153 ++ y156)⟩ : S64)])) else (none)) else (none))) else (none)) = some r := by first | (rw [hji17] at H; exact H) | (simp only [hji17] at H ⊢; exact H)
                          (try rw [hji17] at c11b0)
                          (try rw [hji17] at c11b1)
                          (try rw [hji17] at c12b0)
                          (try rw [hji17] at c12b1)
                          (try rw [hji17] at c15b0)
                          (try rw [hji17] at c16b0)
                          (try rw [hji17] at Ny143)
                          (try rw [hji17] at Ny143)
                          have hji17w : (IntKind.i64.wrap ((ji8) - 1)) = ji17 := (i64_w _).trans hji17
                          by_cases c18 : 0 ≤ (ji17)
                          · rw [if_pos c18] at H
                            have c18b0 := eq_true c18
                            have c18b1 : decide (0 ≤ (ji17)) = true := decide_eq_true c18
                            clear c18
                            have c19b0 := eq_true (of_decide_eq_true (by first | (with_reducible assumption) | assumption) : (ji17) ≤ (l0.length : Int))
                            obtain ⟨y156, hy156⟩ : ∃ y_ : List (S71), y_ = (l0.drop ((ji17) : Int).toNat) := ⟨_, rfl⟩
                            replace H : (if y153.length + y156.length < 5864062014805 then (if y150.length < 5864062014805 then (some (y150 ++ [(⟨(y153 ++ y156)⟩ : S64)])) else (none)) else (none)) = some r := by first | (rw [hy156]; with_reducible exact H) | (have H2_ := (Option.bind_some _ _).symm.trans H; rw [hy156]; with_reducible exact H2_) | (have H2_ := (Option.bind_some _ _).symm.trans H; with_reducible exact H2_) | with_reducible exact H | (rw [hy156]; exact H) | exact H
                            have Ny156 := Aside0.mk hy156
                            clear hy156
                            by_cases c20 : y153.length + y156.length < 5864062014805
                            · rw [if_pos c20] at H
                              have LMc20 := Aside0.mk c20
                              clear c20
                              obtain ⟨y160, hy160⟩ : ∃ y_ : List (S71), y_ = (y153 ++ y156) := ⟨_, rfl⟩
                              replace H : (if y150.length < 5864062014805 then (some (y150 ++ [(⟨y160⟩ : S64)])) else (none)) = some r := by first | (rw [hy160]; with_reducible exact H) | (have H2_ := (Option.bind_some _ _).symm.trans H; rw [hy160]; with_reducible exact H2_) | (have H2_ := (Option.bind_some _ _).symm.trans H; with_reducible exact H2_) | with_reducible exact H | (rw [hy160]; exact H) | exact H
                              have Ny160 := Aside0.mk hy160
                              clear hy160
                              by_cases c21 : y150.length < 5864062014805
                              · rw [if_pos c21] at H
                                have LMc21 := Aside0.mk c21
                                clear c21
                                obtain ⟨y163, hy163⟩ : ∃ y_ : List (S64), y_ = (y150 ++ [(⟨y160⟩ : S64)]) := ⟨_, rfl⟩
                                replace H : (some y163) = some r := by first | (rw [hy163]; with_reducible exact H) | (have H2_ := (Option.bind_some _ _).symm.trans H; rw [hy163]; with_reducible exact H2_) | (have H2_ := (Option.bind_some _ _).symm.trans H; with_reducible exact H2_) | with_reducible exact H | (rw [hy163]; exact H) | exact H
                                have Ny163 := Aside0.mk hy163
                                clear hy163
                                obtain rfl := Option.some.inj H
                                go_wp2_with (first | ((with_reducible refine gate_dst (N := 30) rfl ?_); (try (refine gate_guard (by rfl) ?_; dsimp only)); refine Kd.R_lit k71 _ 71 ?hg (N := 30) ?hd (xs := ([] : List (S71))) (inner := []) (ok := fun _ => True) (okp := fun _ => True) ?hr ?hp (fun _ hk => hk) trivial (Below.refl _ _) (Nat.le_refl _) (by simp) ?_; (case hd => rfl); (case hg => rfl); (case hr => first | (go_simp; done) | (go_simp; rfl)); (case hp => exact (Reps.none _ _)); intro v141 w22 ho23 hb hg_ hnew_; clear hg_ hnew_; (first | rw [← Ny140.out] at ho23 | (simp only [Int.reduceToNat] at ho23; rw [← Ny140.out] at ho23)); have n0_ := Aside0.mk (Kd.S_elder' (by (with_reducible repeat (first | apply Kd.S_alloc | apply Kd.S_drewN | apply Kd.S_drew)); exact HO_3.out) (Kd.R_base ho23) hb); have n1_ := Aside0.mk (Kd.R_lower ho23 (below_size (by repeat (first | (with_reducible first | exact HB.out | apply below_alloc | apply pw_below_drewN | apply below_drew1) | exact HB.out)))); have n2_ := Aside0.mk (below_step (by repeat (first | (with_reducible first | exact HB.out | apply below_alloc | apply pw_below_drewN | apply below_drew1) | exact HB.out)) hb); clear HO_3; clear HB; have HO_3 := n0_; have HO142 := n1_; have HB := n2_; clear n0_ n1_ n2_; clear hb ho23; have q24 : ((ji17) : Int) ≤ ((l0.length : Int) : Int) := of_decide_eq_true (by first | (with_reducible assumption) | assumption); obtain ⟨i024, hi024, _, hsz24, _⟩ := info_parts info71; have hroom24 : l0.length ≤ c0 := HC0.out; have hC24 : Kd.C k71 _ A0 l0.length l0 := HR0.out; have ql24 : (x4_1 : Int) ≤ ((ji17) : Int) := of_decide_eq_true (by first | (with_reducible assumption) | assumption); have q024 : (0 : Int) ≤ (x4_1 : Int) := of_decide_eq_true (by first | (with_reducible assumption) | assumption); have hcut24 := cut_mid (P := Try.prog) 32 71 .i64 .i64 Try.underlying32 hi024 2 hsz24 A0 l0.length c0 x4_1 (ji17) q024 ql24 q24 hroom24; have hr24 := Kd.C_mid (lo := (x4_1 : Int).toNat) (hi := ((ji17) : Int).toNat) (c := c0) hC24 (by omega) (by omega) hroom24; obtain ⟨A24, hA24⟩ : ∃ A1, A1 = (if c0 = (x4_1 : Int).toNat then A0 else (A0 : Option Addr).map (·.add ((x4_1 : Int).toNat * 2))) := ⟨_, rfl⟩; obtain ⟨c24, hc24⟩ : ∃ c1, c1 = c0 - (x4_1 : Int).toNat := ⟨_, rfl⟩; have hy24 : y143.length = ((ji17) : Int).toNat - (x4_1 : Int).toNat := (by rw [Ny143.out, List.length_drop, List.length_take] <;> omega); rw [show ((l0).take ((ji17) : Int).toNat).drop (x4_1 : Int).toNat = y143 from Ny143.out.symm] at hr24; replace hr24 : Kd.C k71 _ A24 y143.length y143 := (by rw [hA24]; exact hr24); rw [← hy24, ← hA24, ← hc24] at hcut24; have HR146 := Aside0.mk hr24; have HC146 := Aside0.mk (show y143.length ≤ c24 from by rw [hy24, hc24]; exact Nat.sub_le_sub_right (Nat.le_trans (by omega) hroom24) _); clear hr24 hC24 hroom24 hi024 hsz24 hc24; have KY24 := Aside0.mk hy24; have KA24 := Aside0.mk hA24; clear hy24 hA24; replace q24 := eq_true q24) | ((with_reducible refine gate_builtin (b := .append) (xs := #[.tmp 30, .tmp 34]) rfl ?_); (try (refine gate_guard (by rfl) ?_; dsimp only)); at_builtin; refine Kd.R_append_rows k71 (w0 := w) w.heap.size rfl (.tmp 30) (.tmp 34) 32 71 (.agg #[(.string ⟨#[]⟩), (.int .i64 0)]) 24 rfl Try.underlying32 info71 rfl (by decide) (by omega) v141 y140 y143 _ _ _ (fun _ => True) (fun _ => False) rfl rfl ?aO ?aR (fun _ _ h => h) (fun _ h => h.elim) ?aF ?aB ?aS ?aL ?_; (case aR => repeat (first | exact (Kd.C_below HR146.out HB.out) | (with_reducible refine Kd.C_alloc ?_ _) | (with_reducible refine Kd.C_drewN ?_ _) | (with_reducible refine Kd.C_drew ?_))); (case aB => exact (by repeat (first | (with_reducible first | exact HB.out | apply below_alloc | apply pw_below_drewN | apply below_drew1) | exact HB.out))); (case aF => exact (fun _ _ => trivial)); (case aO => exact (by (with_reducible repeat (first | apply Kd.R_alloc | apply Kd.R_drewN | apply Kd.R_drew)); exact HO142.out)); (case aS => exact (below_size (by repeat (first | (with_reducible first | exact HB.out | apply below_alloc | apply pw_below_drewN | apply below_drew1) | exact HB.out)))); (case aL => have := LMc13.out; omega); intro v148 w25 ho hb hg hat; rw [← Ny147.out] at ho; have n0_ := Aside0.mk (Kd.S_after (ok := (fun _ => True)) (by (with_reducible repeat (first | apply Kd.S_alloc | apply Kd.S_drewN | apply Kd.S_drew)); exact HO_3.out) hg hat); have n1_ := Aside0.mk (hb); have n2_ := Aside0.mk (ho); clear HO_3; clear HB; clear HO142; have HO_3 := n0_; have HB := n1_; have HO149 := n2_; clear n0_ n1_ n2_; clear ho hb hg hat; obtain ⟨Ao26, co26, eo26⟩ := Kd.R_slice HO149.out; subst eo26) | ((with_reducible refine gate_builtin (b := .append) (xs := #[.tmp 29, .tmp 37]) rfl ?_); (try (refine gate_guard (by rfl) ?_; dsimp only)); at_builtin; refine Kd.S_append k64 (w0 := w) w.heap.size rfl (.tmp 29) (.tmp 37) 34 64 (.agg #[(.slice none 0 0)]) 24 rfl Try.underlying34 info64 rfl (by decide) (by omega) u3 x3_1 (⟨y147⟩ : S64) [.slice Ao26 y147.length co26] (fun _ => True) (fun k_ => some k_ = (.slice Ao26 y147.length co26 : Value).ownBlock) rfl rfl ?aP (fun k_ hk_ => ((Kd.R_mono (ok' := fun k_ => ((fun _ => True)) k_ ∧ some k_ ≠ (u3 : Value).ownBlock) (Kd.R_apart' (HO149.out) (Kd.S_typed HO_3.out) (by decide)) (fun k_ hk => ⟨trivial, hk.2⟩))).1 k_ hk_.symm) ?aF ?aO ?aB ?aS ?aL ?_; (case aP => exact k64_mkM _ _ _ (⟨y147⟩ : S64) (Kd.R_mono (Kd.R_tight rfl (Kd.R_mono (ok' := fun k_ => ((fun _ => True)) k_ ∧ some k_ ≠ (u3 : Value).ownBlock) (Kd.R_apart' (HO149.out) (Kd.S_typed HO_3.out) (by decide)) (fun k_ hk => ⟨trivial, hk.2⟩))) (fun _ h_ => h_))); (case aB => exact (by repeat (first | (with_reducible first | exact HB.out | apply below_alloc | apply pw_below_drewN | apply below_drew1) | exact HB.out))); (case aF => exact (fun _ _ => trivial)); (case aO => exact (by (with_reducible repeat (first | apply Kd.S_alloc | apply Kd.S_drewN | apply Kd.S_drew)); exact Kd.S_mono HO_3.out (fun k_ hk => ⟨trivial, fun e_ => hk.2 e_⟩))); (case aS => exact (below_size (by repeat (first | (with_reducible first | exact HB.out | apply below_alloc | apply pw_below_drewN | apply below_drew1) | exact HB.out)))); (case aL => have := LMc14.out; omega); intro v151 w27 ho hb hg hat; rw [← Ny150.out] at ho; have n0_ := Aside0.mk (hb); have n1_ := Aside0.mk (ho); clear HB; clear HO_3; clear HO149; have HB := n0_; have HO152 := n1_; clear n0_ n1_; clear ho hb hg hat) | ((with_reducible refine gate_dst (N := 50) rfl ?_); (try (refine gate_guard (by rfl) ?_; dsimp only)); refine Kd.R_lit k71 _ 71 ?hg (N := 50) ?hd (xs := ([] : List (S71))) (inner := []) (ok := fun _ => True) (okp := fun _ => True) ?hr ?hp (fun _ hk => hk) trivial (Below.refl _ _) (Nat.le_refl _) (by simp) ?_; (case hd => rfl); (case hg => rfl); (case hr => first | (go_simp; done) | (go_simp; rfl)); (case hp => exact (Reps.none _ _)); intro v154 w28 ho29 hb hg_ hnew_; clear hg_ hnew_; (first | rw [← Ny153.out] at ho29 | (simp only [Int.reduceToNat] at ho29; rw [← Ny153.out] at ho29)); have n0_ := Aside0.mk (Kd.S_elder' (by (with_reducible repeat (first | apply Kd.S_alloc | apply Kd.S_drewN | apply Kd.S_drew)); exact HO152.out) (Kd.R_base ho29) hb); have n1_ := Aside0.mk (Kd.R_lower ho29 (below_size (by repeat (first | (with_reducible first | exact HB.out | apply below_alloc | apply pw_below_drewN | apply below_drew1) | exact HB.out)))); have n2_ := Aside0.mk (below_step (by repeat (first | (with_reducible first | exact HB.out | apply below_alloc | apply pw_below_drewN | apply below_drew1) | exact HB.out)) hb); clear HO152; clear HB; have HO152 := n0_; have HO155 := n1_; have HB := n2_; clear n0_ n1_ n2_; clear hb ho29; have q30 : ((ji17) : Int) ≤ ((l0.length : Int) : Int) := of_decide_eq_true (by first | (with_reducible assumption) | assumption); obtain ⟨i030, hi030, _, hsz30, _⟩ := info_parts info71; have hroom30 : l0.length ≤ c0 := HC0.out; have hC30 : Kd.C k71 _ A0 l0.length l0 := HR0.out; have q030 : (0 : Int) ≤ ((ji17) : Int) := of_decide_eq_true (by first | (with_reducible assumption) | assumption); have hcut30 := cut_from (P := Try.prog) 32 71 .i64 Try.underlying32 hi030 2 hsz30 A0 l0.length c0 (ji17) q030 q30; have hr30 := Kd.C_drop (m := ((ji17) : Int).toNat) (c := c0) hC30 (by omega) hroom30; obtain ⟨A30, hA30⟩ : ∃ A1, A1 = (if c0 = ((ji17) : Int).toNat then A0 else (A0 : Option Addr).map (·.add (((ji17) : Int).toNat * 2))) := ⟨_, rfl⟩; obtain ⟨c30, hc30⟩ : ∃ c1, c1 = c0 - ((ji17) : Int).toNat := ⟨_, rfl⟩; have hy30 : y156.length = l0.length - ((ji17) : Int).toNat := (by rw [Ny156.out, List.length_drop] <;> omega); rw [show (l0).drop ((ji17) : Int).toNat = y156 from Ny156.out.symm] at hr30; replace hr30 : Kd.C k71 _ A30 y156.length y156 := (by rw [hA30]; exact hr30); rw [← hy30, ← hA30, ← hc30] at hcut30; have HR159 := Aside0.mk hr30; have HC159 := Aside0.mk (show y156.length ≤ c30 from by rw [hy30, hc30]; exact Nat.sub_le_sub_right hroom30 _); clear hr30 hC30 hroom30 hi030 hsz30 hc30; have KY30 := Aside0.mk hy30; have KA30 := Aside0.mk hA30; clear hy30 hA30; replace q30 := eq_true q30) | ((with_reducible refine gate_builtin (b := .append) (xs := #[.tmp 50, .tmp 53]) rfl ?_); (try (refine gate_guard (by rfl) ?_; dsimp only)); at_builtin; refine Kd.R_append_rows k71 (w0 := w) w.heap.size rfl (.tmp 50) (.tmp 53) 32 71 (.agg #[(.string ⟨#[]⟩), (.int .i64 0)]) 24 rfl Try.underlying32 info71 rfl (by decide) (by omega) v154 y153 y156 _ _ _ (fun _ => True) (fun _ => False) rfl rfl ?aO ?aR (fun _ _ h => h) (fun _ h => h.elim) ?aF ?aB ?aS ?aL ?_; (case aR => repeat (first | exact (Kd.C_below HR159.out HB.out) | (with_reducible refine Kd.C_alloc ?_ _) | (with_reducible refine Kd.C_drewN ?_ _) | (with_reducible refine Kd.C_drew ?_))); (case aB => exact (by repeat (first | (with_reducible first | exact HB.out | apply below_alloc | apply pw_below_drewN | apply below_drew1) | exact HB.out))); (case aF => exact (fun _ _ => trivial)); (case aO => exact (by (with_reducible repeat (first | apply Kd.R_alloc | apply Kd.R_drewN | apply Kd.R_drew)); exact HO155.out)); (case aS => exact (below_size (by repeat (first | (with_reducible first | exact HB.out | apply below_alloc | apply pw_below_drewN | apply below_drew1) | exact HB.out)))); (case aL => have := LMc20.out; omega); intro v161 w31 ho hb hg hat; rw [← Ny160.out] at ho; have n0_ := Aside0.mk (Kd.S_after (ok := (fun _ => True)) (by (with_reducible repeat (first | apply Kd.S_alloc | apply Kd.S_drewN | apply Kd.S_drew)); exact HO152.out) hg hat); have n1_ := Aside0.mk (hb); have n2_ := Aside0.mk (ho); clear HO152; clear HB; clear HO155; have HO152 := n0_; have HB := n1_; have HO162 := n2_; clear n0_ n1_ n2_; clear ho hb hg hat; obtain ⟨Ao32, co32, eo32⟩ := Kd.R_slice HO162.out; subst eo32) | ((with_reducible refine gate_builtin (b := .append) (xs := #[.tmp 49, .tmp 56]) rfl ?_); (try (refine gate_guard (by rfl) ?_; dsimp only)); at_builtin; refine Kd.S_append k64 (w0 := w) w.heap.size rfl (.tmp 49) (.tmp 56) 34 64 (.agg #[(.slice none 0 0)]) 24 rfl Try.underlying34 info64 rfl (by decide) (by omega) v151 y150 (⟨y160⟩ : S64) [.slice Ao32 y160.length co32] (fun _ => True) (fun k_ => some k_ = (.slice Ao32 y160.length co32 : Value).ownBlock) rfl rfl ?aP (fun k_ hk_ => ((Kd.R_mono (ok' := fun k_ => ((fun _ => True)) k_ ∧ some k_ ≠ (v151 : Value).ownBlock) (Kd.R_apart' (HO162.out) (Kd.S_typed HO152.out) (by decide)) (fun k_ hk => ⟨trivial, hk.2⟩))).1 k_ hk_.symm) ?aF ?aO ?aB ?aS ?aL ?_; (case aP => exact k64_mkM _ _ _ (⟨y160⟩ : S64) (Kd.R_mono (Kd.R_tight rfl (Kd.R_mono (ok' := fun k_ => ((fun _ => True)) k_ ∧ some k_ ≠ (v151 : Value).ownBlock) (Kd.R_apart' (HO162.out) (Kd.S_typed HO152.out) (by decide)) (fun k_ hk => ⟨trivial, hk.2⟩))) (fun _ h_ => h_))); (case aB => exact (by repeat (first | (with_reducible first | exact HB.out | apply below_alloc | apply pw_below_drewN | apply below_drew1) | exact HB.out))); (case aF => exact (fun _ _ => trivial)); (case aO => exact (by (with_reducible repeat (first | apply Kd.S_alloc | apply Kd.S_drewN | apply Kd.S_drew)); exact Kd.S_mono HO152.out (fun k_ hk => ⟨trivial, fun e_ => hk.2 e_⟩))); (case aS => exact (below_size (by repeat (first | (with_reducible first | exact HB.out | apply below_alloc | apply pw_below_drewN | apply below_drew1) | exact HB.out)))); (case aL => have := LMc21.out; omega); intro v164 w33 ho hb hg hat; rw [← Ny163.out] at ho; have n0_ := Aside0.mk (hb); have n1_ := Aside0.mk (ho); clear HB; clear HO152; clear HO162; have HB := n0_; have HO165 := n1_; clear n0_ n1_; clear ho hb hg hat))
                                go_ret
                                exact ⟨_, by first | rfl | (simp only [u8_w_, w64_u8_]; done) | (simp only [u8_w_, w64_u8_]; rfl) | (simp [errW_none, errW_some] <;> rfl) | (simp only [← hji8, ← hji17]; first | rfl | (simp [errW_none, errW_some] <;> rfl)) | (simp [*, errW_none, errW_some] <;> rfl), by (with_reducible repeat (first | apply Kd.S_alloc | apply Kd.S_drewN | apply Kd.S_drew)); exact HO165.out, by repeat (first | (with_reducible first | exact HB.out | apply below_alloc | apply pw_below_drewN | apply below_drew1) | exact HB.out)⟩
                              · rw [if_neg c21] at H
                                exact absurd H (by simp)
                            · rw [if_neg c20] at H
                              exact absurd H (by simp)
                          · rw [if_neg c18] at H
                            exact absurd H (by simp)
                        · rw [if_neg c16] at H
                          have c16b0 : decide ((wrap64 ((ji8) - 1)) < (l0.length : Int)) = false := decide_eq_false c16
                          clear c16
                          have H' := Aside0.mk H
                          clear H
                          go_wp2_with (first | ((with_reducible refine gate_dst (N := 30) rfl ?_); (try (refine gate_guard (by rfl) ?_; dsimp only)); refine Kd.R_lit k71 _ 71 ?hg (N := 30) ?hd (xs := ([] : List (S71))) (inner := []) (ok := fun _ => True) (okp := fun _ => True) ?hr ?hp (fun _ hk => hk) trivial (Below.refl _ _) (Nat.le_refl _) (by simp) ?_; (case hd => rfl); (case hg => rfl); (case hr => first | (go_simp; done) | (go_simp; rfl)); (case hp => exact (Reps.none _ _)); intro v141 w34 ho35 hb hg_ hnew_; clear hg_ hnew_; (first | rw [← Ny140.out] at ho35 | (simp only [Int.reduceToNat] at ho35; rw [← Ny140.out] at ho35)); have n0_ := Aside0.mk (Kd.S_elder' (by (with_reducible repeat (first | apply Kd.S_alloc | apply Kd.S_drewN | apply Kd.S_drew)); exact HO_3.out) (Kd.R_base ho35) hb); have n1_ := Aside0.mk (Kd.R_lower ho35 (below_size (by repeat (first | (with_reducible first | exact HB.out | apply below_alloc | apply pw_below_drewN | apply below_drew1) | exact HB.out)))); have n2_ := Aside0.mk (below_step (by repeat (first | (with_reducible first | exact HB.out | apply below_alloc | apply pw_below_drewN | apply below_drew1) | exact HB.out)) hb); clear HO_3; clear HB; have HO_3 := n0_; have HO142 := n1_; have HB := n2_; clear n0_ n1_ n2_; clear hb ho35; have q36 : ((wrap64 ((ji8) - 1)) : Int) ≤ ((l0.length : Int) : Int) := of_decide_eq_true (by first | (with_reducible assumption) | assumption); obtain ⟨i036, hi036, _, hsz36, _⟩ := info_parts info71; have hroom36 : l0.length ≤ c0 := HC0.out; have hC36 : Kd.C k71 _ A0 l0.length l0 := HR0.out; have ql36 : (x4_1 : Int) ≤ ((wrap64 ((ji8) - 1)) : Int) := of_decide_eq_true (by first | (with_reducible assumption) | assumption); have q036 : (0 : Int) ≤ (x4_1 : Int) := of_decide_eq_true (by first | (with_reducible assumption) | assumption); have hcut36 := cut_mid (P := Try.prog) 32 71 .i64 .i64 Try.underlying32 hi036 2 hsz36 A0 l0.length c0 x4_1 (wrap64 ((ji8) - 1)) q036 ql36 q36 hroom36; have hr36 := Kd.C_mid (lo := (x4_1 : Int).toNat) (hi := ((wrap64 ((ji8) - 1)) : Int).toNat) (c := c0) hC36 (by omega) (by omega) hroom36; obtain ⟨A36, hA36⟩ : ∃ A1, A1 = (if c0 = (x4_1 : Int).toNat then A0 else (A0 : Option Addr).map (·.add ((x4_1 : Int).toNat * 2))) := ⟨_, rfl⟩; obtain ⟨c36, hc36⟩ : ∃ c1, c1 = c0 - (x4_1 : Int).toNat := ⟨_, rfl⟩; have hy36 : y143.length = ((wrap64 ((ji8) - 1)) : Int).toNat - (x4_1 : Int).toNat := (by rw [Ny143.out, List.length_drop, List.length_take] <;> omega); rw [show ((l0).take ((wrap64 ((ji8) - 1)) : Int).toNat).drop (x4_1 : Int).toNat = y143 from Ny143.out.symm] at hr36; replace hr36 : Kd.C k71 _ A36 y143.length y143 := (by rw [hA36]; exact hr36); rw [← hy36, ← hA36, ← hc36] at hcut36; have HR146 := Aside0.mk hr36; have HC146 := Aside0.mk (show y143.length ≤ c36 from by rw [hy36, hc36]; exact Nat.sub_le_sub_right (Nat.le_trans (by omega) hroom36) _); clear hr36 hC36 hroom36 hi036 hsz36 hc36; have KY36 := Aside0.mk hy36; have KA36 := Aside0.mk hA36; clear hy36 hA36; replace q36 := eq_true q36) | ((with_reducible refine gate_builtin (b := .append) (xs := #[.tmp 30, .tmp 34]) rfl ?_); (try (refine gate_guard (by rfl) ?_; dsimp only)); at_builtin; refine Kd.R_append_rows k71 (w0 := w) w.heap.size rfl (.tmp 30) (.tmp 34) 32 71 (.agg #[(.string ⟨#[]⟩), (.int .i64 0)]) 24 rfl Try.underlying32 info71 rfl (by decide) (by omega) v141 y140 y143 _ _ _ (fun _ => True) (fun _ => False) rfl rfl ?aO ?aR (fun _ _ h => h) (fun _ h => h.elim) ?aF ?aB ?aS ?aL ?_; (case aR => repeat (first | exact (Kd.C_below HR146.out HB.out) | (with_reducible refine Kd.C_alloc ?_ _) | (with_reducible refine Kd.C_drewN ?_ _) | (with_reducible refine Kd.C_drew ?_))); (case aB => exact (by repeat (first | (with_reducible first | exact HB.out | apply below_alloc | apply pw_below_drewN | apply below_drew1) | exact HB.out))); (case aF => exact (fun _ _ => trivial)); (case aO => exact (by (with_reducible repeat (first | apply Kd.R_alloc | apply Kd.R_drewN | apply Kd.R_drew)); exact HO142.out)); (case aS => exact (below_size (by repeat (first | (with_reducible first | exact HB.out | apply below_alloc | apply pw_below_drewN | apply below_drew1) | exact HB.out)))); (case aL => have := LMc13.out; omega); intro v148 w37 ho hb hg hat; rw [← Ny147.out] at ho; have n0_ := Aside0.mk (Kd.S_after (ok := (fun _ => True)) (by (with_reducible repeat (first | apply Kd.S_alloc | apply Kd.S_drewN | apply Kd.S_drew)); exact HO_3.out) hg hat); have n1_ := Aside0.mk (hb); have n2_ := Aside0.mk (ho); clear HO_3; clear HB; clear HO142; have HO_3 := n0_; have HB := n1_; have HO149 := n2_; clear n0_ n1_ n2_; clear ho hb hg hat; obtain ⟨Ao38, co38, eo38⟩ := Kd.R_slice HO149.out; subst eo38) | ((with_reducible refine gate_builtin (b := .append) (xs := #[.tmp 29, .tmp 37]) rfl ?_); (try (refine gate_guard (by rfl) ?_; dsimp only)); at_builtin; refine Kd.S_append k64 (w0 := w) w.heap.size rfl (.tmp 29) (.tmp 37) 34 64 (.agg #[(.slice none 0 0)]) 24 rfl Try.underlying34 info64 rfl (by decide) (by omega) u3 x3_1 (⟨y147⟩ : S64) [.slice Ao38 y147.length co38] (fun _ => True) (fun k_ => some k_ = (.slice Ao38 y147.length co38 : Value).ownBlock) rfl rfl ?aP (fun k_ hk_ => ((Kd.R_mono (ok' := fun k_ => ((fun _ => True)) k_ ∧ some k_ ≠ (u3 : Value).ownBlock) (Kd.R_apart' (HO149.out) (Kd.S_typed HO_3.out) (by decide)) (fun k_ hk => ⟨trivial, hk.2⟩))).1 k_ hk_.symm) ?aF ?aO ?aB ?aS ?aL ?_; (case aP => exact k64_mkM _ _ _ (⟨y147⟩ : S64) (Kd.R_mono (Kd.R_tight rfl (Kd.R_mono (ok' := fun k_ => ((fun _ => True)) k_ ∧ some k_ ≠ (u3 : Value).ownBlock) (Kd.R_apart' (HO149.out) (Kd.S_typed HO_3.out) (by decide)) (fun k_ hk => ⟨trivial, hk.2⟩))) (fun _ h_ => h_))); (case aB => exact (by repeat (first | (with_reducible first | exact HB.out | apply below_alloc | apply pw_below_drewN | apply below_drew1) | exact HB.out))); (case aF => exact (fun _ _ => trivial)); (case aO => exact (by (with_reducible repeat (first | apply Kd.S_alloc | apply Kd.S_drewN | apply Kd.S_drew)); exact Kd.S_mono HO_3.out (fun k_ hk => ⟨trivial, fun e_ => hk.2 e_⟩))); (case aS => exact (below_size (by repeat (first | (with_reducible first | exact HB.out | apply below_alloc | apply pw_below_drewN | apply below_drew1) | exact HB.out)))); (case aL => have := LMc14.out; omega); intro v151 w39 ho hb hg hat; rw [← Ny150.out] at ho; have n0_ := Aside0.mk (hb); have n1_ := Aside0.mk (ho); clear HB; clear HO_3; clear HO149; have HB := n0_; have HO152 := n1_; clear n0_ n1_; clear ho hb hg hat))
                          go_roundg k1
                          case measure => have := HK1.out; omega
                          case rel => exact ⟨(y150), (wrap64 (x4_1 + 4)), (by first | rfl | (simp; done) | (simp [bne]; done) | (simp [*]; done)), H', ⟨by have := HK1.out; omega⟩, ⟨by (with_reducible repeat (first | apply Kd.S_alloc | apply Kd.S_drewN | apply Kd.S_drew)); exact HO152.out⟩, ⟨by repeat (first | (with_reducible first | exact HB.out | apply below_alloc | apply pw_below_drewN | apply below_drew1) | exact HB.out)⟩⟩
                      · rw [if_neg c15] at H
                        have c15b0 : decide ((wrap64 ((ji8) - 1)) < (wrap64 (x4_1 + 4))) = false := decide_eq_false c15
                        clear c15
                        have H' := Aside0.mk H
                        clear H
                        go_wp2_with (first | ((with_reducible refine gate_dst (N := 30) rfl ?_); (try (refine gate_guard (by rfl) ?_; dsimp only)); refine Kd.R_lit k71 _ 71 ?hg (N := 30) ?hd (xs := ([] : List (S71))) (inner := []) (ok := fun _ => True) (okp := fun _ => True) ?hr ?hp (fun _ hk => hk) trivial (Below.refl _ _) (Nat.le_refl _) (by simp) ?_; (case hd => rfl); (case hg => rfl); (case hr => first | (go_simp; done) | (go_simp; rfl)); (case hp => exact (Reps.none _ _)); intro v141 w40 ho41 hb hg_ hnew_; clear hg_ hnew_; (first | rw [← Ny140.out] at ho41 | (simp only [Int.reduceToNat] at ho41; rw [← Ny140.out] at ho41)); have n0_ := Aside0.mk (Kd.S_elder' (by (with_reducible repeat (first | apply Kd.S_alloc | apply Kd.S_drewN | apply Kd.S_drew)); exact HO_3.out) (Kd.R_base ho41) hb); have n1_ := Aside0.mk (Kd.R_lower ho41 (below_size (by repeat (first | (with_reducible first | exact HB.out | apply below_alloc | apply pw_below_drewN | apply below_drew1) | exact HB.out)))); have n2_ := Aside0.mk (below_step (by repeat (first | (with_reducible first | exact HB.out | apply below_alloc | apply pw_below_drewN | apply below_drew1) | exact HB.out)) hb); clear HO_3; clear HB; have HO_3 := n0_; have HO142 := n1_; have HB := n2_; clear n0_ n1_ n2_; clear hb ho41; have q42 : ((wrap64 ((ji8) - 1)) : Int) ≤ ((l0.length : Int) : Int) := of_decide_eq_true (by first | (with_reducible assumption) | assumption); obtain ⟨i042, hi042, _, hsz42, _⟩ := info_parts info71; have hroom42 : l0.length ≤ c0 := HC0.out; have hC42 : Kd.C k71 _ A0 l0.length l0 := HR0.out; have ql42 : (x4_1 : Int) ≤ ((wrap64 ((ji8) - 1)) : Int) := of_decide_eq_true (by first | (with_reducible assumption) | assumption); have q042 : (0 : Int) ≤ (x4_1 : Int) := of_decide_eq_true (by first | (with_reducible assumption) | assumption); have hcut42 := cut_mid (P := Try.prog) 32 71 .i64 .i64 Try.underlying32 hi042 2 hsz42 A0 l0.length c0 x4_1 (wrap64 ((ji8) - 1)) q042 ql42 q42 hroom42; have hr42 := Kd.C_mid (lo := (x4_1 : Int).toNat) (hi := ((wrap64 ((ji8) - 1)) : Int).toNat) (c := c0) hC42 (by omega) (by omega) hroom42; obtain ⟨A42, hA42⟩ : ∃ A1, A1 = (if c0 = (x4_1 : Int).toNat then A0 else (A0 : Option Addr).map (·.add ((x4_1 : Int).toNat * 2))) := ⟨_, rfl⟩; obtain ⟨c42, hc42⟩ : ∃ c1, c1 = c0 - (x4_1 : Int).toNat := ⟨_, rfl⟩; have hy42 : y143.length = ((wrap64 ((ji8) - 1)) : Int).toNat - (x4_1 : Int).toNat := (by rw [Ny143.out, List.length_drop, List.length_take] <;> omega); rw [show ((l0).take ((wrap64 ((ji8) - 1)) : Int).toNat).drop (x4_1 : Int).toNat = y143 from Ny143.out.symm] at hr42; replace hr42 : Kd.C k71 _ A42 y143.length y143 := (by rw [hA42]; exact hr42); rw [← hy42, ← hA42, ← hc42] at hcut42; have HR146 := Aside0.mk hr42; have HC146 := Aside0.mk (show y143.length ≤ c42 from by rw [hy42, hc42]; exact Nat.sub_le_sub_right (Nat.le_trans (by omega) hroom42) _); clear hr42 hC42 hroom42 hi042 hsz42 hc42; have KY42 := Aside0.mk hy42; have KA42 := Aside0.mk hA42; clear hy42 hA42; replace q42 := eq_true q42) | ((with_reducible refine gate_builtin (b := .append) (xs := #[.tmp 30, .tmp 34]) rfl ?_); (try (refine gate_guard (by rfl) ?_; dsimp only)); at_builtin; refine Kd.R_append_rows k71 (w0 := w) w.heap.size rfl (.tmp 30) (.tmp 34) 32 71 (.agg #[(.string ⟨#[]⟩), (.int .i64 0)]) 24 rfl Try.underlying32 info71 rfl (by decide) (by omega) v141 y140 y143 _ _ _ (fun _ => True) (fun _ => False) rfl rfl ?aO ?aR (fun _ _ h => h) (fun _ h => h.elim) ?aF ?aB ?aS ?aL ?_; (case aR => repeat (first | exact (Kd.C_below HR146.out HB.out) | (with_reducible refine Kd.C_alloc ?_ _) | (with_reducible refine Kd.C_drewN ?_ _) | (with_reducible refine Kd.C_drew ?_))); (case aB => exact (by repeat (first | (with_reducible first | exact HB.out | apply below_alloc | apply pw_below_drewN | apply below_drew1) | exact HB.out))); (case aF => exact (fun _ _ => trivial)); (case aO => exact (by (with_reducible repeat (first | apply Kd.R_alloc | apply Kd.R_drewN | apply Kd.R_drew)); exact HO142.out)); (case aS => exact (below_size (by repeat (first | (with_reducible first | exact HB.out | apply below_alloc | apply pw_below_drewN | apply below_drew1) | exact HB.out)))); (case aL => have := LMc13.out; omega); intro v148 w43 ho hb hg hat; rw [← Ny147.out] at ho; have n0_ := Aside0.mk (Kd.S_after (ok := (fun _ => True)) (by (with_reducible repeat (first | apply Kd.S_alloc | apply Kd.S_drewN | apply Kd.S_drew)); exact HO_3.out) hg hat); have n1_ := Aside0.mk (hb); have n2_ := Aside0.mk (ho); clear HO_3; clear HB; clear HO142; have HO_3 := n0_; have HB := n1_; have HO149 := n2_; clear n0_ n1_ n2_; clear ho hb hg hat; obtain ⟨Ao44, co44, eo44⟩ := Kd.R_slice HO149.out; subst eo44) | ((with_reducible refine gate_builtin (b := .append) (xs := #[.tmp 29, .tmp 37]) rfl ?_); (try (refine gate_guard (by rfl) ?_; dsimp only)); at_builtin; refine Kd.S_append k64 (w0 := w) w.heap.size rfl (.tmp 29) (.tmp 37) 34 64 (.agg #[(.slice none 0 0)]) 24 rfl Try.underlying34 info64 rfl (by decide) (by omega) u3 x3_1 (⟨y147⟩ : S64) [.slice Ao44 y147.length co44] (fun _ => True) (fun k_ => some k_ = (.slice Ao44 y147.length co44 : Value).ownBlock) rfl rfl ?aP (fun k_ hk_ => ((Kd.R_mono (ok' := fun k_ => ((fun _ => True)) k_ ∧ some k_ ≠ (u3 : Value).ownBlock) (Kd.R_apart' (HO149.out) (Kd.S_typed HO_3.out) (by decide)) (fun k_ hk => ⟨trivial, hk.2⟩))).1 k_ hk_.symm) ?aF ?aO ?aB ?aS ?aL ?_; (case aP => exact k64_mkM _ _ _ (⟨y147⟩ : S64) (Kd.R_mono (Kd.R_tight rfl (Kd.R_mono (ok' := fun k_ => ((fun _ => True)) k_ ∧ some k_ ≠ (u3 : Value).ownBlock) (Kd.R_apart' (HO149.out) (Kd.S_typed HO_3.out) (by decide)) (fun k_ hk => ⟨trivial, hk.2⟩))) (fun _ h_ => h_))); (case aB => exact (by repeat (first | (with_reducible first | exact HB.out | apply below_alloc | apply pw_below_drewN | apply below_drew1) | exact HB.out))); (case aF => exact (fun _ _ => trivial)); (case aO => exact (by (with_reducible repeat (first | apply Kd.S_alloc | apply Kd.S_drewN | apply Kd.S_drew)); exact Kd.S_mono HO_3.out (fun k_ hk => ⟨trivial, fun e_ => hk.2 e_⟩))); (case aS => exact (below_size (by repeat (first | (with_reducible first | exact HB.out | apply below_alloc | apply pw_below_drewN | apply below_drew1) | exact HB.out)))); (case aL => have := LMc14.out; omega); intro v151 w45 ho hb hg hat; rw [← Ny150.out] at ho; have n0_ := Aside0.mk (hb); have n1_ := Aside0.mk (ho); clear HB; clear HO_3; clear HO149; have HB := n0_; have HO152 := n1_; clear n0_ n1_; clear ho hb hg hat))
                        go_roundg k1
                        case measure => have := HK1.out; omega
                        case rel => exact ⟨(y150), (wrap64 (x4_1 + 4)), (by first | rfl | (simp; done) | (simp [bne]; done) | (simp [*]; done)), H', ⟨by have := HK1.out; omega⟩, ⟨by (with_reducible repeat (first | apply Kd.S_alloc | apply Kd.S_drewN | apply Kd.S_drew)); exact HO152.out⟩, ⟨by repeat (first | (with_reducible first | exact HB.out | apply below_alloc | apply pw_below_drewN | apply below_drew1) | exact HB.out)⟩⟩
                    · rw [if_neg c14] at H
                      exact absurd H (by simp)
                  · rw [if_neg c13] at H
                    exact absurd H (by simp)
                · rw [if_neg c12] at H
                  exact absurd H (by simp)
              · rw [if_neg c11] at H
                exact absurd H (by simp)
            · rw [if_neg c10] at H
              exact absurd H (by simp)
          · rw [if_neg c9] at H
            have c9b0 : ((wrap64 ((l0.length : Int) - (ji8))) == 1) = false := beq_eq_false_iff_ne.mpr c9
            have c9b1 : ((wrap64 ((l0.length : Int) - (ji8))) != 1) = true := bne_iff_ne.mpr c9
            obtain ⟨y166, hy166⟩ : ∃ y_ : List (S71), y_ = (([] : List (S71))) := ⟨_, rfl⟩
            replace H : (if 0 ≤ x4_1 then (if x4_1 ≤ (ji8) then (if (ji8) ≤ (l0.length : Int) then ((some ((l0.take ((ji8) : Int).toNat).drop (x4_1 : Int).toNat : List (S71))).bind fun y169 => (if y166.length + y169.length < 5864062014805 then (if x3_1.length < 5864062014805 then ((some (x3_1 ++ [(⟨(y166 ++ y169)⟩ : S64)] : List (S64))).bind fun y176 => (if (ji8) < (wrap64 (x4_1 + 4)) then (if (ji8) < (l0.length : Int) then ((some (([] : List (S71)) : List (S71))).bind fun y179 => (if 0 ≤ (ji8) then ((some (l0.drop ((ji8) : Int).toNat : List (S71))).bind fun y182 => (if y179.length + y182.length < 5864062014805 then (if y176.length < 5864062014805 then (some (y176 ++ [(⟨(y179 ++ y182)⟩ : S64)])) else (none)) else (none))) else (none))) else (spec_PagesOf.l0 k1 l0 y176 (wrap64 (x4_1 + 4)))) else (spec_PagesOf.l0 k1 l0 y176 (wrap64 (x4_1 + 4))))) else (none)) else (none))) else (none)) else (none)) else (none)) = some r := by first | (rw [hy166]; with_reducible exact H) | (have H2_ := (Option.bind_some _ _).symm.trans H; rw [hy166]; with_reducible exact H2_) | (have H2_ := (Option.bind_some _ _).symm.trans H; with_reducible exact H2_) | with_reducible exact H | (rw [hy166]; exact H) | exact H
            have Ny166 := Aside0.mk hy166
            clear hy166
            by_cases c46 : 0 ≤ x4_1
            · rw [if_pos c46] at H
              have c46b0 := eq_true c46
              have c46b1 : decide (0 ≤ x4_1) = true := decide_eq_true c46
              clear c46
              by_cases c47 : x4_1 ≤ (ji8)
              · rw [if_pos c47] at H
                have c47b0 := eq_true c47
                have c47b1 : decide (x4_1 ≤ (ji8)) = true := decide_eq_true c47
                clear c47
                by_cases c48 : (ji8) ≤ (l0.length : Int)
                · rw [if_pos c48] at H
                  have c48b0 := eq_true c48
                  have c48b1 : decide ((ji8) ≤ (l0.length : Int)) = true := decide_eq_true c48
                  clear c48
                  obtain ⟨y169, hy169⟩ : ∃ y_ : List (S71), y_ = ((l0.take ((ji8) : Int).toNat).drop (x4_1 : Int).toNat) := ⟨_, rfl⟩
                  replace H : (if y166.length + y169.length < 5864062014805 then (if x3_1.length < 5864062014805 then ((some (x3_1 ++ [(⟨(y166 ++ y169)⟩ : S64)] : List (S64))).bind fun y176 => (if (ji8) < (wrap64 (x4_1 + 4)) then (if (ji8) < (l0.length : Int) then ((some (([] : List (S71)) : List (S71))).bind fun y179 => (if 0 ≤ (ji8) then ((some (l0.drop ((ji8) : Int).toNat : List (S71))).bind fun y182 => (if y179.length + y182.length < 5864062014805 then (if y176.length < 5864062014805 then (some (y176 ++ [(⟨(y179 ++ y182)⟩ : S64)])) else (none)) else (none))) else (none))) else (spec_PagesOf.l0 k1 l0 y176 (wrap64 (x4_1 + 4)))) else (spec_PagesOf.l0 k1 l0 y176 (wrap64 (x4_1 + 4))))) else (none)) else (none)) = some r := by first | (rw [hy169]; with_reducible exact H) | (have H2_ := (Option.bind_some _ _).symm.trans H; rw [hy169]; with_reducible exact H2_) | (have H2_ := (Option.bind_some _ _).symm.trans H; with_reducible exact H2_) | with_reducible exact H | (rw [hy169]; exact H) | exact H
                  have Ny169 := Aside0.mk hy169
                  clear hy169
                  by_cases c49 : y166.length + y169.length < 5864062014805
                  · rw [if_pos c49] at H
                    have LMc49 := Aside0.mk c49
                    clear c49
                    obtain ⟨y173, hy173⟩ : ∃ y_ : List (S71), y_ = (y166 ++ y169) := ⟨_, rfl⟩
                    replace H : (if x3_1.length < 5864062014805 then ((some (x3_1 ++ [(⟨y173⟩ : S64)] : List (S64))).bind fun y176 => (if (ji8) < (wrap64 (x4_1 + 4)) then (if (ji8) < (l0.length : Int) then ((some (([] : List (S71)) : List (S71))).bind fun y179 => (if 0 ≤ (ji8) then ((some (l0.drop ((ji8) : Int).toNat : List (S71))).bind fun y182 => (if y179.length + y182.length < 5864062014805 then (if y176.length < 5864062014805 then (some (y176 ++ [(⟨(y179 ++ y182)⟩ : S64)])) else (none)) else (none))) else (none))) else (spec_PagesOf.l0 k1 l0 y176 (wrap64 (x4_1 + 4)))) else (spec_PagesOf.l0 k1 l0 y176 (wrap64 (x4_1 + 4))))) else (none)) = some r := by first | (rw [hy173]; with_reducible exact H) | (have H2_ := (Option.bind_some _ _).symm.trans H; rw [hy173]; with_reducible exact H2_) | (have H2_ := (Option.bind_some _ _).symm.trans H; with_reducible exact H2_) | with_reducible exact H | (rw [hy173]; exact H) | exact H
                    have Ny173 := Aside0.mk hy173
                    clear hy173
                    by_cases c50 : x3_1.length < 5864062014805
                    · rw [if_pos c50] at H
                      have LMc50 := Aside0.mk c50
                      clear c50
                      obtain ⟨y176, hy176⟩ : ∃ y_ : List (S64), y_ = (x3_1 ++ [(⟨y173⟩ : S64)]) := ⟨_, rfl⟩
                      replace H : (if (ji8) < (wrap64 (x4_1 + 4)) then (if (ji8) < (l0.length : Int) then ((some (([] : List (S71)) : List (S71))).bind fun y179 => (if 0 ≤ (ji8) then ((some (l0.drop ((ji8) : Int).toNat : List (S71))).bind fun y182 => (if y179.length + y182.length < 5864062014805 then (if y176.length < 5864062014805 then (some (y176 ++ [(⟨(y179 ++ y182)⟩ : S64)])) else (none)) else (none))) else (none))) else (spec_PagesOf.l0 k1 l0 y176 (wrap64 (x4_1 + 4)))) else (spec_PagesOf.l0 k1 l0 y176 (wrap64 (x4_1 + 4)))) = some r := by first | (rw [hy176]; with_reducible exact H) | (have H2_ := (Option.bind_some _ _).symm.trans H; rw [hy176]; with_reducible exact H2_) | (have H2_ := (Option.bind_some _ _).symm.trans H; with_reducible exact H2_) | with_reducible exact H | (rw [hy176]; exact H) | exact H
                      have Ny176 := Aside0.mk hy176
                      clear hy176
                      by_cases c51 : (ji8) < (wrap64 (x4_1 + 4))
                      · rw [if_pos c51] at H
                        have c51b0 : decide ((ji8) < (wrap64 (x4_1 + 4))) = true := decide_eq_true c51
                        clear c51
                        by_cases c52 : (ji8) < (l0.length : Int)
                        · rw [if_pos c52] at H
                          have c52b0 : decide ((ji8) < (l0.length : Int)) = true := decide_eq_true c52
                          clear c52
                          obtain ⟨y179, hy179⟩ : ∃ y_ : List (S71), y_ = (([] : List (S71))) := ⟨_, rfl⟩
                          replace H : (if 0 ≤ (ji8) then ((some (l0.drop ((ji8) : Int).toNat : List (S71))).bind fun y182 => (if y179.length + y182.length < 5864062014805 then (if y176.length < 5864062014805 then (some (y176 ++ [(⟨(y179 ++ y182)⟩ : S64)])) else (none)) else (none))) else (none)) = some r := by first | (rw [hy179]; with_reducible exact H) | (have H2_ := (Option.bind_some _ _).symm.trans H; rw [hy179]; with_reducible exact H2_) | (have H2_ := (Option.bind_some _ _).symm.trans H; with_reducible exact H2_) | with_reducible exact H | (rw [hy179]; exact H) | exact H
                          have Ny179 := Aside0.mk hy179
                          clear hy179
                          by_cases c53 : 0 ≤ (ji8)
                          · rw [if_pos c53] at H
                            have c53b0 := eq_true c53
                            have c53b1 : decide (0 ≤ (ji8)) = true := decide_eq_true c53
                            clear c53
                            have c54b0 := eq_true (of_decide_eq_true (by first | (with_reducible assumption) | assumption) : (ji8) ≤ (l0.length : Int))
                            obtain ⟨y182, hy182⟩ : ∃ y_ : List (S71), y_ = (l0.drop ((ji8) : Int).toNat) := ⟨_, rfl⟩
                            replace H : (if y179.length + y182.length < 5864062014805 then (if y176.length < 5864062014805 then (some (y176 ++ [(⟨(y179 ++ y182)⟩ : S64)])) else (none)) else (none)) = some r := by first | (rw [hy182]; with_reducible exact H) | (have H2_ := (Option.bind_some _ _).symm.trans H; rw [hy182]; with_reducible exact H2_) | (have H2_ := (Option.bind_some _ _).symm.trans H; with_reducible exact H2_) | with_reducible exact H | (rw [hy182]; exact H) | exact H
                            have Ny182 := Aside0.mk hy182
                            clear hy182
                            by_cases c55 : y179.length + y182.length < 5864062014805
                            · rw [if_pos c55] at H
                              have LMc55 := Aside0.mk c55
                              clear c55
                              obtain ⟨y186, hy186⟩ : ∃ y_ : List (S71), y_ = (y179 ++ y182) := ⟨_, rfl⟩
                              replace H : (if y176.length < 5864062014805 then (some (y176 ++ [(⟨y186⟩ : S64)])) else (none)) = some r := by first | (rw [hy186]; with_reducible exact H) | (have H2_ := (Option.bind_some _ _).symm.trans H; rw [hy186]; with_reducible exact H2_) | (have H2_ := (Option.bind_some _ _).symm.trans H; with_reducible exact H2_) | with_reducible exact H | (rw [hy186]; exact H) | exact H
                              have Ny186 := Aside0.mk hy186
                              clear hy186
                              by_cases c56 : y176.length < 5864062014805
                              · rw [if_pos c56] at H
                                have LMc56 := Aside0.mk c56
                                clear c56
                                obtain ⟨y189, hy189⟩ : ∃ y_ : List (S64), y_ = (y176 ++ [(⟨y186⟩ : S64)]) := ⟨_, rfl⟩
                                replace H : (some y189) = some r := by first | (rw [hy189]; with_reducible exact H) | (have H2_ := (Option.bind_some _ _).symm.trans H; rw [hy189]; with_reducible exact H2_) | (have H2_ := (Option.bind_some _ _).symm.trans H; with_reducible exact H2_) | with_reducible exact H | (rw [hy189]; exact H) | exact H
                                have Ny189 := Aside0.mk hy189
                                clear hy189
                                obtain rfl := Option.some.inj H
                                go_wp2_with (first | ((with_reducible refine gate_dst (N := 30) rfl ?_); (try (refine gate_guard (by rfl) ?_; dsimp only)); refine Kd.R_lit k71 _ 71 ?hg (N := 30) ?hd (xs := ([] : List (S71))) (inner := []) (ok := fun _ => True) (okp := fun _ => True) ?hr ?hp (fun _ hk => hk) trivial (Below.refl _ _) (Nat.le_refl _) (by simp) ?_; (case hd => rfl); (case hg => rfl); (case hr => first | (go_simp; done) | (go_simp; rfl)); (case hp => exact (Reps.none _ _)); intro v167 w57 ho58 hb hg_ hnew_; clear hg_ hnew_; (first | rw [← Ny166.out] at ho58 | (simp only [Int.reduceToNat] at ho58; rw [← Ny166.out] at ho58)); have n0_ := Aside0.mk (Kd.S_elder' (by (with_reducible repeat (first | apply Kd.S_alloc | apply Kd.S_drewN | apply Kd.S_drew)); exact HO_3.out) (Kd.R_base ho58) hb); have n1_ := Aside0.mk (Kd.R_lower ho58 (below_size (by repeat (first | (with_reducible first | exact HB.out | apply below_alloc | apply pw_below_drewN | apply below_drew1) | exact HB.out)))); have n2_ := Aside0.mk (below_step (by repeat (first | (with_reducible first | exact HB.out | apply below_alloc | apply pw_below_drewN | apply below_drew1) | exact HB.out)) hb); clear HO_3; clear HB; have HO_3 := n0_; have HO168 := n1_; have HB := n2_; clear n0_ n1_ n2_; clear hb ho58; have q59 : ((ji8) : Int) ≤ ((l0.length : Int) : Int) := of_decide_eq_true (by first | (with_reducible assumption) | assumption); obtain ⟨i059, hi059, _, hsz59, _⟩ := info_parts info71; have hroom59 : l0.length ≤ c0 := HC0.out; have hC59 : Kd.C k71 _ A0 l0.length l0 := HR0.out; have ql59 : (x4_1 : Int) ≤ ((ji8) : Int) := of_decide_eq_true (by first | (with_reducible assumption) | assumption); have q059 : (0 : Int) ≤ (x4_1 : Int) := of_decide_eq_true (by first | (with_reducible assumption) | assumption); have hcut59 := cut_mid (P := Try.prog) 32 71 .i64 .i64 Try.underlying32 hi059 2 hsz59 A0 l0.length c0 x4_1 (ji8) q059 ql59 q59 hroom59; have hr59 := Kd.C_mid (lo := (x4_1 : Int).toNat) (hi := ((ji8) : Int).toNat) (c := c0) hC59 (by omega) (by omega) hroom59; obtain ⟨A59, hA59⟩ : ∃ A1, A1 = (if c0 = (x4_1 : Int).toNat then A0 else (A0 : Option Addr).map (·.add ((x4_1 : Int).toNat * 2))) := ⟨_, rfl⟩; obtain ⟨c59, hc59⟩ : ∃ c1, c1 = c0 - (x4_1 : Int).toNat := ⟨_, rfl⟩; have hy59 : y169.length = ((ji8) : Int).toNat - (x4_1 : Int).toNat := (by rw [Ny169.out, List.length_drop, List.length_take] <;> omega); rw [show ((l0).take ((ji8) : Int).toNat).drop (x4_1 : Int).toNat = y169 from Ny169.out.symm] at hr59; replace hr59 : Kd.C k71 _ A59 y169.length y169 := (by rw [hA59]; exact hr59); rw [← hy59, ← hA59, ← hc59] at hcut59; have HR172 := Aside0.mk hr59; have HC172 := Aside0.mk (show y169.length ≤ c59 from by rw [hy59, hc59]; exact Nat.sub_le_sub_right (Nat.le_trans (by omega) hroom59) _); clear hr59 hC59 hroom59 hi059 hsz59 hc59; have KY59 := Aside0.mk hy59; have KA59 := Aside0.mk hA59; clear hy59 hA59; replace q59 := eq_true q59) | ((with_reducible refine gate_builtin (b := .append) (xs := #[.tmp 30, .tmp 34]) rfl ?_); (try (refine gate_guard (by rfl) ?_; dsimp only)); at_builtin; refine Kd.R_append_rows k71 (w0 := w) w.heap.size rfl (.tmp 30) (.tmp 34) 32 71 (.agg #[(.string ⟨#[]⟩), (.int .i64 0)]) 24 rfl Try.underlying32 info71 rfl (by decide) (by omega) v167 y166 y169 _ _ _ (fun _ => True) (fun _ => False) rfl rfl ?aO ?aR (fun _ _ h => h) (fun _ h => h.elim) ?aF ?aB ?aS ?aL ?_; (case aR => repeat (first | exact (Kd.C_below HR172.out HB.out) | (with_reducible refine Kd.C_alloc ?_ _) | (with_reducible refine Kd.C_drewN ?_ _) | (with_reducible refine Kd.C_drew ?_))); (case aB => exact (by repeat (first | (with_reducible first | exact HB.out | apply below_alloc | apply pw_below_drewN | apply below_drew1) | exact HB.out))); (case aF => exact (fun _ _ => trivial)); (case aO => exact (by (with_reducible repeat (first | apply Kd.R_alloc | apply Kd.R_drewN | apply Kd.R_drew)); exact HO168.out)); (case aS => exact (below_size (by repeat (first | (with_reducible first | exact HB.out | apply below_alloc | apply pw_below_drewN | apply below_drew1) | exact HB.out)))); (case aL => have := LMc49.out; omega); intro v174 w60 ho hb hg hat; rw [← Ny173.out] at ho; have n0_ := Aside0.mk (Kd.S_after (ok := (fun _ => True)) (by (with_reducible repeat (first | apply Kd.S_alloc | apply Kd.S_drewN | apply Kd.S_drew)); exact HO_3.out) hg hat); have n1_ := Aside0.mk (hb); have n2_ := Aside0.mk (ho); clear HO_3; clear HB; clear HO168; have HO_3 := n0_; have HB := n1_; have HO175 := n2_; clear n0_ n1_ n2_; clear ho hb hg hat; obtain ⟨Ao61, co61, eo61⟩ := Kd.R_slice HO175.out; subst eo61) | ((with_reducible refine gate_builtin (b := .append) (xs := #[.tmp 29, .tmp 37]) rfl ?_); (try (refine gate_guard (by rfl) ?_; dsimp only)); at_builtin; refine Kd.S_append k64 (w0 := w) w.heap.size rfl (.tmp 29) (.tmp 37) 34 64 (.agg #[(.slice none 0 0)]) 24 rfl Try.underlying34 info64 rfl (by decide) (by omega) u3 x3_1 (⟨y173⟩ : S64) [.slice Ao61 y173.length co61] (fun _ => True) (fun k_ => some k_ = (.slice Ao61 y173.length co61 : Value).ownBlock) rfl rfl ?aP (fun k_ hk_ => ((Kd.R_mono (ok' := fun k_ => ((fun _ => True)) k_ ∧ some k_ ≠ (u3 : Value).ownBlock) (Kd.R_apart' (HO175.out) (Kd.S_typed HO_3.out) (by decide)) (fun k_ hk => ⟨trivial, hk.2⟩))).1 k_ hk_.symm) ?aF ?aO ?aB ?aS ?aL ?_; (case aP => exact k64_mkM _ _ _ (⟨y173⟩ : S64) (Kd.R_mono (Kd.R_tight rfl (Kd.R_mono (ok' := fun k_ => ((fun _ => True)) k_ ∧ some k_ ≠ (u3 : Value).ownBlock) (Kd.R_apart' (HO175.out) (Kd.S_typed HO_3.out) (by decide)) (fun k_ hk => ⟨trivial, hk.2⟩))) (fun _ h_ => h_))); (case aB => exact (by repeat (first | (with_reducible first | exact HB.out | apply below_alloc | apply pw_below_drewN | apply below_drew1) | exact HB.out))); (case aF => exact (fun _ _ => trivial)); (case aO => exact (by (with_reducible repeat (first | apply Kd.S_alloc | apply Kd.S_drewN | apply Kd.S_drew)); exact Kd.S_mono HO_3.out (fun k_ hk => ⟨trivial, fun e_ => hk.2 e_⟩))); (case aS => exact (below_size (by repeat (first | (with_reducible first | exact HB.out | apply below_alloc | apply pw_below_drewN | apply below_drew1) | exact HB.out)))); (case aL => have := LMc50.out; omega); intro v177 w62 ho hb hg hat; rw [← Ny176.out] at ho; have n0_ := Aside0.mk (hb); have n1_ := Aside0.mk (ho); clear HB; clear HO_3; clear HO175; have HB := n0_; have HO178 := n1_; clear n0_ n1_; clear ho hb hg hat) | ((with_reducible refine gate_dst (N := 50) rfl ?_); (try (refine gate_guard (by rfl) ?_; dsimp only)); refine Kd.R_lit k71 _ 71 ?hg (N := 50) ?hd (xs := ([] : List (S71))) (inner := []) (ok := fun _ => True) (okp := fun _ => True) ?hr ?hp (fun _ hk => hk) trivial (Below.refl _ _) (Nat.le_refl _) (by simp) ?_; (case hd => rfl); (case hg => rfl); (case hr => first | (go_simp; done) | (go_simp; rfl)); (case hp => exact (Reps.none _ _)); intro v180 w63 ho64 hb hg_ hnew_; clear hg_ hnew_; (first | rw [← Ny179.out] at ho64 | (simp only [Int.reduceToNat] at ho64; rw [← Ny179.out] at ho64)); have n0_ := Aside0.mk (Kd.S_elder' (by (with_reducible repeat (first | apply Kd.S_alloc | apply Kd.S_drewN | apply Kd.S_drew)); exact HO178.out) (Kd.R_base ho64) hb); have n1_ := Aside0.mk (Kd.R_lower ho64 (below_size (by repeat (first | (with_reducible first | exact HB.out | apply below_alloc | apply pw_below_drewN | apply below_drew1) | exact HB.out)))); have n2_ := Aside0.mk (below_step (by repeat (first | (with_reducible first | exact HB.out | apply below_alloc | apply pw_below_drewN | apply below_drew1) | exact HB.out)) hb); clear HO178; clear HB; have HO178 := n0_; have HO181 := n1_; have HB := n2_; clear n0_ n1_ n2_; clear hb ho64; have q65 : ((ji8) : Int) ≤ ((l0.length : Int) : Int) := of_decide_eq_true (by first | (with_reducible assumption) | assumption); obtain ⟨i065, hi065, _, hsz65, _⟩ := info_parts info71; have hroom65 : l0.length ≤ c0 := HC0.out; have hC65 : Kd.C k71 _ A0 l0.length l0 := HR0.out; have q065 : (0 : Int) ≤ ((ji8) : Int) := of_decide_eq_true (by first | (with_reducible assumption) | assumption); have hcut65 := cut_from (P := Try.prog) 32 71 .i64 Try.underlying32 hi065 2 hsz65 A0 l0.length c0 (ji8) q065 q65; have hr65 := Kd.C_drop (m := ((ji8) : Int).toNat) (c := c0) hC65 (by omega) hroom65; obtain ⟨A65, hA65⟩ : ∃ A1, A1 = (if c0 = ((ji8) : Int).toNat then A0 else (A0 : Option Addr).map (·.add (((ji8) : Int).toNat * 2))) := ⟨_, rfl⟩; obtain ⟨c65, hc65⟩ : ∃ c1, c1 = c0 - ((ji8) : Int).toNat := ⟨_, rfl⟩; have hy65 : y182.length = l0.length - ((ji8) : Int).toNat := (by rw [Ny182.out, List.length_drop] <;> omega); rw [show (l0).drop ((ji8) : Int).toNat = y182 from Ny182.out.symm] at hr65; replace hr65 : Kd.C k71 _ A65 y182.length y182 := (by rw [hA65]; exact hr65); rw [← hy65, ← hA65, ← hc65] at hcut65; have HR185 := Aside0.mk hr65; have HC185 := Aside0.mk (show y182.length ≤ c65 from by rw [hy65, hc65]; exact Nat.sub_le_sub_right hroom65 _); clear hr65 hC65 hroom65 hi065 hsz65 hc65; have KY65 := Aside0.mk hy65; have KA65 := Aside0.mk hA65; clear hy65 hA65; replace q65 := eq_true q65) | ((with_reducible refine gate_builtin (b := .append) (xs := #[.tmp 50, .tmp 53]) rfl ?_); (try (refine gate_guard (by rfl) ?_; dsimp only)); at_builtin; refine Kd.R_append_rows k71 (w0 := w) w.heap.size rfl (.tmp 50) (.tmp 53) 32 71 (.agg #[(.string ⟨#[]⟩), (.int .i64 0)]) 24 rfl Try.underlying32 info71 rfl (by decide) (by omega) v180 y179 y182 _ _ _ (fun _ => True) (fun _ => False) rfl rfl ?aO ?aR (fun _ _ h => h) (fun _ h => h.elim) ?aF ?aB ?aS ?aL ?_; (case aR => repeat (first | exact (Kd.C_below HR185.out HB.out) | (with_reducible refine Kd.C_alloc ?_ _) | (with_reducible refine Kd.C_drewN ?_ _) | (with_reducible refine Kd.C_drew ?_))); (case aB => exact (by repeat (first | (with_reducible first | exact HB.out | apply below_alloc | apply pw_below_drewN | apply below_drew1) | exact HB.out))); (case aF => exact (fun _ _ => trivial)); (case aO => exact (by (with_reducible repeat (first | apply Kd.R_alloc | apply Kd.R_drewN | apply Kd.R_drew)); exact HO181.out)); (case aS => exact (below_size (by repeat (first | (with_reducible first | exact HB.out | apply below_alloc | apply pw_below_drewN | apply below_drew1) | exact HB.out)))); (case aL => have := LMc55.out; omega); intro v187 w66 ho hb hg hat; rw [← Ny186.out] at ho; have n0_ := Aside0.mk (Kd.S_after (ok := (fun _ => True)) (by (with_reducible repeat (first | apply Kd.S_alloc | apply Kd.S_drewN | apply Kd.S_drew)); exact HO178.out) hg hat); have n1_ := Aside0.mk (hb); have n2_ := Aside0.mk (ho); clear HO178; clear HB; clear HO181; have HO178 := n0_; have HB := n1_; have HO188 := n2_; clear n0_ n1_ n2_; clear ho hb hg hat; obtain ⟨Ao67, co67, eo67⟩ := Kd.R_slice HO188.out; subst eo67) | ((with_reducible refine gate_builtin (b := .append) (xs := #[.tmp 49, .tmp 56]) rfl ?_); (try (refine gate_guard (by rfl) ?_; dsimp only)); at_builtin; refine Kd.S_append k64 (w0 := w) w.heap.size rfl (.tmp 49) (.tmp 56) 34 64 (.agg #[(.slice none 0 0)]) 24 rfl Try.underlying34 info64 rfl (by decide) (by omega) v177 y176 (⟨y186⟩ : S64) [.slice Ao67 y186.length co67] (fun _ => True) (fun k_ => some k_ = (.slice Ao67 y186.length co67 : Value).ownBlock) rfl rfl ?aP (fun k_ hk_ => ((Kd.R_mono (ok' := fun k_ => ((fun _ => True)) k_ ∧ some k_ ≠ (v177 : Value).ownBlock) (Kd.R_apart' (HO188.out) (Kd.S_typed HO178.out) (by decide)) (fun k_ hk => ⟨trivial, hk.2⟩))).1 k_ hk_.symm) ?aF ?aO ?aB ?aS ?aL ?_; (case aP => exact k64_mkM _ _ _ (⟨y186⟩ : S64) (Kd.R_mono (Kd.R_tight rfl (Kd.R_mono (ok' := fun k_ => ((fun _ => True)) k_ ∧ some k_ ≠ (v177 : Value).ownBlock) (Kd.R_apart' (HO188.out) (Kd.S_typed HO178.out) (by decide)) (fun k_ hk => ⟨trivial, hk.2⟩))) (fun _ h_ => h_))); (case aB => exact (by repeat (first | (with_reducible first | exact HB.out | apply below_alloc | apply pw_below_drewN | apply below_drew1) | exact HB.out))); (case aF => exact (fun _ _ => trivial)); (case aO => exact (by (with_reducible repeat (first | apply Kd.S_alloc | apply Kd.S_drewN | apply Kd.S_drew)); exact Kd.S_mono HO178.out (fun k_ hk => ⟨trivial, fun e_ => hk.2 e_⟩))); (case aS => exact (below_size (by repeat (first | (with_reducible first | exact HB.out | apply below_alloc | apply pw_below_drewN | apply below_drew1) | exact HB.out)))); (case aL => have := LMc56.out; omega); intro v190 w68 ho hb hg hat; rw [← Ny189.out] at ho; have n0_ := Aside0.mk (hb); have n1_ := Aside0.mk (ho); clear HB; clear HO178; clear HO188; have HB := n0_; have HO191 := n1_; clear n0_ n1_; clear ho hb hg hat))
                                go_ret
                                exact ⟨_, by first | rfl | (simp only [u8_w_, w64_u8_]; done) | (simp only [u8_w_, w64_u8_]; rfl) | (simp [errW_none, errW_some] <;> rfl) | (simp only [← hji8]; first | rfl | (simp [errW_none, errW_some] <;> rfl)) | (simp [*, errW_none, errW_some] <;> rfl), by (with_reducible repeat (first | apply Kd.S_alloc | apply Kd.S_drewN | apply Kd.S_drew)); exact HO191.out, by repeat (first | (with_reducible first | exact HB.out | apply below_alloc | apply pw_below_drewN | apply below_drew1) | exact HB.out)⟩
                              · rw [if_neg c56] at H
                                exact absurd H (by simp)
                            · rw [if_neg c55] at H
                              exact absurd H (by simp)
                          · rw [if_neg c53] at H
                            exact absurd H (by simp)
                        · rw [if_neg c52] at H
                          have c52b0 : decide ((ji8) < (l0.length : Int)) = false := decide_eq_false c52
                          clear c52
                          have H' := Aside0.mk H
                          clear H
                          go_wp2_with (first | ((with_reducible refine gate_dst (N := 30) rfl ?_); (try (refine gate_guard (by rfl) ?_; dsimp only)); refine Kd.R_lit k71 _ 71 ?hg (N := 30) ?hd (xs := ([] : List (S71))) (inner := []) (ok := fun _ => True) (okp := fun _ => True) ?hr ?hp (fun _ hk => hk) trivial (Below.refl _ _) (Nat.le_refl _) (by simp) ?_; (case hd => rfl); (case hg => rfl); (case hr => first | (go_simp; done) | (go_simp; rfl)); (case hp => exact (Reps.none _ _)); intro v167 w69 ho70 hb hg_ hnew_; clear hg_ hnew_; (first | rw [← Ny166.out] at ho70 | (simp only [Int.reduceToNat] at ho70; rw [← Ny166.out] at ho70)); have n0_ := Aside0.mk (Kd.S_elder' (by (with_reducible repeat (first | apply Kd.S_alloc | apply Kd.S_drewN | apply Kd.S_drew)); exact HO_3.out) (Kd.R_base ho70) hb); have n1_ := Aside0.mk (Kd.R_lower ho70 (below_size (by repeat (first | (with_reducible first | exact HB.out | apply below_alloc | apply pw_below_drewN | apply below_drew1) | exact HB.out)))); have n2_ := Aside0.mk (below_step (by repeat (first | (with_reducible first | exact HB.out | apply below_alloc | apply pw_below_drewN | apply below_drew1) | exact HB.out)) hb); clear HO_3; clear HB; have HO_3 := n0_; have HO168 := n1_; have HB := n2_; clear n0_ n1_ n2_; clear hb ho70; have q71 : ((ji8) : Int) ≤ ((l0.length : Int) : Int) := of_decide_eq_true (by first | (with_reducible assumption) | assumption); obtain ⟨i071, hi071, _, hsz71, _⟩ := info_parts info71; have hroom71 : l0.length ≤ c0 := HC0.out; have hC71 : Kd.C k71 _ A0 l0.length l0 := HR0.out; have ql71 : (x4_1 : Int) ≤ ((ji8) : Int) := of_decide_eq_true (by first | (with_reducible assumption) | assumption); have q071 : (0 : Int) ≤ (x4_1 : Int) := of_decide_eq_true (by first | (with_reducible assumption) | assumption); have hcut71 := cut_mid (P := Try.prog) 32 71 .i64 .i64 Try.underlying32 hi071 2 hsz71 A0 l0.length c0 x4_1 (ji8) q071 ql71 q71 hroom71; have hr71 := Kd.C_mid (lo := (x4_1 : Int).toNat) (hi := ((ji8) : Int).toNat) (c := c0) hC71 (by omega) (by omega) hroom71; obtain ⟨A71, hA71⟩ : ∃ A1, A1 = (if c0 = (x4_1 : Int).toNat then A0 else (A0 : Option Addr).map (·.add ((x4_1 : Int).toNat * 2))) := ⟨_, rfl⟩; obtain ⟨c71, hc71⟩ : ∃ c1, c1 = c0 - (x4_1 : Int).toNat := ⟨_, rfl⟩; have hy71 : y169.length = ((ji8) : Int).toNat - (x4_1 : Int).toNat := (by rw [Ny169.out, List.length_drop, List.length_take] <;> omega); rw [show ((l0).take ((ji8) : Int).toNat).drop (x4_1 : Int).toNat = y169 from Ny169.out.symm] at hr71; replace hr71 : Kd.C k71 _ A71 y169.length y169 := (by rw [hA71]; exact hr71); rw [← hy71, ← hA71, ← hc71] at hcut71; have HR172 := Aside0.mk hr71; have HC172 := Aside0.mk (show y169.length ≤ c71 from by rw [hy71, hc71]; exact Nat.sub_le_sub_right (Nat.le_trans (by omega) hroom71) _); clear hr71 hC71 hroom71 hi071 hsz71 hc71; have KY71 := Aside0.mk hy71; have KA71 := Aside0.mk hA71; clear hy71 hA71; replace q71 := eq_true q71) | ((with_reducible refine gate_builtin (b := .append) (xs := #[.tmp 30, .tmp 34]) rfl ?_); (try (refine gate_guard (by rfl) ?_; dsimp only)); at_builtin; refine Kd.R_append_rows k71 (w0 := w) w.heap.size rfl (.tmp 30) (.tmp 34) 32 71 (.agg #[(.string ⟨#[]⟩), (.int .i64 0)]) 24 rfl Try.underlying32 info71 rfl (by decide) (by omega) v167 y166 y169 _ _ _ (fun _ => True) (fun _ => False) rfl rfl ?aO ?aR (fun _ _ h => h) (fun _ h => h.elim) ?aF ?aB ?aS ?aL ?_; (case aR => repeat (first | exact (Kd.C_below HR172.out HB.out) | (with_reducible refine Kd.C_alloc ?_ _) | (with_reducible refine Kd.C_drewN ?_ _) | (with_reducible refine Kd.C_drew ?_))); (case aB => exact (by repeat (first | (with_reducible first | exact HB.out | apply below_alloc | apply pw_below_drewN | apply below_drew1) | exact HB.out))); (case aF => exact (fun _ _ => trivial)); (case aO => exact (by (with_reducible repeat (first | apply Kd.R_alloc | apply Kd.R_drewN | apply Kd.R_drew)); exact HO168.out)); (case aS => exact (below_size (by repeat (first | (with_reducible first | exact HB.out | apply below_alloc | apply pw_below_drewN | apply below_drew1) | exact HB.out)))); (case aL => have := LMc49.out; omega); intro v174 w72 ho hb hg hat; rw [← Ny173.out] at ho; have n0_ := Aside0.mk (Kd.S_after (ok := (fun _ => True)) (by (with_reducible repeat (first | apply Kd.S_alloc | apply Kd.S_drewN | apply Kd.S_drew)); exact HO_3.out) hg hat); have n1_ := Aside0.mk (hb); have n2_ := Aside0.mk (ho); clear HO_3; clear HB; clear HO168; have HO_3 := n0_; have HB := n1_; have HO175 := n2_; clear n0_ n1_ n2_; clear ho hb hg hat; obtain ⟨Ao73, co73, eo73⟩ := Kd.R_slice HO175.out; subst eo73) | ((with_reducible refine gate_builtin (b := .append) (xs := #[.tmp 29, .tmp 37]) rfl ?_); (try (refine gate_guard (by rfl) ?_; dsimp only)); at_builtin; refine Kd.S_append k64 (w0 := w) w.heap.size rfl (.tmp 29) (.tmp 37) 34 64 (.agg #[(.slice none 0 0)]) 24 rfl Try.underlying34 info64 rfl (by decide) (by omega) u3 x3_1 (⟨y173⟩ : S64) [.slice Ao73 y173.length co73] (fun _ => True) (fun k_ => some k_ = (.slice Ao73 y173.length co73 : Value).ownBlock) rfl rfl ?aP (fun k_ hk_ => ((Kd.R_mono (ok' := fun k_ => ((fun _ => True)) k_ ∧ some k_ ≠ (u3 : Value).ownBlock) (Kd.R_apart' (HO175.out) (Kd.S_typed HO_3.out) (by decide)) (fun k_ hk => ⟨trivial, hk.2⟩))).1 k_ hk_.symm) ?aF ?aO ?aB ?aS ?aL ?_; (case aP => exact k64_mkM _ _ _ (⟨y173⟩ : S64) (Kd.R_mono (Kd.R_tight rfl (Kd.R_mono (ok' := fun k_ => ((fun _ => True)) k_ ∧ some k_ ≠ (u3 : Value).ownBlock) (Kd.R_apart' (HO175.out) (Kd.S_typed HO_3.out) (by decide)) (fun k_ hk => ⟨trivial, hk.2⟩))) (fun _ h_ => h_))); (case aB => exact (by repeat (first | (with_reducible first | exact HB.out | apply below_alloc | apply pw_below_drewN | apply below_drew1) | exact HB.out))); (case aF => exact (fun _ _ => trivial)); (case aO => exact (by (with_reducible repeat (first | apply Kd.S_alloc | apply Kd.S_drewN | apply Kd.S_drew)); exact Kd.S_mono HO_3.out (fun k_ hk => ⟨trivial, fun e_ => hk.2 e_⟩))); (case aS => exact (below_size (by repeat (first | (with_reducible first | exact HB.out | apply below_alloc | apply pw_below_drewN | apply below_drew1) | exact HB.out)))); (case aL => have := LMc50.out; omega); intro v177 w74 ho hb hg hat; rw [← Ny176.out] at ho; have n0_ := Aside0.mk (hb); have n1_ := Aside0.mk (ho); clear HB; clear HO_3; clear HO175; have HB := n0_; have HO178 := n1_; clear n0_ n1_; clear ho hb hg hat))
                          go_roundg k1
                          case measure => have := HK1.out; omega
                          case rel => exact ⟨(y176), (wrap64 (x4_1 + 4)), (by first | rfl | (simp; done) | (simp [bne]; done) | (simp [*]; done)), H', ⟨by have := HK1.out; omega⟩, ⟨by (with_reducible repeat (first | apply Kd.S_alloc | apply Kd.S_drewN | apply Kd.S_drew)); exact HO178.out⟩, ⟨by repeat (first | (with_reducible first | exact HB.out | apply below_alloc | apply pw_below_drewN | apply below_drew1) | exact HB.out)⟩⟩
                      · rw [if_neg c51] at H
                        have c51b0 : decide ((ji8) < (wrap64 (x4_1 + 4))) = false := decide_eq_false c51
                        clear c51
                        have H' := Aside0.mk H
                        clear H
                        go_wp2_with (first | ((with_reducible refine gate_dst (N := 30) rfl ?_); (try (refine gate_guard (by rfl) ?_; dsimp only)); refine Kd.R_lit k71 _ 71 ?hg (N := 30) ?hd (xs := ([] : List (S71))) (inner := []) (ok := fun _ => True) (okp := fun _ => True) ?hr ?hp (fun _ hk => hk) trivial (Below.refl _ _) (Nat.le_refl _) (by simp) ?_; (case hd => rfl); (case hg => rfl); (case hr => first | (go_simp; done) | (go_simp; rfl)); (case hp => exact (Reps.none _ _)); intro v167 w75 ho76 hb hg_ hnew_; clear hg_ hnew_; (first | rw [← Ny166.out] at ho76 | (simp only [Int.reduceToNat] at ho76; rw [← Ny166.out] at ho76)); have n0_ := Aside0.mk (Kd.S_elder' (by (with_reducible repeat (first | apply Kd.S_alloc | apply Kd.S_drewN | apply Kd.S_drew)); exact HO_3.out) (Kd.R_base ho76) hb); have n1_ := Aside0.mk (Kd.R_lower ho76 (below_size (by repeat (first | (with_reducible first | exact HB.out | apply below_alloc | apply pw_below_drewN | apply below_drew1) | exact HB.out)))); have n2_ := Aside0.mk (below_step (by repeat (first | (with_reducible first | exact HB.out | apply below_alloc | apply pw_below_drewN | apply below_drew1) | exact HB.out)) hb); clear HO_3; clear HB; have HO_3 := n0_; have HO168 := n1_; have HB := n2_; clear n0_ n1_ n2_; clear hb ho76; have q77 : ((ji8) : Int) ≤ ((l0.length : Int) : Int) := of_decide_eq_true (by first | (with_reducible assumption) | assumption); obtain ⟨i077, hi077, _, hsz77, _⟩ := info_parts info71; have hroom77 : l0.length ≤ c0 := HC0.out; have hC77 : Kd.C k71 _ A0 l0.length l0 := HR0.out; have ql77 : (x4_1 : Int) ≤ ((ji8) : Int) := of_decide_eq_true (by first | (with_reducible assumption) | assumption); have q077 : (0 : Int) ≤ (x4_1 : Int) := of_decide_eq_true (by first | (with_reducible assumption) | assumption); have hcut77 := cut_mid (P := Try.prog) 32 71 .i64 .i64 Try.underlying32 hi077 2 hsz77 A0 l0.length c0 x4_1 (ji8) q077 ql77 q77 hroom77; have hr77 := Kd.C_mid (lo := (x4_1 : Int).toNat) (hi := ((ji8) : Int).toNat) (c := c0) hC77 (by omega) (by omega) hroom77; obtain ⟨A77, hA77⟩ : ∃ A1, A1 = (if c0 = (x4_1 : Int).toNat then A0 else (A0 : Option Addr).map (·.add ((x4_1 : Int).toNat * 2))) := ⟨_, rfl⟩; obtain ⟨c77, hc77⟩ : ∃ c1, c1 = c0 - (x4_1 : Int).toNat := ⟨_, rfl⟩; have hy77 : y169.length = ((ji8) : Int).toNat - (x4_1 : Int).toNat := (by rw [Ny169.out, List.length_drop, List.length_take] <;> omega); rw [show ((l0).take ((ji8) : Int).toNat).drop (x4_1 : Int).toNat = y169 from Ny169.out.symm] at hr77; replace hr77 : Kd.C k71 _ A77 y169.length y169 := (by rw [hA77]; exact hr77); rw [← hy77, ← hA77, ← hc77] at hcut77; have HR172 := Aside0.mk hr77; have HC172 := Aside0.mk (show y169.length ≤ c77 from by rw [hy77, hc77]; exact Nat.sub_le_sub_right (Nat.le_trans (by omega) hroom77) _); clear hr77 hC77 hroom77 hi077 hsz77 hc77; have KY77 := Aside0.mk hy77; have KA77 := Aside0.mk hA77; clear hy77 hA77; replace q77 := eq_true q77) | ((with_reducible refine gate_builtin (b := .append) (xs := #[.tmp 30, .tmp 34]) rfl ?_); (try (refine gate_guard (by rfl) ?_; dsimp only)); at_builtin; refine Kd.R_append_rows k71 (w0 := w) w.heap.size rfl (.tmp 30) (.tmp 34) 32 71 (.agg #[(.string ⟨#[]⟩), (.int .i64 0)]) 24 rfl Try.underlying32 info71 rfl (by decide) (by omega) v167 y166 y169 _ _ _ (fun _ => True) (fun _ => False) rfl rfl ?aO ?aR (fun _ _ h => h) (fun _ h => h.elim) ?aF ?aB ?aS ?aL ?_; (case aR => repeat (first | exact (Kd.C_below HR172.out HB.out) | (with_reducible refine Kd.C_alloc ?_ _) | (with_reducible refine Kd.C_drewN ?_ _) | (with_reducible refine Kd.C_drew ?_))); (case aB => exact (by repeat (first | (with_reducible first | exact HB.out | apply below_alloc | apply pw_below_drewN | apply below_drew1) | exact HB.out))); (case aF => exact (fun _ _ => trivial)); (case aO => exact (by (with_reducible repeat (first | apply Kd.R_alloc | apply Kd.R_drewN | apply Kd.R_drew)); exact HO168.out)); (case aS => exact (below_size (by repeat (first | (with_reducible first | exact HB.out | apply below_alloc | apply pw_below_drewN | apply below_drew1) | exact HB.out)))); (case aL => have := LMc49.out; omega); intro v174 w78 ho hb hg hat; rw [← Ny173.out] at ho; have n0_ := Aside0.mk (Kd.S_after (ok := (fun _ => True)) (by (with_reducible repeat (first | apply Kd.S_alloc | apply Kd.S_drewN | apply Kd.S_drew)); exact HO_3.out) hg hat); have n1_ := Aside0.mk (hb); have n2_ := Aside0.mk (ho); clear HO_3; clear HB; clear HO168; have HO_3 := n0_; have HB := n1_; have HO175 := n2_; clear n0_ n1_ n2_; clear ho hb hg hat; obtain ⟨Ao79, co79, eo79⟩ := Kd.R_slice HO175.out; subst eo79) | ((with_reducible refine gate_builtin (b := .append) (xs := #[.tmp 29, .tmp 37]) rfl ?_); (try (refine gate_guard (by rfl) ?_; dsimp only)); at_builtin; refine Kd.S_append k64 (w0 := w) w.heap.size rfl (.tmp 29) (.tmp 37) 34 64 (.agg #[(.slice none 0 0)]) 24 rfl Try.underlying34 info64 rfl (by decide) (by omega) u3 x3_1 (⟨y173⟩ : S64) [.slice Ao79 y173.length co79] (fun _ => True) (fun k_ => some k_ = (.slice Ao79 y173.length co79 : Value).ownBlock) rfl rfl ?aP (fun k_ hk_ => ((Kd.R_mono (ok' := fun k_ => ((fun _ => True)) k_ ∧ some k_ ≠ (u3 : Value).ownBlock) (Kd.R_apart' (HO175.out) (Kd.S_typed HO_3.out) (by decide)) (fun k_ hk => ⟨trivial, hk.2⟩))).1 k_ hk_.symm) ?aF ?aO ?aB ?aS ?aL ?_; (case aP => exact k64_mkM _ _ _ (⟨y173⟩ : S64) (Kd.R_mono (Kd.R_tight rfl (Kd.R_mono (ok' := fun k_ => ((fun _ => True)) k_ ∧ some k_ ≠ (u3 : Value).ownBlock) (Kd.R_apart' (HO175.out) (Kd.S_typed HO_3.out) (by decide)) (fun k_ hk => ⟨trivial, hk.2⟩))) (fun _ h_ => h_))); (case aB => exact (by repeat (first | (with_reducible first | exact HB.out | apply below_alloc | apply pw_below_drewN | apply below_drew1) | exact HB.out))); (case aF => exact (fun _ _ => trivial)); (case aO => exact (by (with_reducible repeat (first | apply Kd.S_alloc | apply Kd.S_drewN | apply Kd.S_drew)); exact Kd.S_mono HO_3.out (fun k_ hk => ⟨trivial, fun e_ => hk.2 e_⟩))); (case aS => exact (below_size (by repeat (first | (with_reducible first | exact HB.out | apply below_alloc | apply pw_below_drewN | apply below_drew1) | exact HB.out)))); (case aL => have := LMc50.out; omega); intro v177 w80 ho hb hg hat; rw [← Ny176.out] at ho; have n0_ := Aside0.mk (hb); have n1_ := Aside0.mk (ho); clear HB; clear HO_3; clear HO175; have HB := n0_; have HO178 := n1_; clear n0_ n1_; clear ho hb hg hat))
                        go_roundg k1
                        case measure => have := HK1.out; omega
                        case rel => exact ⟨(y176), (wrap64 (x4_1 + 4)), (by first | rfl | (simp; done) | (simp [bne]; done) | (simp [*]; done)), H', ⟨by have := HK1.out; omega⟩, ⟨by (with_reducible repeat (first | apply Kd.S_alloc | apply Kd.S_drewN | apply Kd.S_drew)); exact HO178.out⟩, ⟨by repeat (first | (with_reducible first | exact HB.out | apply below_alloc | apply pw_below_drewN | apply below_drew1) | exact HB.out)⟩⟩
                    · rw [if_neg c50] at H
                      exact absurd H (by simp)
                  · rw [if_neg c49] at H
                    exact absurd H (by simp)
                · rw [if_neg c48] at H
                  exact absurd H (by simp)
              · rw [if_neg c47] at H
                exact absurd H (by simp)
            · rw [if_neg c46] at H
              exact absurd H (by simp)
        · rw [if_neg c7] at H
          have c7b0 : decide (x4_1 < (l0.length : Int)) = false := decide_eq_false c7
          clear c7
          obtain rfl := Option.some.inj H
          go_wp2
          go_ret
          exact ⟨_, by first | rfl | (simp only [u8_w_, w64_u8_]; done) | (simp only [u8_w_, w64_u8_]; rfl) | (simp [errW_none, errW_some] <;> rfl) | (simp [*, errW_none, errW_some] <;> rfl), by (with_reducible repeat (first | apply Kd.S_alloc | apply Kd.S_drewN | apply Kd.S_drew)); exact HO_3.out, by repeat (first | (with_reducible first | exact HB.out | apply below_alloc | apply pw_below_drewN | apply below_drew1) | exact HB.out)⟩
  · replace c3 := Bool.eq_false_iff.mpr c3
    subst c3
    have H1 : (some y136) = some r := by rw [if_neg (show ¬ (false = true) by decide)] at H; exact H
    clear H
    have H := H1
    clear H1
    obtain rfl := Option.some.inj H
    go_enter Try.func25, Try.ntmps25
    go_wp2_with (first | ((with_reducible refine gate_dst (N := 6) rfl ?_); (try (refine gate_guard (by rfl) ?_; dsimp only)); refine Kd.S_lit k64 _ 64 ?hg (N := 6) ?hd (xs := ([] : List (S64))) (inner := []) (ok := fun _ => True) (okp := fun _ => True) ?hr ?hp (fun _ hk => hk) trivial (Below.refl _ _) (Nat.le_refl _) (by simp) ?_; (case hd => rfl); (case hg => rfl); (case hr => first | (go_simp; done) | (go_simp; rfl)); (case hp => exact (Reps.none _ _)); intro v137 w81 ho82 hb hg_ hnew_; clear hg_ hnew_; (first | rw [← Ny136.out] at ho82 | (simp only [Int.reduceToNat] at ho82; rw [← Ny136.out] at ho82)); have n0_ := Aside0.mk (Kd.S_lower ho82 (below_size (by repeat (first | (with_reducible first | exact HB.out | apply below_alloc | apply pw_below_drewN | apply below_drew1) | exact HB.out)))); have n1_ := Aside0.mk (below_step (by repeat (first | (with_reducible first | exact HB.out | apply below_alloc | apply pw_below_drewN | apply below_drew1) | exact HB.out)) hb); clear HB; have HO138 := n0_; have HB := n1_; clear n0_ n1_; clear hb ho82) | ((with_reducible refine gate_callee (f := 69) rfl ?_); refine goesL_ (some 8) rfl rfl Try.func69 (by kernel_rfl) rfl #[.slice A0 l0.length c0] rfl (by (try simp only [List.map_toArray, List.map_cons, List.map_nil]); first | done | rfl | (simp only [List.length_drop, List.length_take]; rfl)) ?_; (with_reducible refine (spec_PairsValid.calls k _ _ l0 false _ ?side1 ?side2 A2.out).mono ?_); (case side1 => repeat (first | exact (Kd.C_below HR0.out HB.out) | (with_reducible refine Kd.C_alloc ?_ _) | (with_reducible refine Kd.C_drewN ?_ _) | (with_reducible refine Kd.C_drew ?_))); (case side2 => exact HC0.out); rintro e w83 ⟨rfl, hb⟩; refine ⟨_, rfl, ?_⟩; have n0_ := Aside0.mk (Kd.S_below (by (with_reducible repeat (first | apply Kd.S_alloc | apply Kd.S_drewN | apply Kd.S_drew)); exact HO138.out) hb); have n1_ := Aside0.mk (below_step (by repeat (first | (with_reducible first | exact HB.out | apply below_alloc | apply pw_below_drewN | apply below_drew1) | exact HB.out)) hb); clear HO138; clear HB; have HO138 := n0_; have HB := n1_; clear n0_ n1_; (try clear hb); (try clear hb2); (try clear hk); (try clear hi)))
    go_ret
    exact ⟨_, by first | rfl | (simp only [u8_w_, w64_u8_]; done) | (simp only [u8_w_, w64_u8_]; rfl) | (simp [errW_none, errW_some] <;> rfl) | (simp [*, errW_none, errW_some] <;> rfl), by (with_reducible repeat (first | apply Kd.S_alloc | apply Kd.S_drewN | apply Kd.S_drew)); exact HO138.out, by repeat (first | (with_reducible first | exact HB.out | apply below_alloc | apply pw_below_drewN | apply below_drew1) | exact HB.out)⟩

/-! ### laws_eqPair: function 80 -/
def laws_eqPair.f (a0_0 : ByteArray) (a0_1 : Int) (a1_0 : ByteArray) (a1_1 : Int) : Option (Bool) := if a0_0.toList = a1_0.toList then (if a0_1 = a1_1 then (some true) else (some false)) else (some false)
set_option maxHeartbeats 8000000 in
set_option maxRecDepth 100000 in
theorem laws_eqPair.calls (a0_0 : ByteArray) (a0_1 : Int) (a1_0 : ByteArray) (a1_1 : Int) (r : Bool) (w : World) (h : laws_eqPair.f a0_0 a0_1 a1_0 a1_1 = some r) :
    Calls Try.prog 80 #[.agg #[.string a0_0, .int .i64 a0_1], .agg #[.string a1_0, .int .i64 a1_1]] w fun e w' => e = .returned (.bool r) ∧ Below w.heap.size w w' := by
  have hu71 := Try.underlying71
  have HB := Aside0.mk (Below.refl w.heap.size w)
  have H : (if a0_0.toList = a1_0.toList then (if a0_1 = a1_1 then (some true) else (some false)) else (some false)) = some r := h
  clear h
  by_cases c3 : a0_0.toList = a1_0.toList
  · rw [if_pos c3] at H
    have c3b0 : (a0_0.toList == a1_0.toList) = true := beq_iff_eq.mpr c3
    have c3b1 : (a0_0.toList != a1_0.toList) = false := bne_eq_false_iff_eq.mpr c3
    clear c3
    by_cases c4 : a0_1 = a1_1
    · rw [if_pos c4] at H
      have c4b0 : (a0_1 == a1_1) = true := beq_iff_eq.mpr c4
      have c4b1 : (a0_1 != a1_1) = false := bne_eq_false_iff_eq.mpr c4
      clear c4
      obtain rfl := Option.some.inj H
      go_enter Try.func80, Try.ntmps80
      go_wp2_with (first | ((with_reducible refine gate_dst (N := 2) rfl ?_); refine box_event ?hg (N := 2) ?hd (cs := #[.string a0_0, .int .i64 a0_1]) (t := 71) ?hr ?_; (case hd => rfl); (case hg => rfl); (case hr => first | (go_simp; done) | (go_simp; rfl)); intro gb192 hg w5 hbox hb; have n0_ := Aside0.mk (below_step (by repeat (first | (with_reducible first | exact HB.out | apply below_alloc | apply pw_below_drewN | apply below_drew1) | exact HB.out)) hb); have n1_ := Aside0.mk (hbox); have n2_ := Aside0.mk ((by rw [hg]; exact (below_size (by repeat (first | (with_reducible first | exact HB.out | apply below_alloc | apply pw_below_drewN | apply below_drew1) | exact HB.out))) : w.heap.size ≤ gb192)); have n3_ := Aside0.mk ((by rw [hg]; exact (below_size (by repeat (first | (with_reducible first | exact HB.out | apply below_alloc | apply pw_below_drewN | apply below_drew1) | exact HB.out))) : w.heap.size ≤ gb192)); clear HB; have HB := n0_; have BK192 := n1_; have GW192 := n2_; have GE192 := n3_; clear n0_ n1_ n2_ n3_; clear hb hbox hg) | ((with_reducible refine gate_dst (N := 3) rfl ?_); refine box_event ?hg (N := 3) ?hd (cs := #[.string a1_0, .int .i64 a1_1]) (t := 71) ?hr ?_; (case hd => rfl); (case hg => rfl); (case hr => first | (go_simp; done) | (go_simp; rfl)); intro gb193 hg w6 hbox hb; have n0_ := Aside0.mk (blk_below (g := gb192) (o := .cells #[.string a0_0, .int .i64 a0_1] 71 (0, 0)) (by (with_reducible repeat (first | refine blk_drewN ?_ _ | refine blk_drew ?_ | refine blk_alloc ?_ _)); exact BK192.out) hb); have n1_ := Aside0.mk (below_step (by repeat (first | (with_reducible first | exact HB.out | apply below_alloc | apply pw_below_drewN | apply below_drew1 | refine below_set ?_ GE192.out) | exact HB.out)) hb); have n2_ := Aside0.mk (hbox); have n3_ := Aside0.mk ((by rw [hg]; exact (below_size (by repeat (first | (with_reducible first | exact HB.out | apply below_alloc | apply pw_below_drewN | apply below_drew1 | refine below_set ?_ GE192.out) | exact HB.out))) : w.heap.size ≤ gb193)); have n4_ := Aside0.mk ((by rw [hg]; exact (below_size (by repeat (first | (with_reducible first | exact HB.out | apply below_alloc | apply pw_below_drewN | apply below_drew1 | refine below_set ?_ GE192.out) | exact HB.out))) : w.heap.size ≤ gb193)); have n5_ := Aside0.mk ((by rw [hg]; exact Nat.ne_of_lt (blk_lt (g := gb192) (o := .cells #[.string a0_0, .int .i64 a0_1] 71 (0, 0)) (by (with_reducible repeat (first | refine blk_drewN ?_ _ | refine blk_drew ?_ | refine blk_alloc ?_ _)); exact BK192.out)) : gb192 ≠ gb193)); have n6_ := Aside0.mk ((by rw [hg]; exact Nat.ne_of_gt (blk_lt (g := gb192) (o := .cells #[.string a0_0, .int .i64 a0_1] 71 (0, 0)) (by (with_reducible repeat (first | refine blk_drewN ?_ _ | refine blk_drew ?_ | refine blk_alloc ?_ _)); exact BK192.out)) : gb193 ≠ gb192)); clear BK192; clear HB; have BK192 := n0_; have HB := n1_; have BK193 := n2_; have GW193 := n3_; have GE193 := n4_; have NB192_193 := n5_; have NB193_192 := n6_; clear n0_ n1_ n2_ n3_ n4_ n5_ n6_; clear hb hbox hg; have hnb7 := NB192_193.out; have hnc7 := NB193_192.out; have hcz8_0 : w6.cell? ⟨gb192, 0, none⟩ = some (.string a0_0) := (blk_cell BK192.out 0).trans rfl; have hcz8_1 : w6.cell? ⟨gb192, 1, none⟩ = some (.int .i64 a0_1) := (blk_cell BK192.out 1).trans rfl; have hfz8_0 := blk_frozen BK192.out 0; have hfz8_1 := blk_frozen BK192.out 1; have hcz9_0 : w6.cell? ⟨gb193, 0, none⟩ = some (.string a1_0) := (blk_cell BK193.out 0).trans rfl; have hcz9_1 : w6.cell? ⟨gb193, 1, none⟩ = some (.int .i64 a1_1) := (blk_cell BK193.out 1).trans rfl; have hfz9_0 := blk_frozen BK193.out 0; have hfz9_1 := blk_frozen BK193.out 1))
      go_ret
      exact ⟨by first | rfl | (simp only [u8_w_, w64_u8_]; done) | (simp only [u8_w_, w64_u8_]; rfl) | (simp [errW_none, errW_some] <;> rfl) | (simp [*, errW_none, errW_some] <;> rfl), by repeat (first | (with_reducible first | exact HB.out | apply below_alloc | apply pw_below_drewN | apply below_drew1 | refine below_set ?_ GE192.out | refine below_set ?_ GE193.out) | exact HB.out)⟩
    · rw [if_neg c4] at H
      have c4b0 : (a0_1 == a1_1) = false := beq_eq_false_iff_ne.mpr c4
      have c4b1 : (a0_1 != a1_1) = true := bne_iff_ne.mpr c4
      obtain rfl := Option.some.inj H
      go_enter Try.func80, Try.ntmps80
      go_wp2_with (first | ((with_reducible refine gate_dst (N := 2) rfl ?_); refine box_event ?hg (N := 2) ?hd (cs := #[.string a0_0, .int .i64 a0_1]) (t := 71) ?hr ?_; (case hd => rfl); (case hg => rfl); (case hr => first | (go_simp; done) | (go_simp; rfl)); intro gb192 hg w10 hbox hb; have n0_ := Aside0.mk (below_step (by repeat (first | (with_reducible first | exact HB.out | apply below_alloc | apply pw_below_drewN | apply below_drew1) | exact HB.out)) hb); have n1_ := Aside0.mk (hbox); have n2_ := Aside0.mk ((by rw [hg]; exact (below_size (by repeat (first | (with_reducible first | exact HB.out | apply below_alloc | apply pw_below_drewN | apply below_drew1) | exact HB.out))) : w.heap.size ≤ gb192)); have n3_ := Aside0.mk ((by rw [hg]; exact (below_size (by repeat (first | (with_reducible first | exact HB.out | apply below_alloc | apply pw_below_drewN | apply below_drew1) | exact HB.out))) : w.heap.size ≤ gb192)); clear HB; have HB := n0_; have BK192 := n1_; have GW192 := n2_; have GE192 := n3_; clear n0_ n1_ n2_ n3_; clear hb hbox hg) | ((with_reducible refine gate_dst (N := 3) rfl ?_); refine box_event ?hg (N := 3) ?hd (cs := #[.string a1_0, .int .i64 a1_1]) (t := 71) ?hr ?_; (case hd => rfl); (case hg => rfl); (case hr => first | (go_simp; done) | (go_simp; rfl)); intro gb193 hg w11 hbox hb; have n0_ := Aside0.mk (blk_below (g := gb192) (o := .cells #[.string a0_0, .int .i64 a0_1] 71 (0, 0)) (by (with_reducible repeat (first | refine blk_drewN ?_ _ | refine blk_drew ?_ | refine blk_alloc ?_ _)); exact BK192.out) hb); have n1_ := Aside0.mk (below_step (by repeat (first | (with_reducible first | exact HB.out | apply below_alloc | apply pw_below_drewN | apply below_drew1 | refine below_set ?_ GE192.out) | exact HB.out)) hb); have n2_ := Aside0.mk (hbox); have n3_ := Aside0.mk ((by rw [hg]; exact (below_size (by repeat (first | (with_reducible first | exact HB.out | apply below_alloc | apply pw_below_drewN | apply below_drew1 | refine below_set ?_ GE192.out) | exact HB.out))) : w.heap.size ≤ gb193)); have n4_ := Aside0.mk ((by rw [hg]; exact (below_size (by repeat (first | (with_reducible first | exact HB.out | apply below_alloc | apply pw_below_drewN | apply below_drew1 | refine below_set ?_ GE192.out) | exact HB.out))) : w.heap.size ≤ gb193)); have n5_ := Aside0.mk ((by rw [hg]; exact Nat.ne_of_lt (blk_lt (g := gb192) (o := .cells #[.string a0_0, .int .i64 a0_1] 71 (0, 0)) (by (with_reducible repeat (first | refine blk_drewN ?_ _ | refine blk_drew ?_ | refine blk_alloc ?_ _)); exact BK192.out)) : gb192 ≠ gb193)); have n6_ := Aside0.mk ((by rw [hg]; exact Nat.ne_of_gt (blk_lt (g := gb192) (o := .cells #[.string a0_0, .int .i64 a0_1] 71 (0, 0)) (by (with_reducible repeat (first | refine blk_drewN ?_ _ | refine blk_drew ?_ | refine blk_alloc ?_ _)); exact BK192.out)) : gb193 ≠ gb192)); clear BK192; clear HB; have BK192 := n0_; have HB := n1_; have BK193 := n2_; have GW193 := n3_; have GE193 := n4_; have NB192_193 := n5_; have NB193_192 := n6_; clear n0_ n1_ n2_ n3_ n4_ n5_ n6_; clear hb hbox hg; have hnb12 := NB192_193.out; have hnc12 := NB193_192.out; have hcz13_0 : w11.cell? ⟨gb192, 0, none⟩ = some (.string a0_0) := (blk_cell BK192.out 0).trans rfl; have hcz13_1 : w11.cell? ⟨gb192, 1, none⟩ = some (.int .i64 a0_1) := (blk_cell BK192.out 1).trans rfl; have hfz13_0 := blk_frozen BK192.out 0; have hfz13_1 := blk_frozen BK192.out 1; have hcz14_0 : w11.cell? ⟨gb193, 0, none⟩ = some (.string a1_0) := (blk_cell BK193.out 0).trans rfl; have hcz14_1 : w11.cell? ⟨gb193, 1, none⟩ = some (.int .i64 a1_1) := (blk_cell BK193.out 1).trans rfl; have hfz14_0 := blk_frozen BK193.out 0; have hfz14_1 := blk_frozen BK193.out 1))
      go_ret
      exact ⟨by first | rfl | (simp only [u8_w_, w64_u8_]; done) | (simp only [u8_w_, w64_u8_]; rfl) | (simp [errW_none, errW_some] <;> rfl) | (simp [*, errW_none, errW_some] <;> rfl), by repeat (first | (with_reducible first | exact HB.out | apply below_alloc | apply pw_below_drewN | apply below_drew1 | refine below_set ?_ GE192.out | refine below_set ?_ GE193.out) | exact HB.out)⟩
  · rw [if_neg c3] at H
    have c3b0 : (a0_0.toList == a1_0.toList) = false := beq_eq_false_iff_ne.mpr c3
    have c3b1 : (a0_0.toList != a1_0.toList) = true := bne_iff_ne.mpr c3
    obtain rfl := Option.some.inj H
    go_enter Try.func80, Try.ntmps80
    go_wp2_with (first | ((with_reducible refine gate_dst (N := 2) rfl ?_); refine box_event ?hg (N := 2) ?hd (cs := #[.string a0_0, .int .i64 a0_1]) (t := 71) ?hr ?_; (case hd => rfl); (case hg => rfl); (case hr => first | (go_simp; done) | (go_simp; rfl)); intro gb192 hg w15 hbox hb; have n0_ := Aside0.mk (below_step (by repeat (first | (with_reducible first | exact HB.out | apply below_alloc | apply pw_below_drewN | apply below_drew1) | exact HB.out)) hb); have n1_ := Aside0.mk (hbox); have n2_ := Aside0.mk ((by rw [hg]; exact (below_size (by repeat (first | (with_reducible first | exact HB.out | apply below_alloc | apply pw_below_drewN | apply below_drew1) | exact HB.out))) : w.heap.size ≤ gb192)); have n3_ := Aside0.mk ((by rw [hg]; exact (below_size (by repeat (first | (with_reducible first | exact HB.out | apply below_alloc | apply pw_below_drewN | apply below_drew1) | exact HB.out))) : w.heap.size ≤ gb192)); clear HB; have HB := n0_; have BK192 := n1_; have GW192 := n2_; have GE192 := n3_; clear n0_ n1_ n2_ n3_; clear hb hbox hg) | ((with_reducible refine gate_dst (N := 3) rfl ?_); refine box_event ?hg (N := 3) ?hd (cs := #[.string a1_0, .int .i64 a1_1]) (t := 71) ?hr ?_; (case hd => rfl); (case hg => rfl); (case hr => first | (go_simp; done) | (go_simp; rfl)); intro gb193 hg w16 hbox hb; have n0_ := Aside0.mk (blk_below (g := gb192) (o := .cells #[.string a0_0, .int .i64 a0_1] 71 (0, 0)) (by (with_reducible repeat (first | refine blk_drewN ?_ _ | refine blk_drew ?_ | refine blk_alloc ?_ _)); exact BK192.out) hb); have n1_ := Aside0.mk (below_step (by repeat (first | (with_reducible first | exact HB.out | apply below_alloc | apply pw_below_drewN | apply below_drew1 | refine below_set ?_ GE192.out) | exact HB.out)) hb); have n2_ := Aside0.mk (hbox); have n3_ := Aside0.mk ((by rw [hg]; exact (below_size (by repeat (first | (with_reducible first | exact HB.out | apply below_alloc | apply pw_below_drewN | apply below_drew1 | refine below_set ?_ GE192.out) | exact HB.out))) : w.heap.size ≤ gb193)); have n4_ := Aside0.mk ((by rw [hg]; exact (below_size (by repeat (first | (with_reducible first | exact HB.out | apply below_alloc | apply pw_below_drewN | apply below_drew1 | refine below_set ?_ GE192.out) | exact HB.out))) : w.heap.size ≤ gb193)); have n5_ := Aside0.mk ((by rw [hg]; exact Nat.ne_of_lt (blk_lt (g := gb192) (o := .cells #[.string a0_0, .int .i64 a0_1] 71 (0, 0)) (by (with_reducible repeat (first | refine blk_drewN ?_ _ | refine blk_drew ?_ | refine blk_alloc ?_ _)); exact BK192.out)) : gb192 ≠ gb193)); have n6_ := Aside0.mk ((by rw [hg]; exact Nat.ne_of_gt (blk_lt (g := gb192) (o := .cells #[.string a0_0, .int .i64 a0_1] 71 (0, 0)) (by (with_reducible repeat (first | refine blk_drewN ?_ _ | refine blk_drew ?_ | refine blk_alloc ?_ _)); exact BK192.out)) : gb193 ≠ gb192)); clear BK192; clear HB; have BK192 := n0_; have HB := n1_; have BK193 := n2_; have GW193 := n3_; have GE193 := n4_; have NB192_193 := n5_; have NB193_192 := n6_; clear n0_ n1_ n2_ n3_ n4_ n5_ n6_; clear hb hbox hg; have hnb17 := NB192_193.out; have hnc17 := NB193_192.out; have hcz18_0 : w16.cell? ⟨gb192, 0, none⟩ = some (.string a0_0) := (blk_cell BK192.out 0).trans rfl; have hcz18_1 : w16.cell? ⟨gb192, 1, none⟩ = some (.int .i64 a0_1) := (blk_cell BK192.out 1).trans rfl; have hfz18_0 := blk_frozen BK192.out 0; have hfz18_1 := blk_frozen BK192.out 1; have hcz19_0 : w16.cell? ⟨gb193, 0, none⟩ = some (.string a1_0) := (blk_cell BK193.out 0).trans rfl; have hcz19_1 : w16.cell? ⟨gb193, 1, none⟩ = some (.int .i64 a1_1) := (blk_cell BK193.out 1).trans rfl; have hfz19_0 := blk_frozen BK193.out 0; have hfz19_1 := blk_frozen BK193.out 1))
    go_ret
    exact ⟨by first | rfl | (simp only [u8_w_, w64_u8_]; done) | (simp only [u8_w_, w64_u8_]; rfl) | (simp [errW_none, errW_some] <;> rfl) | (simp [*, errW_none, errW_some] <;> rfl), by repeat (first | (with_reducible first | exact HB.out | apply below_alloc | apply pw_below_drewN | apply below_drew1 | refine below_set ?_ GE192.out | refine below_set ?_ GE193.out) | exact HB.out)⟩

/-! ### laws_eqPairS: function 39 -/
def laws_eqPairS.l0 : Nat → List (S71) → List (S71) → Int → Option (Bool)
  | 0, _, _, _ => none
  | k + 1, x0, x1, x5 => if x5 < (x0.length : Int) then (if 0 ≤ x5 then (if x5 < (x1.length : Int) then ((laws_eqPair.f ((rd_T71 x0 x5).f0) ((rd_T71 x0 x5).f1) ((rd_T71 x1 x5).f0) ((rd_T71 x1 x5).f1)).bind fun t196 => (if t196 = true then (laws_eqPairS.l0 k x0 x1 (wrap64 (x5 + 1))) else (some false))) else (none)) else (none)) else (some true)
def laws_eqPairS.f (k : Nat) (l0 : List (S71)) (l1 : List (S71)) : Option (Bool) := if (l0.length : Int) = (l1.length : Int) then (laws_eqPairS.l0 k l0 l1 0) else (some false)
theorem laws_eqPairS.mono_l : ∀ k, (∀ y0 y1 y2, LeO (laws_eqPairS.l0 k y0 y1 y2) (laws_eqPairS.l0 (k + 1) y0 y1 y2))
  | 0 => fun _ _ _ r h => by simp [laws_eqPairS.l0] at h
  | k + 1 => by
    have ih0 := laws_eqPairS.mono_l k
    · intro y0 y1 y2
      unfold laws_eqPairS.l0
      repeat' first
      | (with_reducible exact ih0 _ _ _)
      | (with_reducible exact LeO.refl _)
      | (with_reducible exact LeO.none _)
      | (with_reducible refine LeO.ite ?_ ?_)
      | (with_reducible refine LeO.bind ?_ (fun _ => ?_))
      | exact ih0 _ _ _
      | exact LeO.none _
      | refine LeO.ite ?_ ?_
      | refine LeO.bind ?_ (fun _ => ?_)
theorem laws_eqPairS.mono : ∀ a0 a1 k, LeO (laws_eqPairS.f k a0 a1) (laws_eqPairS.f (k + 1) a0 a1) := by
  intro a0 a1 k
  have ih0 := laws_eqPairS.mono_l k
  unfold laws_eqPairS.f
  repeat' first
      | (with_reducible exact ih0 _ _ _)
      | (with_reducible exact LeO.refl _)
      | (with_reducible exact LeO.none _)
      | (with_reducible refine LeO.ite ?_ ?_)
      | (with_reducible refine LeO.bind ?_ (fun _ => ?_))
      | exact ih0 _ _ _
      | exact LeO.none _
      | refine LeO.ite ?_ ?_
      | refine LeO.bind ?_ (fun _ => ?_)
def laws_eqPairS.T6 : Bool × List (List Nat × List Nat) := (true, [([], []), ([], []), ([0, 1], [0, 1]), ([2], [2]), ([], []), ([], []), ([4, 5], [4, 5]), ([6], [6]), ([3, 7], [3, 7]), ([8], [8])])
def laws_eqPairS.B6 : List Nat := [0, 0, 3, 7, 0, 0, 48, 112, 255, 511]
theorem laws_eqPairS.tab6 : rtab .any (opsOf Try.f39 6) = laws_eqPairS.T6 := by kernel_rfl
theorem laws_eqPairS.bits6 : waitsOk laws_eqPairS.T6.2 laws_eqPairS.B6 = true := by kernel_rfl
set_option maxHeartbeats 8000000 in
set_option maxRecDepth 100000 in
theorem laws_eqPairS.calls (k : Nat) (A0 : Option Addr) (c0 : Nat) (l0 : List (S71)) (A1 : Option Addr) (c1 : Nat) (l1 : List (S71)) (r : Bool) (w : World) (hr0 : Kd.C k71 w A0 l0.length l0) (hc0 : l0.length ≤ c0) (hr1 : Kd.C k71 w A1 l1.length l1) (hc1 : l1.length ≤ c1) (h : laws_eqPairS.f k l0 l1 = some r) :
    Calls Try.prog 39 #[.slice A0 l0.length c0, .slice A1 l1.length c1] w fun e w' => e = .returned (.bool r) ∧ Below w.heap.size w w' := by
  have hu71 := Try.underlying71
  have HR0 := Aside0.mk hr0
  have HC0 := Aside0.mk hc0
  clear hr0 hc0
  have HR1 := Aside0.mk hr1
  have HC1 := Aside0.mk hc1
  clear hr1 hc1
  have HB := Aside0.mk (Below.refl w.heap.size w)
  have H : (if (l0.length : Int) = (l1.length : Int) then (laws_eqPairS.l0 k l0 l1 0) else (some false)) = some r := h
  clear h
  by_cases c3 : (l0.length : Int) = (l1.length : Int)
  · rw [if_pos c3] at H
    have c3b0 : ((l0.length : Int) == (l1.length : Int)) = true := beq_iff_eq.mpr c3
    have c3b1 : ((l0.length : Int) != (l1.length : Int)) = false := bne_eq_false_iff_eq.mpr c3
    have c3b2 : (l0.length == l1.length) = true := by first | simpa using c3 | (simp at c3 ⊢; omega)
    clear c3
    have H' := Aside0.mk H
    clear H
    go_enter Try.func39, Try.ntmps39
    go_wp2
    go_loopg [5] k (fun kq v5 w' => ∃ (x5_1 : Int), v5 = .int .i64 x5_1 ∧ Aside0 (laws_eqPairS.l0 kq l0 l1 x5_1 = some r) ∧ Aside0 (kq ≤ k) ∧ Aside0 (Below w.heap.size w w'))
    case atStart => exact ⟨(0), (by first | rfl | (simp; done) | (simp [bne]; done) | (simp [*]; done)), H', ⟨Nat.le_refl _⟩, ⟨by repeat (first | (with_reducible first | exact HB.out | apply below_alloc | apply pw_below_drewN | apply below_drew1) | exact HB.out)⟩⟩
    case round =>
      clear H'
      try clear c1
      try clear p2
      try clear c3
      try clear c3b0
      try clear c3b1
      try clear c3b2
      obtain ⟨x5_1, rfl, HA, HK1, HB⟩ := hrel
      cases gk with
      | zero => exact absurd HA.out (by simp [laws_eqPairS.l0])
      | succ k1 =>
        have H := HA.out
        clear HA
        simp only [laws_eqPairS.l0] at H
        by_cases c4 : x5_1 < (l0.length : Int)
        · rw [if_pos c4] at H
          have c4b0 : decide (x5_1 < (l0.length : Int)) = true := decide_eq_true c4
          clear c4
          by_cases c5 : 0 ≤ x5_1
          · rw [if_pos c5] at H
            have c5b0 : decide (0 ≤ x5_1) = true := decide_eq_true c5
            clear c5
            by_cases c6 : x5_1 < (l1.length : Int)
            · rw [if_pos c6] at H
              have c6b0 : decide (x5_1 < (l1.length : Int)) = true := decide_eq_true c6
              clear c6
              replace H := Option.bind_eq_some_iff.mp H
              obtain ⟨t196, A70, H⟩ := H
              replace H : (if t196 = true then (laws_eqPairS.l0 k1 l0 l1 (wrap64 (x5_1 + 1))) else (some false)) = some r := H
              have A7 := Aside0.mk A70
              clear A70
              by_cases c8 : t196 = true
              · subst c8
                have H1 : (laws_eqPairS.l0 k1 l0 l1 (wrap64 (x5_1 + 1))) = some r := by rw [if_pos rfl] at H; exact H
                clear H
                have H := H1
                clear H1
                have H' := Aside0.mk H
                clear H
                try go_wp2
                have n0_ := Aside0.mk (below_drew1 HB.out)
                clear HB
                have HB := n0_
                clear n0_
                have p194 : 0 ≤ (x5_1 : Int) := of_decide_eq_true (by first | (with_reducible assumption) | assumption)
                have q194 : x5_1 < (l0.length : Int) := of_decide_eq_true (by first | (with_reducible assumption) | assumption)
                obtain ⟨ad194, e194, hx194_0, hx194_1⟩ := at_T71 HR0.out x5_1 p194 q194
                have hw194_1 := hx194_1
                have hw194_0 := hx194_0
                cases e194
                replace hx194_0 := (HB.out.cell (World.block_lt_of_cell? w _ hx194_0)).trans hx194_0
                replace hx194_1 := (HB.out.cell (World.block_lt_of_cell? w _ hx194_1)).trans hx194_1
                replace p194 := eq_true p194
                replace q194 := eq_true q194
                have p195 : 0 ≤ (x5_1 : Int) := of_decide_eq_true (by first | (with_reducible assumption) | assumption)
                have q195 : x5_1 < (l1.length : Int) := of_decide_eq_true (by first | (with_reducible assumption) | assumption)
                obtain ⟨ad195, e195, hx195_0, hx195_1⟩ := at_T71 HR1.out x5_1 p195 q195
                have hw195_1 := hx195_1
                have hw195_0 := hx195_0
                cases e195
                replace hx195_0 := (HB.out.cell (World.block_lt_of_cell? w _ hx195_0)).trans hx195_0
                replace hx195_1 := (HB.out.cell (World.block_lt_of_cell? w _ hx195_1)).trans hx195_1
                replace p195 := eq_true p195
                replace q195 := eq_true q195
                refine start_ (n := 10) (S := fun w' => w'.cell? (ad194.add ((x5_1).toNat * 2)) = some (.string ((rd_T71 l0 x5_1).f0)) ∧ w'.cell? ⟨(ad194.add ((x5_1).toNat * 2)).block, (ad194.add ((x5_1).toNat * 2)).off + 1, none⟩ = some (.int .i64 ((rd_T71 l0 x5_1).f1)) ∧ w'.cell? (ad195.add ((x5_1).toNat * 2)) = some (.string ((rd_T71 l1 x5_1).f0)) ∧ w'.cell? ⟨(ad195.add ((x5_1).toNat * 2)).block, (ad195.add ((x5_1).toNat * 2)).off + 1, none⟩ = some (.int .i64 ((rd_T71 l1 x5_1).f1))) (ds := []) #[false, false, false, false, false, false, false, false, false, false] (by kernel_rfl) rfl rfl ⟨((HB.out.cell (World.block_lt_of_cell? w _ hw194_0)).trans hw194_0), ((HB.out.cell (World.block_lt_of_cell? w _ hw194_1)).trans hw194_1), ((HB.out.cell (World.block_lt_of_cell? w _ hw195_0)).trans hw195_0), ((HB.out.cell (World.block_lt_of_cell? w _ hw195_1)).trans hw195_1)⟩ (fun hHeld => ?_); refine with_tabW laws_eqPairS.tab6 laws_eqPairS.bits6 (fun HT_ HW_ => ?_)
                generalize wr.drew = w9 at HB hx194_0 hx194_1 hx195_0 hx195_1 hHeld ⊢
                refine pure_ (i := 0) (N := some 17) (v := ?_) (a' := ?_) #[true, false, false, false, false, false, false, false, false, false] rfl rfl (any_of HT_.out (by kernel_rfl)) (fun _ _ _ h => h) (Or.inl ⟨by rfl, ?_⟩) ?_ ?_
                rotate_left
                · intro w'
                  go_simp
                  with_reducible rfl
                rotate_left
                · simp only [Act.put, List.setIfInBounds_toArray, List.set_cons_zero, List.set_cons_succ, i64_w, i32_w]
                  rfl
                refine pure_ (i := 1) (N := some 18) (v := ?_) (a' := ?_) #[true, true, false, false, false, false, false, false, false, false] rfl rfl (any_of HT_.out (by kernel_rfl)) (fun _ _ _ h => h) (Or.inl ⟨by rfl, ?_⟩) ?_ ?_
                rotate_left
                · intro w'
                  go_simp
                  with_reducible rfl
                rotate_left
                · simp only [Act.put, List.setIfInBounds_toArray, List.set_cons_zero, List.set_cons_succ, i64_w, i32_w]
                  rfl
                refine pure_ (i := 2) (N := some 19) (v := ?_) (a' := ?_) #[true, true, true, false, false, false, false, false, false, false] rfl rfl (any_of HT_.out (by kernel_rfl)) (fun _ _ _ h => h) (Or.inl ⟨by rfl, ?_⟩) ?_ ?_
                rotate_left
                · intro w'
                  go_simp
                  with_reducible rfl
                rotate_left
                · simp only [Act.put, List.setIfInBounds_toArray, List.set_cons_zero, List.set_cons_succ, i64_w, i32_w]
                  rfl
                refine pure_ (i := 4) (N := some 21) (v := ?_) (a' := ?_) #[true, true, true, false, true, false, false, false, false, false] rfl rfl (any_of HT_.out (by kernel_rfl)) (fun _ _ _ h => h) (Or.inl ⟨by rfl, ?_⟩) ?_ ?_
                rotate_left
                · intro w'
                  go_simp
                  with_reducible rfl
                rotate_left
                · simp only [Act.put, List.setIfInBounds_toArray, List.set_cons_zero, List.set_cons_succ, i64_w, i32_w]
                  rfl
                refine pure_ (i := 5) (N := some 22) (v := ?_) (a' := ?_) #[true, true, true, false, true, true, false, false, false, false] rfl rfl (any_of HT_.out (by kernel_rfl)) (fun _ _ _ h => h) (Or.inl ⟨by rfl, ?_⟩) ?_ ?_
                rotate_left
                · intro w'
                  go_simp
                  with_reducible rfl
                rotate_left
                · simp only [Act.put, List.setIfInBounds_toArray, List.set_cons_zero, List.set_cons_succ, i64_w, i32_w]
                  rfl
                refine pure_ (i := 6) (N := some 23) (v := ?_) (a' := ?_) #[true, true, true, false, true, true, true, false, false, false] rfl rfl (any_of HT_.out (by kernel_rfl)) (fun _ _ _ h => h) (Or.inl ⟨by rfl, ?_⟩) ?_ ?_
                rotate_left
                · intro w'
                  go_simp
                  with_reducible rfl
                rotate_left
                · simp only [Act.put, List.setIfInBounds_toArray, List.set_cons_zero, List.set_cons_succ, i64_w, i32_w]
                  rfl
                refine take_ (i := 3) (N := some 20) (v := ?_) (a' := ?_) #[true, true, true, true, true, true, true, false, false, false] rfl rfl (take_ofW HT_.out HW_.out (by kernel_rfl)) (fun _ _ _ h => h) (Or.inl ⟨by rfl, ?_⟩) hHeld ?_ ?_
                rotate_left
                · rintro w' ⟨s0, s1, s2, s3⟩
                  go_simp
                  with_reducible rfl
                rotate_left
                · simp only [Act.put, List.setIfInBounds_toArray, List.set_cons_zero, List.set_cons_succ, i64_w, i32_w]
                  rfl
                refine take_ (i := 7) (N := some 24) (v := ?_) (a' := ?_) #[true, true, true, true, true, true, true, true, false, false] rfl rfl (take_ofW HT_.out HW_.out (by kernel_rfl)) (fun _ _ _ h => h) (Or.inl ⟨by rfl, ?_⟩) hHeld ?_ ?_
                rotate_left
                · rintro w' ⟨s0, s1, s2, s3⟩
                  go_simp
                  with_reducible rfl
                rotate_left
                · simp only [Act.put, List.setIfInBounds_toArray, List.set_cons_zero, List.set_cons_succ, i64_w, i32_w]
                  rfl
                refine one_ (i := 8) (N := some 25) #[true, true, true, true, true, true, true, true, true, false] rfl rfl (one_of HT_.out (by kernel_rfl)) (by decide) (fun K hK => ?_)
                refine goes_ Try.func80 (by kernel_rfl) rfl #[.agg #[.string ((rd_T71 l0 x5_1).f0), .int .i64 ((rd_T71 l0 x5_1).f1)], .agg #[.string ((rd_T71 l1 x5_1).f0), .int .i64 ((rd_T71 l1 x5_1).f1)]] (by rfl) rfl rfl (by (try simp only [List.map_toArray, List.map_cons, List.map_nil]); first | done | rfl | (simp only [List.length_drop, List.length_take]; rfl)) ?_
                with_reducible refine (laws_eqPair.calls ((rd_T71 l0 x5_1).f0) ((rd_T71 l0 x5_1).f1) ((rd_T71 l1 x5_1).f0) ((rd_T71 l1 x5_1).f1) true _ A7.out).mono ?_
                rintro e w10 ⟨rfl, hb⟩
                refine ⟨_, rfl, ?_⟩
                have n0_ := Aside0.mk (below_step (by repeat (first | (with_reducible first | exact HB.out | apply below_alloc | apply pw_below_drewN | apply below_drew1) | exact HB.out)) hb)
                clear HB
                have HB := n0_
                clear n0_
                (try clear hb)
                (try clear hb2)
                (try clear hk)
                (try clear hi)
                refine hK.out _ _ ⟨((HB.out.cell (World.block_lt_of_cell? w _ hw194_0)).trans hw194_0), ((HB.out.cell (World.block_lt_of_cell? w _ hw194_1)).trans hw194_1), ((HB.out.cell (World.block_lt_of_cell? w _ hw195_0)).trans hw195_0), ((HB.out.cell (World.block_lt_of_cell? w _ hw195_1)).trans hw195_1)⟩ (fun hHeld => ?_)
                clear hK K
                refine norm_ (a' := ?_) ?_ ?_
                rotate_left
                · show Act.put _ (some 25) _ = _
                  simp only [Act.put, List.setIfInBounds_toArray, List.set_cons_zero, List.set_cons_succ, i64_w, i32_w]
                  rfl
                refine pure_ (i := 9) (N := some 26) (v := ?_) (a' := ?_) #[true, true, true, true, true, true, true, true, true, true] rfl rfl (any_of HT_.out (by kernel_rfl)) (fun _ _ _ h => h) (Or.inl ⟨by rfl, ?_⟩) ?_ ?_
                rotate_left
                · intro w'
                  go_simp
                  with_reducible rfl
                rotate_left
                · simp only [Act.put, List.setIfInBounds_toArray, List.set_cons_zero, List.set_cons_succ, i64_w, i32_w]
                  rfl
                refine done_ (done_of HT_.out (by kernel_rfl)) ?_
                try go_wp2
                go_roundg k1
                case measure => have := HK1.out; omega
                case rel => exact ⟨(wrap64 (x5_1 + 1)), (by first | rfl | (simp; done) | (simp [bne]; done) | (simp [*]; done)), H', ⟨by have := HK1.out; omega⟩, ⟨by repeat (first | (with_reducible first | exact HB.out | apply below_alloc | apply pw_below_drewN | apply below_drew1) | exact HB.out)⟩⟩
              · replace c8 := Bool.eq_false_iff.mpr c8
                subst c8
                have H1 : (some false) = some r := by rw [if_neg (show ¬ (false = true) by decide)] at H; exact H
                clear H
                have H := H1
                clear H1
                obtain rfl := Option.some.inj H
                try go_wp2
                have n0_ := Aside0.mk (below_drew1 HB.out)
                clear HB
                have HB := n0_
                clear n0_
                have p194 : 0 ≤ (x5_1 : Int) := of_decide_eq_true (by first | (with_reducible assumption) | assumption)
                have q194 : x5_1 < (l0.length : Int) := of_decide_eq_true (by first | (with_reducible assumption) | assumption)
                obtain ⟨ad194, e194, hx194_0, hx194_1⟩ := at_T71 HR0.out x5_1 p194 q194
                have hw194_1 := hx194_1
                have hw194_0 := hx194_0
                cases e194
                replace hx194_0 := (HB.out.cell (World.block_lt_of_cell? w _ hx194_0)).trans hx194_0
                replace hx194_1 := (HB.out.cell (World.block_lt_of_cell? w _ hx194_1)).trans hx194_1
                replace p194 := eq_true p194
                replace q194 := eq_true q194
                have p195 : 0 ≤ (x5_1 : Int) := of_decide_eq_true (by first | (with_reducible assumption) | assumption)
                have q195 : x5_1 < (l1.length : Int) := of_decide_eq_true (by first | (with_reducible assumption) | assumption)
                obtain ⟨ad195, e195, hx195_0, hx195_1⟩ := at_T71 HR1.out x5_1 p195 q195
                have hw195_1 := hx195_1
                have hw195_0 := hx195_0
                cases e195
                replace hx195_0 := (HB.out.cell (World.block_lt_of_cell? w _ hx195_0)).trans hx195_0
                replace hx195_1 := (HB.out.cell (World.block_lt_of_cell? w _ hx195_1)).trans hx195_1
                replace p195 := eq_true p195
                replace q195 := eq_true q195
                refine start_ (n := 10) (S := fun w' => w'.cell? (ad194.add ((x5_1).toNat * 2)) = some (.string ((rd_T71 l0 x5_1).f0)) ∧ w'.cell? ⟨(ad194.add ((x5_1).toNat * 2)).block, (ad194.add ((x5_1).toNat * 2)).off + 1, none⟩ = some (.int .i64 ((rd_T71 l0 x5_1).f1)) ∧ w'.cell? (ad195.add ((x5_1).toNat * 2)) = some (.string ((rd_T71 l1 x5_1).f0)) ∧ w'.cell? ⟨(ad195.add ((x5_1).toNat * 2)).block, (ad195.add ((x5_1).toNat * 2)).off + 1, none⟩ = some (.int .i64 ((rd_T71 l1 x5_1).f1))) (ds := []) #[false, false, false, false, false, false, false, false, false, false] (by kernel_rfl) rfl rfl ⟨((HB.out.cell (World.block_lt_of_cell? w _ hw194_0)).trans hw194_0), ((HB.out.cell (World.block_lt_of_cell? w _ hw194_1)).trans hw194_1), ((HB.out.cell (World.block_lt_of_cell? w _ hw195_0)).trans hw195_0), ((HB.out.cell (World.block_lt_of_cell? w _ hw195_1)).trans hw195_1)⟩ (fun hHeld => ?_); refine with_tabW laws_eqPairS.tab6 laws_eqPairS.bits6 (fun HT_ HW_ => ?_)
                generalize wr.drew = w11 at HB hx194_0 hx194_1 hx195_0 hx195_1 hHeld ⊢
                refine pure_ (i := 0) (N := some 17) (v := ?_) (a' := ?_) #[true, false, false, false, false, false, false, false, false, false] rfl rfl (any_of HT_.out (by kernel_rfl)) (fun _ _ _ h => h) (Or.inl ⟨by rfl, ?_⟩) ?_ ?_
                rotate_left
                · intro w'
                  go_simp
                  with_reducible rfl
                rotate_left
                · simp only [Act.put, List.setIfInBounds_toArray, List.set_cons_zero, List.set_cons_succ, i64_w, i32_w]
                  rfl
                refine pure_ (i := 1) (N := some 18) (v := ?_) (a' := ?_) #[true, true, false, false, false, false, false, false, false, false] rfl rfl (any_of HT_.out (by kernel_rfl)) (fun _ _ _ h => h) (Or.inl ⟨by rfl, ?_⟩) ?_ ?_
                rotate_left
                · intro w'
                  go_simp
                  with_reducible rfl
                rotate_left
                · simp only [Act.put, List.setIfInBounds_toArray, List.set_cons_zero, List.set_cons_succ, i64_w, i32_w]
                  rfl
                refine pure_ (i := 2) (N := some 19) (v := ?_) (a' := ?_) #[true, true, true, false, false, false, false, false, false, false] rfl rfl (any_of HT_.out (by kernel_rfl)) (fun _ _ _ h => h) (Or.inl ⟨by rfl, ?_⟩) ?_ ?_
                rotate_left
                · intro w'
                  go_simp
                  with_reducible rfl
                rotate_left
                · simp only [Act.put, List.setIfInBounds_toArray, List.set_cons_zero, List.set_cons_succ, i64_w, i32_w]
                  rfl
                refine pure_ (i := 4) (N := some 21) (v := ?_) (a' := ?_) #[true, true, true, false, true, false, false, false, false, false] rfl rfl (any_of HT_.out (by kernel_rfl)) (fun _ _ _ h => h) (Or.inl ⟨by rfl, ?_⟩) ?_ ?_
                rotate_left
                · intro w'
                  go_simp
                  with_reducible rfl
                rotate_left
                · simp only [Act.put, List.setIfInBounds_toArray, List.set_cons_zero, List.set_cons_succ, i64_w, i32_w]
                  rfl
                refine pure_ (i := 5) (N := some 22) (v := ?_) (a' := ?_) #[true, true, true, false, true, true, false, false, false, false] rfl rfl (any_of HT_.out (by kernel_rfl)) (fun _ _ _ h => h) (Or.inl ⟨by rfl, ?_⟩) ?_ ?_
                rotate_left
                · intro w'
                  go_simp
                  with_reducible rfl
                rotate_left
                · simp only [Act.put, List.setIfInBounds_toArray, List.set_cons_zero, List.set_cons_succ, i64_w, i32_w]
                  rfl
                refine pure_ (i := 6) (N := some 23) (v := ?_) (a' := ?_) #[true, true, true, false, true, true, true, false, false, false] rfl rfl (any_of HT_.out (by kernel_rfl)) (fun _ _ _ h => h) (Or.inl ⟨by rfl, ?_⟩) ?_ ?_
                rotate_left
                · intro w'
                  go_simp
                  with_reducible rfl
                rotate_left
                · simp only [Act.put, List.setIfInBounds_toArray, List.set_cons_zero, List.set_cons_succ, i64_w, i32_w]
                  rfl
                refine take_ (i := 3) (N := some 20) (v := ?_) (a' := ?_) #[true, true, true, true, true, true, true, false, false, false] rfl rfl (take_ofW HT_.out HW_.out (by kernel_rfl)) (fun _ _ _ h => h) (Or.inl ⟨by rfl, ?_⟩) hHeld ?_ ?_
                rotate_left
                · rintro w' ⟨s0, s1, s2, s3⟩
                  go_simp
                  with_reducible rfl
                rotate_left
                · simp only [Act.put, List.setIfInBounds_toArray, List.set_cons_zero, List.set_cons_succ, i64_w, i32_w]
                  rfl
                refine take_ (i := 7) (N := some 24) (v := ?_) (a' := ?_) #[true, true, true, true, true, true, true, true, false, false] rfl rfl (take_ofW HT_.out HW_.out (by kernel_rfl)) (fun _ _ _ h => h) (Or.inl ⟨by rfl, ?_⟩) hHeld ?_ ?_
                rotate_left
                · rintro w' ⟨s0, s1, s2, s3⟩
                  go_simp
                  with_reducible rfl
                rotate_left
                · simp only [Act.put, List.setIfInBounds_toArray, List.set_cons_zero, List.set_cons_succ, i64_w, i32_w]
                  rfl
                refine one_ (i := 8) (N := some 25) #[true, true, true, true, true, true, true, true, true, false] rfl rfl (one_of HT_.out (by kernel_rfl)) (by decide) (fun K hK => ?_)
                refine goes_ Try.func80 (by kernel_rfl) rfl #[.agg #[.string ((rd_T71 l0 x5_1).f0), .int .i64 ((rd_T71 l0 x5_1).f1)], .agg #[.string ((rd_T71 l1 x5_1).f0), .int .i64 ((rd_T71 l1 x5_1).f1)]] (by rfl) rfl rfl (by (try simp only [List.map_toArray, List.map_cons, List.map_nil]); first | done | rfl | (simp only [List.length_drop, List.length_take]; rfl)) ?_
                with_reducible refine (laws_eqPair.calls ((rd_T71 l0 x5_1).f0) ((rd_T71 l0 x5_1).f1) ((rd_T71 l1 x5_1).f0) ((rd_T71 l1 x5_1).f1) false _ A7.out).mono ?_
                rintro e w12 ⟨rfl, hb⟩
                refine ⟨_, rfl, ?_⟩
                have n0_ := Aside0.mk (below_step (by repeat (first | (with_reducible first | exact HB.out | apply below_alloc | apply pw_below_drewN | apply below_drew1) | exact HB.out)) hb)
                clear HB
                have HB := n0_
                clear n0_
                (try clear hb)
                (try clear hb2)
                (try clear hk)
                (try clear hi)
                refine hK.out _ _ ⟨((HB.out.cell (World.block_lt_of_cell? w _ hw194_0)).trans hw194_0), ((HB.out.cell (World.block_lt_of_cell? w _ hw194_1)).trans hw194_1), ((HB.out.cell (World.block_lt_of_cell? w _ hw195_0)).trans hw195_0), ((HB.out.cell (World.block_lt_of_cell? w _ hw195_1)).trans hw195_1)⟩ (fun hHeld => ?_)
                clear hK K
                refine norm_ (a' := ?_) ?_ ?_
                rotate_left
                · show Act.put _ (some 25) _ = _
                  simp only [Act.put, List.setIfInBounds_toArray, List.set_cons_zero, List.set_cons_succ, i64_w, i32_w]
                  rfl
                refine pure_ (i := 9) (N := some 26) (v := ?_) (a' := ?_) #[true, true, true, true, true, true, true, true, true, true] rfl rfl (any_of HT_.out (by kernel_rfl)) (fun _ _ _ h => h) (Or.inl ⟨by rfl, ?_⟩) ?_ ?_
                rotate_left
                · intro w'
                  go_simp
                  with_reducible rfl
                rotate_left
                · simp only [Act.put, List.setIfInBounds_toArray, List.set_cons_zero, List.set_cons_succ, i64_w, i32_w]
                  rfl
                refine done_ (done_of HT_.out (by kernel_rfl)) ?_
                try go_wp2
                go_ret
                exact ⟨by first | rfl | (simp only [u8_w_, w64_u8_]; done) | (simp only [u8_w_, w64_u8_]; rfl) | (simp [errW_none, errW_some] <;> rfl) | (simp [*, errW_none, errW_some] <;> rfl), by repeat (first | (with_reducible first | exact HB.out | apply below_alloc | apply pw_below_drewN | apply below_drew1) | exact HB.out)⟩
            · rw [if_neg c6] at H
              exact absurd H (by simp)
          · rw [if_neg c5] at H
            exact absurd H (by simp)
        · rw [if_neg c4] at H
          have c4b0 : decide (x5_1 < (l0.length : Int)) = false := decide_eq_false c4
          clear c4
          obtain rfl := Option.some.inj H
          go_wp2
          go_ret
          exact ⟨by first | rfl | (simp only [u8_w_, w64_u8_]; done) | (simp only [u8_w_, w64_u8_]; rfl) | (simp [errW_none, errW_some] <;> rfl) | (simp [*, errW_none, errW_some] <;> rfl), by repeat (first | (with_reducible first | exact HB.out | apply below_alloc | apply pw_below_drewN | apply below_drew1) | exact HB.out)⟩
  · rw [if_neg c3] at H
    have c3b0 : ((l0.length : Int) == (l1.length : Int)) = false := beq_eq_false_iff_ne.mpr c3
    have c3b1 : ((l0.length : Int) != (l1.length : Int)) = true := bne_iff_ne.mpr c3
    have c3b2 : (l0.length == l1.length) = false := by first | simpa using c3 | (simp at c3 ⊢; omega)
    obtain rfl := Option.some.inj H
    go_enter Try.func39, Try.ntmps39
    go_wp2
    go_ret
    exact ⟨by first | rfl | (simp only [u8_w_, w64_u8_]; done) | (simp only [u8_w_, w64_u8_]; rfl) | (simp [errW_none, errW_some] <;> rfl) | (simp [*, errW_none, errW_some] <;> rfl), by repeat (first | (with_reducible first | exact HB.out | apply below_alloc | apply pw_below_drewN | apply below_drew1) | exact HB.out)⟩

/-! ### laws_eqPage: function 75 -/
def laws_eqPage.f (k : Nat) (l0_0 : List (S71)) (l1_0 : List (S71)) : Option (Bool) := (laws_eqPairS.f k l0_0 l1_0).bind fun t199 => (if t199 = true then (some true) else (some false))
theorem laws_eqPage.mono : ∀ a0 a1 k, LeO (laws_eqPage.f k a0 a1) (laws_eqPage.f (k + 1) a0 a1) := by
  intro a0 a1 k
  unfold laws_eqPage.f
  repeat' first
      | (with_reducible exact laws_eqPairS.mono _ _ _)
      | (with_reducible exact LeO.refl _)
      | (with_reducible exact LeO.none _)
      | (with_reducible refine LeO.ite ?_ ?_)
      | (with_reducible refine LeO.bind ?_ (fun _ => ?_))
      | exact laws_eqPairS.mono _ _ _
      | exact LeO.none _
      | refine LeO.ite ?_ ?_
      | refine LeO.bind ?_ (fun _ => ?_)
set_option maxHeartbeats 8000000 in
set_option maxRecDepth 100000 in
theorem laws_eqPage.calls (k : Nat) (A0_0 : Option Addr) (c0_0 : Nat) (l0_0 : List (S71)) (A1_0 : Option Addr) (c1_0 : Nat) (l1_0 : List (S71)) (r : Bool) (w : World) (hr0_0 : Kd.C k71 w A0_0 l0_0.length l0_0) (hc0_0 : l0_0.length ≤ c0_0) (hr1_0 : Kd.C k71 w A1_0 l1_0.length l1_0) (hc1_0 : l1_0.length ≤ c1_0) (h : laws_eqPage.f k l0_0 l1_0 = some r) :
    Calls Try.prog 75 #[.agg #[.slice A0_0 l0_0.length c0_0], .agg #[.slice A1_0 l1_0.length c1_0]] w fun e w' => e = .returned (.bool r) ∧ Below w.heap.size w w' := by
  have hu64 := Try.underlying64
  have HR0_0 := Aside0.mk hr0_0
  have HC0_0 := Aside0.mk hc0_0
  clear hr0_0 hc0_0
  have HR1_0 := Aside0.mk hr1_0
  have HC1_0 := Aside0.mk hc1_0
  clear hr1_0 hc1_0
  have HB := Aside0.mk (Below.refl w.heap.size w)
  have H : ((laws_eqPairS.f k l0_0 l1_0).bind fun t199 => (if t199 = true then (some true) else (some false))) = some r := h
  clear h
  replace H := Option.bind_eq_some_iff.mp H
  obtain ⟨t199, A30, H⟩ := H
  replace H : (if t199 = true then (some true) else (some false)) = some r := H
  have A3 := Aside0.mk A30
  clear A30
  by_cases c4 : t199 = true
  · subst c4
    have H1 : (some true) = some r := by rw [if_pos rfl] at H; exact H
    clear H
    have H := H1
    clear H1
    obtain rfl := Option.some.inj H
    go_enter Try.func75, Try.ntmps75
    go_wp2_with (first | ((with_reducible refine gate_dst (N := 2) rfl ?_); refine box_event ?hg (N := 2) ?hd (cs := #[.slice A0_0 l0_0.length c0_0]) (t := 64) ?hr ?_; (case hd => rfl); (case hg => rfl); (case hr => first | (go_simp; done) | (go_simp; rfl)); intro gb197 hg w5 hbox hb; have n0_ := Aside0.mk (below_step (by repeat (first | (with_reducible first | exact HB.out | apply below_alloc | apply pw_below_drewN | apply below_drew1) | exact HB.out)) hb); have n1_ := Aside0.mk (hbox); have n2_ := Aside0.mk ((by rw [hg]; exact (below_size (by repeat (first | (with_reducible first | exact HB.out | apply below_alloc | apply pw_below_drewN | apply below_drew1) | exact HB.out))) : w.heap.size ≤ gb197)); have n3_ := Aside0.mk ((by rw [hg]; exact (below_size (by repeat (first | (with_reducible first | exact HB.out | apply below_alloc | apply pw_below_drewN | apply below_drew1) | exact HB.out))) : w.heap.size ≤ gb197)); clear HB; have HB := n0_; have BK197 := n1_; have GW197 := n2_; have GE197 := n3_; clear n0_ n1_ n2_ n3_; clear hb hbox hg) | ((with_reducible refine gate_dst (N := 3) rfl ?_); refine box_event ?hg (N := 3) ?hd (cs := #[.slice A1_0 l1_0.length c1_0]) (t := 64) ?hr ?_; (case hd => rfl); (case hg => rfl); (case hr => first | (go_simp; done) | (go_simp; rfl)); intro gb198 hg w6 hbox hb; have n0_ := Aside0.mk (blk_below (g := gb197) (o := .cells #[.slice A0_0 l0_0.length c0_0] 64 (0, 0)) (by (with_reducible repeat (first | refine blk_drewN ?_ _ | refine blk_drew ?_ | refine blk_alloc ?_ _)); exact BK197.out) hb); have n1_ := Aside0.mk (below_step (by repeat (first | (with_reducible first | exact HB.out | apply below_alloc | apply pw_below_drewN | apply below_drew1 | refine below_set ?_ GE197.out) | exact HB.out)) hb); have n2_ := Aside0.mk (hbox); have n3_ := Aside0.mk ((by rw [hg]; exact (below_size (by repeat (first | (with_reducible first | exact HB.out | apply below_alloc | apply pw_below_drewN | apply below_drew1 | refine below_set ?_ GE197.out) | exact HB.out))) : w.heap.size ≤ gb198)); have n4_ := Aside0.mk ((by rw [hg]; exact (below_size (by repeat (first | (with_reducible first | exact HB.out | apply below_alloc | apply pw_below_drewN | apply below_drew1 | refine below_set ?_ GE197.out) | exact HB.out))) : w.heap.size ≤ gb198)); have n5_ := Aside0.mk ((by rw [hg]; exact Nat.ne_of_lt (blk_lt (g := gb197) (o := .cells #[.slice A0_0 l0_0.length c0_0] 64 (0, 0)) (by (with_reducible repeat (first | refine blk_drewN ?_ _ | refine blk_drew ?_ | refine blk_alloc ?_ _)); exact BK197.out)) : gb197 ≠ gb198)); have n6_ := Aside0.mk ((by rw [hg]; exact Nat.ne_of_gt (blk_lt (g := gb197) (o := .cells #[.slice A0_0 l0_0.length c0_0] 64 (0, 0)) (by (with_reducible repeat (first | refine blk_drewN ?_ _ | refine blk_drew ?_ | refine blk_alloc ?_ _)); exact BK197.out)) : gb198 ≠ gb197)); clear BK197; clear HB; have BK197 := n0_; have HB := n1_; have BK198 := n2_; have GW198 := n3_; have GE198 := n4_; have NB197_198 := n5_; have NB198_197 := n6_; clear n0_ n1_ n2_ n3_ n4_ n5_ n6_; clear hb hbox hg; have hnb7 := NB197_198.out; have hnc7 := NB198_197.out; have hcz8_0 : w6.cell? ⟨gb197, 0, none⟩ = some (.slice A0_0 l0_0.length c0_0) := (blk_cell BK197.out 0).trans rfl; have hfz8_0 := blk_frozen BK197.out 0; have hcz9_0 : w6.cell? ⟨gb198, 0, none⟩ = some (.slice A1_0 l1_0.length c1_0) := (blk_cell BK198.out 0).trans rfl; have hfz9_0 := blk_frozen BK198.out 0) | ((with_reducible refine gate_callee (f := 39) rfl ?_); refine goesL_ (some 9) rfl rfl Try.func39 (by kernel_rfl) rfl #[.slice A0_0 l0_0.length c0_0, .slice A1_0 l1_0.length c1_0] rfl (by (try simp only [List.map_toArray, List.map_cons, List.map_nil]); first | done | rfl | (simp only [List.length_drop, List.length_take]; rfl)) ?_; (with_reducible refine (laws_eqPairS.calls k _ _ l0_0 _ _ l1_0 true _ ?side1 ?side2 ?side3 ?side4 A3.out).mono ?_); (case side1 => repeat (first | exact (Kd.C_below HR0_0.out HB.out) | (with_reducible refine Kd.C_alloc ?_ _) | (with_reducible refine Kd.C_drewN ?_ _) | (with_reducible refine Kd.C_drew ?_))); (case side2 => exact HC0_0.out); (case side3 => repeat (first | exact (Kd.C_below HR1_0.out HB.out) | (with_reducible refine Kd.C_alloc ?_ _) | (with_reducible refine Kd.C_drewN ?_ _) | (with_reducible refine Kd.C_drew ?_))); (case side4 => exact HC1_0.out); rintro e w10 ⟨rfl, hb⟩; refine ⟨_, rfl, ?_⟩; have n0_ := Aside0.mk (blk_below (g := gb197) (o := .cells #[.slice A0_0 l0_0.length c0_0] 64 (0, 0)) (by (with_reducible repeat (first | refine blk_drewN ?_ _ | refine blk_drew ?_ | refine blk_alloc ?_ _)); exact BK197.out) hb); have n1_ := Aside0.mk (blk_below (g := gb198) (o := .cells #[.slice A1_0 l1_0.length c1_0] 64 (0, 0)) (by (with_reducible repeat (first | refine blk_drewN ?_ _ | refine blk_drew ?_ | refine blk_alloc ?_ _)); exact BK198.out) hb); have n2_ := Aside0.mk (below_step (by repeat (first | (with_reducible first | exact HB.out | apply below_alloc | apply pw_below_drewN | apply below_drew1 | refine below_set ?_ GE197.out | refine below_set ?_ GE198.out) | exact HB.out)) hb); clear BK197; clear BK198; clear HB; have BK197 := n0_; have BK198 := n1_; have HB := n2_; clear n0_ n1_ n2_; (try clear hb); (try clear hb2); (try clear hk); (try clear hi)))
    go_ret
    exact ⟨by first | rfl | (simp only [u8_w_, w64_u8_]; done) | (simp only [u8_w_, w64_u8_]; rfl) | (simp [errW_none, errW_some] <;> rfl) | (simp [*, errW_none, errW_some] <;> rfl), by repeat (first | (with_reducible first | exact HB.out | apply below_alloc | apply pw_below_drewN | apply below_drew1 | refine below_set ?_ GE197.out | refine below_set ?_ GE198.out) | exact HB.out)⟩
  · replace c4 := Bool.eq_false_iff.mpr c4
    subst c4
    have H1 : (some false) = some r := by rw [if_neg (show ¬ (false = true) by decide)] at H; exact H
    clear H
    have H := H1
    clear H1
    obtain rfl := Option.some.inj H
    go_enter Try.func75, Try.ntmps75
    go_wp2_with (first | ((with_reducible refine gate_dst (N := 2) rfl ?_); refine box_event ?hg (N := 2) ?hd (cs := #[.slice A0_0 l0_0.length c0_0]) (t := 64) ?hr ?_; (case hd => rfl); (case hg => rfl); (case hr => first | (go_simp; done) | (go_simp; rfl)); intro gb197 hg w11 hbox hb; have n0_ := Aside0.mk (below_step (by repeat (first | (with_reducible first | exact HB.out | apply below_alloc | apply pw_below_drewN | apply below_drew1) | exact HB.out)) hb); have n1_ := Aside0.mk (hbox); have n2_ := Aside0.mk ((by rw [hg]; exact (below_size (by repeat (first | (with_reducible first | exact HB.out | apply below_alloc | apply pw_below_drewN | apply below_drew1) | exact HB.out))) : w.heap.size ≤ gb197)); have n3_ := Aside0.mk ((by rw [hg]; exact (below_size (by repeat (first | (with_reducible first | exact HB.out | apply below_alloc | apply pw_below_drewN | apply below_drew1) | exact HB.out))) : w.heap.size ≤ gb197)); clear HB; have HB := n0_; have BK197 := n1_; have GW197 := n2_; have GE197 := n3_; clear n0_ n1_ n2_ n3_; clear hb hbox hg) | ((with_reducible refine gate_dst (N := 3) rfl ?_); refine box_event ?hg (N := 3) ?hd (cs := #[.slice A1_0 l1_0.length c1_0]) (t := 64) ?hr ?_; (case hd => rfl); (case hg => rfl); (case hr => first | (go_simp; done) | (go_simp; rfl)); intro gb198 hg w12 hbox hb; have n0_ := Aside0.mk (blk_below (g := gb197) (o := .cells #[.slice A0_0 l0_0.length c0_0] 64 (0, 0)) (by (with_reducible repeat (first | refine blk_drewN ?_ _ | refine blk_drew ?_ | refine blk_alloc ?_ _)); exact BK197.out) hb); have n1_ := Aside0.mk (below_step (by repeat (first | (with_reducible first | exact HB.out | apply below_alloc | apply pw_below_drewN | apply below_drew1 | refine below_set ?_ GE197.out) | exact HB.out)) hb); have n2_ := Aside0.mk (hbox); have n3_ := Aside0.mk ((by rw [hg]; exact (below_size (by repeat (first | (with_reducible first | exact HB.out | apply below_alloc | apply pw_below_drewN | apply below_drew1 | refine below_set ?_ GE197.out) | exact HB.out))) : w.heap.size ≤ gb198)); have n4_ := Aside0.mk ((by rw [hg]; exact (below_size (by repeat (first | (with_reducible first | exact HB.out | apply below_alloc | apply pw_below_drewN | apply below_drew1 | refine below_set ?_ GE197.out) | exact HB.out))) : w.heap.size ≤ gb198)); have n5_ := Aside0.mk ((by rw [hg]; exact Nat.ne_of_lt (blk_lt (g := gb197) (o := .cells #[.slice A0_0 l0_0.length c0_0] 64 (0, 0)) (by (with_reducible repeat (first | refine blk_drewN ?_ _ | refine blk_drew ?_ | refine blk_alloc ?_ _)); exact BK197.out)) : gb197 ≠ gb198)); have n6_ := Aside0.mk ((by rw [hg]; exact Nat.ne_of_gt (blk_lt (g := gb197) (o := .cells #[.slice A0_0 l0_0.length c0_0] 64 (0, 0)) (by (with_reducible repeat (first | refine blk_drewN ?_ _ | refine blk_drew ?_ | refine blk_alloc ?_ _)); exact BK197.out)) : gb198 ≠ gb197)); clear BK197; clear HB; have BK197 := n0_; have HB := n1_; have BK198 := n2_; have GW198 := n3_; have GE198 := n4_; have NB197_198 := n5_; have NB198_197 := n6_; clear n0_ n1_ n2_ n3_ n4_ n5_ n6_; clear hb hbox hg; have hnb13 := NB197_198.out; have hnc13 := NB198_197.out; have hcz14_0 : w12.cell? ⟨gb197, 0, none⟩ = some (.slice A0_0 l0_0.length c0_0) := (blk_cell BK197.out 0).trans rfl; have hfz14_0 := blk_frozen BK197.out 0; have hcz15_0 : w12.cell? ⟨gb198, 0, none⟩ = some (.slice A1_0 l1_0.length c1_0) := (blk_cell BK198.out 0).trans rfl; have hfz15_0 := blk_frozen BK198.out 0) | ((with_reducible refine gate_callee (f := 39) rfl ?_); refine goesL_ (some 9) rfl rfl Try.func39 (by kernel_rfl) rfl #[.slice A0_0 l0_0.length c0_0, .slice A1_0 l1_0.length c1_0] rfl (by (try simp only [List.map_toArray, List.map_cons, List.map_nil]); first | done | rfl | (simp only [List.length_drop, List.length_take]; rfl)) ?_; (with_reducible refine (laws_eqPairS.calls k _ _ l0_0 _ _ l1_0 false _ ?side1 ?side2 ?side3 ?side4 A3.out).mono ?_); (case side1 => repeat (first | exact (Kd.C_below HR0_0.out HB.out) | (with_reducible refine Kd.C_alloc ?_ _) | (with_reducible refine Kd.C_drewN ?_ _) | (with_reducible refine Kd.C_drew ?_))); (case side2 => exact HC0_0.out); (case side3 => repeat (first | exact (Kd.C_below HR1_0.out HB.out) | (with_reducible refine Kd.C_alloc ?_ _) | (with_reducible refine Kd.C_drewN ?_ _) | (with_reducible refine Kd.C_drew ?_))); (case side4 => exact HC1_0.out); rintro e w16 ⟨rfl, hb⟩; refine ⟨_, rfl, ?_⟩; have n0_ := Aside0.mk (blk_below (g := gb197) (o := .cells #[.slice A0_0 l0_0.length c0_0] 64 (0, 0)) (by (with_reducible repeat (first | refine blk_drewN ?_ _ | refine blk_drew ?_ | refine blk_alloc ?_ _)); exact BK197.out) hb); have n1_ := Aside0.mk (blk_below (g := gb198) (o := .cells #[.slice A1_0 l1_0.length c1_0] 64 (0, 0)) (by (with_reducible repeat (first | refine blk_drewN ?_ _ | refine blk_drew ?_ | refine blk_alloc ?_ _)); exact BK198.out) hb); have n2_ := Aside0.mk (below_step (by repeat (first | (with_reducible first | exact HB.out | apply below_alloc | apply pw_below_drewN | apply below_drew1 | refine below_set ?_ GE197.out | refine below_set ?_ GE198.out) | exact HB.out)) hb); clear BK197; clear BK198; clear HB; have BK197 := n0_; have BK198 := n1_; have HB := n2_; clear n0_ n1_ n2_; (try clear hb); (try clear hb2); (try clear hk); (try clear hi)))
    go_ret
    exact ⟨by first | rfl | (simp only [u8_w_, w64_u8_]; done) | (simp only [u8_w_, w64_u8_]; rfl) | (simp [errW_none, errW_some] <;> rfl) | (simp [*, errW_none, errW_some] <;> rfl), by repeat (first | (with_reducible first | exact HB.out | apply below_alloc | apply pw_below_drewN | apply below_drew1 | refine below_set ?_ GE197.out | refine below_set ?_ GE198.out) | exact HB.out)⟩

end Go.Proofs.Ytebgpbcbbjpbfaa.PFnExactPagesOf
