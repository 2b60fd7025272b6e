-- Written for this claim by a program of this session (wip/myprint in the proofs' repo)
import Derived.Test.YtakgmbeglcehcaaPFnExactPairPutx0
import Derived.Test.YtakgmbeglcehcaaPFnExactPairPutx2
import Derived.Test.YtakgmbeglcehcaaPFnExactPairPutx3
namespace Go.Proofs.Ytakgmbeglcehcaa.PFnExactPairPut
open Go.RowKit Go.Proofs.YtakgmbeglcehcaaW.PrintWords Go.Proofs.YtakgmbeglcehcaaW.PrintLast Go.Proofs.YtakgmbeglcehcaaW.PrintMore
attribute [local go_sem] max2_int min2_int max_two min_two max_three min_three max_four min_four max2_strs min2_strs   -- for this text's walks alone
set_option linter.unusedVariables false
set_option linter.unusedSimpArgs false

/-! ### spec_l4Place: function 46 -/
def spec_l4Place.l0 : Nat → List (S69) → ByteArray → Int → Option (Int)
  | 0, _, _, _ => none
  | k + 1, x0, x1, x5 => if x5 < (x0.length : Int) then (if 0 ≤ x5 then (if (Op.bytesLess (((rd_T69 x0 x5).f0).toList) x1.toList) = true then (spec_l4Place.l0 k x0 x1 (wrap64 (x5 + 1))) else (some x5)) else (none)) else (some x5)
def spec_l4Place.f (k : Nat) (l0 : List (S69)) (a1 : ByteArray) : Option (Int) := spec_l4Place.l0 k l0 a1 0
theorem spec_l4Place.mono_l : ∀ k, (∀ y0 y1 y2, LeO (spec_l4Place.l0 k y0 y1 y2) (spec_l4Place.l0 (k + 1) y0 y1 y2))
  | 0 => fun _ _ _ r h => by simp [spec_l4Place.l0] at h
  | k + 1 => by
    have ih0 := spec_l4Place.mono_l k
    · intro y0 y1 y2
      unfold spec_l4Place.l0
      repeat' first
      | (with_reducible exact ih0 _ _ _)
      | (with_reducible exact LeO.refl _)
      | (with_reducible exact LeO.none _)
      | (with_reducible refine LeO.ite ?_ ?_)
      | (with_reducible refine LeO.bind ?_ (fun _ => ?_))
      | exact ih0 _ _ _
      | exact LeO.none _
      | refine LeO.ite ?_ ?_
      | refine LeO.bind ?_ (fun _ => ?_)
theorem spec_l4Place.mono : ∀ a0 a1 k, LeO (spec_l4Place.f k a0 a1) (spec_l4Place.f (k + 1) a0 a1) := by
  intro a0 a1 k
  have ih0 := spec_l4Place.mono_l k
  unfold spec_l4Place.f
  repeat' first
      | (with_reducible exact ih0 _ _ _)
      | (with_reducible exact LeO.refl _)
      | (with_reducible exact LeO.none _)
      | (with_reducible refine LeO.ite ?_ ?_)
      | (with_reducible refine LeO.bind ?_ (fun _ => ?_))
      | exact ih0 _ _ _
      | exact LeO.none _
      | refine LeO.ite ?_ ?_
      | refine LeO.bind ?_ (fun _ => ?_)
set_option maxHeartbeats 8000000 in
set_option maxRecDepth 100000 in
theorem spec_l4Place.calls (k : Nat) (A0 : Option Addr) (c0 : Nat) (l0 : List (S69)) (a1 : ByteArray) (r : Int) (w : World) (hr0 : Kd.C k69 w A0 l0.length l0) (hc0 : l0.length ≤ c0) (h : spec_l4Place.f k l0 a1 = some r) :
    Calls Try.prog 46 #[.slice A0 l0.length c0, .string a1] w fun e w' => e = .returned (.int .i64 r) ∧ Drawn0 w w' := by
  have HR0 := Aside0.mk hr0
  have HC0 := Aside0.mk hc0
  clear hr0 hc0
  have H : (spec_l4Place.l0 k l0 a1 0) = some r := h
  clear h
  have H' := Aside0.mk H
  clear H
  go_enter Try.func46, Try.ntmps46
  go_wp2
  go_loopg [5] k (fun kq v5 w' => ∃ (x5_1 : Int), v5 = .int .i64 x5_1 ∧ Aside0 (spec_l4Place.l0 kq l0 a1 x5_1 = some r) ∧ Aside0 (kq ≤ k) ∧ Drawn0 w w')
  case atStart => exact ⟨(0), (by first | rfl | (simp; done) | (simp [bne]; done) | (simp [*]; done)), H', ⟨Nat.le_refl _⟩, by repeat (first | exact Drawn0.refl _ | apply Drawn0.step)⟩
  case round =>
    clear H'
    try clear p2
    obtain ⟨x5_1, rfl, HA, HK1, ⟨m1, rfl⟩⟩ := hrel
    cases gk with
    | zero => exact absurd HA.out (by simp [spec_l4Place.l0])
    | succ k1 =>
      have H := HA.out
      clear HA
      simp only [spec_l4Place.l0] at H
      by_cases c3 : x5_1 < (l0.length : Int)
      · rw [if_pos c3] at H
        have c3b0 : decide (x5_1 < (l0.length : Int)) = true := decide_eq_true c3
        clear c3
        by_cases c4 : 0 ≤ x5_1
        · rw [if_pos c4] at H
          have c4b0 : decide (0 ≤ x5_1) = true := decide_eq_true c4
          clear c4
          by_cases c5 : (Op.bytesLess (((rd_T69 l0 x5_1).f0).toList) a1.toList) = true
          · rw [if_pos c5] at H
            have c5b0 : (Op.bytesLess (((rd_T69 l0 x5_1).f0).toList) a1.toList) = true := c5
            clear c5
            have H' := Aside0.mk H
            clear H
            have p135 : 0 ≤ (x5_1 : Int) := of_decide_eq_true (by first | (with_reducible assumption) | assumption)
            have q135 : x5_1 < (l0.length : Int) := of_decide_eq_true (by first | (with_reducible assumption) | assumption)
            obtain ⟨ad135, e135, hx135_0, hx135_1⟩ := at_T69 HR0.out x5_1 p135 q135
            cases e135
            replace p135 := eq_true p135
            replace q135 := eq_true q135
            go_wp2
            go_roundg k1
            case measure => have := HK1.out; omega
            case rel => exact ⟨(wrap64 (x5_1 + 1)), (by first | rfl | (simp; done) | (simp [bne]; done) | (simp [*]; done)), H', ⟨by have := HK1.out; omega⟩, by repeat (first | exact Drawn0.refl _ | apply Drawn0.step)⟩
          · rw [if_neg c5] at H
            have c5b0 : (Op.bytesLess (((rd_T69 l0 x5_1).f0).toList) a1.toList) = false := by simpa using c5
            clear c5
            obtain rfl := Option.some.inj H
            have p135 : 0 ≤ (x5_1 : Int) := of_decide_eq_true (by first | (with_reducible assumption) | assumption)
            have q135 : x5_1 < (l0.length : Int) := of_decide_eq_true (by first | (with_reducible assumption) | assumption)
            obtain ⟨ad135, e135, hx135_0, hx135_1⟩ := at_T69 HR0.out x5_1 p135 q135
            cases e135
            replace p135 := eq_true p135
            replace q135 := eq_true q135
            go_wp2
            go_ret
            exact ⟨by first | rfl | (simp; done) | (simp [*]; done), by repeat (first | exact Drawn0.refl _ | apply Drawn0.step)⟩
        · rw [if_neg c4] at H
          exact absurd H (by simp)
      · rw [if_neg c3] at H
        have c3b0 : decide (x5_1 < (l0.length : Int)) = false := decide_eq_false c3
        clear c3
        obtain rfl := Option.some.inj H
        go_wp2
        go_ret
        exact ⟨by first | rfl | (simp; done) | (simp [*]; done), by repeat (first | exact Drawn0.refl _ | apply Drawn0.step)⟩

/-! ### spec_PairPut: function 18 -/
mutual
def spec_PairPut.j0 : Nat → List (S69) → ByteArray → Int → List (S69) → Bool → Option ((List (S69)) × Bool)
  | 0, _, _, _, _, _ => none
  | k + 1, x0, x1, x2, x8, x23 => if x23 = true then (some (x8, false)) else ((spec_l4Place.f k x0 x1).bind fun t142 => (if t142 < (x0.length : Int) then (if 0 ≤ t142 then (spec_PairPut.j1 k x0 x1 x2 x8 t142 (((rd_T69 x0 t142).f0).toList == x1.toList)) else (none)) else (spec_PairPut.j1 k x0 x1 x2 x8 t142 false)))
def spec_PairPut.j1 : Nat → List (S69) → ByteArray → Int → List (S69) → Int → Bool → Option ((List (S69)) × Bool)
  | 0, _, _, _, _, _, _ => none
  | k + 1, x0, x1, x2, x8, x9, x40 => if x40 = true then (if x8.length + x0.length < 5864062014805 then ((some (x8 ++ x0 : List (S69))).bind fun y144 => (if 0 ≤ x9 then (if x9 < (y144.length : Int) then (some ((y144.set (x9 : Int).toNat (⟨(rd_T69 y144 x9).f0, x2⟩ : S69)), true)) else (none)) else (none))) else (none)) else (if (x0.length : Int) ≥ 48 then (if x8.length + x0.length < 5864062014805 then (some ((x8 ++ x0), false)) else (none)) else (if 0 ≤ x9 then (if x9 ≤ (x0.length : Int) then ((some (x0.take (x9 : Int).toNat : List (S69))).bind fun y151 => (if x8.length + y151.length < 5864062014805 then ((some (x8 ++ y151 : List (S69))).bind fun y155 => (if y155.length < 5864062014805 then ((some (y155 ++ [(⟨x1, x2⟩ : S69)] : List (S69))).bind fun y158 => ((some (x0.drop (x9 : Int).toNat : List (S69))).bind fun y161 => (if y158.length + y161.length < 5864062014805 then (some ((y158 ++ y161), true)) else (none)))) else (none))) else (none))) else (none)) else (none)))
end
def spec_PairPut.f (k : Nat) (l0 : List (S69)) (a1 : ByteArray) (a2 : Int) : Option ((List (S69)) × Bool) := (some (([] : List (S69)) : List (S69))).bind fun y136 => ((spec_PairsValid.f k l0).bind fun t139 => (if t139 = true then ((spec_KeyValid.f k a1).bind fun t140 => (if t140 = true then ((spec_l1In.f a2 0 999).bind fun t141 => (spec_PairPut.j0 k l0 a1 a2 y136 (!t141))) else (spec_PairPut.j0 k l0 a1 a2 y136 true))) else (spec_PairPut.j0 k l0 a1 a2 y136 true)))
theorem spec_PairPut.mono_l : ∀ k, (∀ y0 y1 y2 y3 y4, LeO (spec_PairPut.j0 k y0 y1 y2 y3 y4) (spec_PairPut.j0 (k + 1) y0 y1 y2 y3 y4)) ∧ (∀ y0 y1 y2 y3 y4 y5, LeO (spec_PairPut.j1 k y0 y1 y2 y3 y4 y5) (spec_PairPut.j1 (k + 1) y0 y1 y2 y3 y4 y5))
  | 0 => ⟨fun _ _ _ _ _ r h => by simp [spec_PairPut.j0] at h, fun _ _ _ _ _ _ r h => by simp [spec_PairPut.j1] at h⟩
  | k + 1 => by
    obtain ⟨ih0, ih1⟩ := spec_PairPut.mono_l k
    refine ⟨?_, ?_⟩
    · intro y0 y1 y2 y3 y4
      unfold spec_PairPut.j0
      repeat' first
      | (with_reducible exact ih0 _ _ _ _ _)
      | (with_reducible exact ih1 _ _ _ _ _ _)
      | (with_reducible exact spec_KeyValid.mono _ _)
      | (with_reducible exact spec_PairsValid.mono _ _)
      | (with_reducible exact spec_l4Place.mono _ _ _)
      | (with_reducible exact LeO.refl _)
      | (with_reducible exact LeO.none _)
      | (with_reducible refine LeO.ite ?_ ?_)
      | (with_reducible refine LeO.bind ?_ (fun _ => ?_))
      | exact ih0 _ _ _ _ _
      | exact ih1 _ _ _ _ _ _
      | exact spec_KeyValid.mono _ _
      | exact spec_PairsValid.mono _ _
      | exact spec_l4Place.mono _ _ _
      | exact LeO.none _
      | refine LeO.ite ?_ ?_
      | refine LeO.bind ?_ (fun _ => ?_)
    · intro y0 y1 y2 y3 y4 y5
      unfold spec_PairPut.j1
      repeat' first
      | (with_reducible exact ih0 _ _ _ _ _)
      | (with_reducible exact ih1 _ _ _ _ _ _)
      | (with_reducible exact spec_KeyValid.mono _ _)
      | (with_reducible exact spec_PairsValid.mono _ _)
      | (with_reducible exact spec_l4Place.mono _ _ _)
      | (with_reducible exact LeO.refl _)
      | (with_reducible exact LeO.none _)
      | (with_reducible refine LeO.ite ?_ ?_)
      | (with_reducible refine LeO.bind ?_ (fun _ => ?_))
      | exact ih0 _ _ _ _ _
      | exact ih1 _ _ _ _ _ _
      | exact spec_KeyValid.mono _ _
      | exact spec_PairsValid.mono _ _
      | exact spec_l4Place.mono _ _ _
      | exact LeO.none _
      | refine LeO.ite ?_ ?_
      | refine LeO.bind ?_ (fun _ => ?_)
theorem spec_PairPut.mono : ∀ a0 a1 a2 k, LeO (spec_PairPut.f k a0 a1 a2) (spec_PairPut.f (k + 1) a0 a1 a2) := by
  intro a0 a1 a2 k
  obtain ⟨ih0, ih1⟩ := spec_PairPut.mono_l k
  unfold spec_PairPut.f
  repeat' first
      | (with_reducible exact ih0 _ _ _ _ _)
      | (with_reducible exact ih1 _ _ _ _ _ _)
      | (with_reducible exact spec_KeyValid.mono _ _)
      | (with_reducible exact spec_PairsValid.mono _ _)
      | (with_reducible exact spec_l4Place.mono _ _ _)
      | (with_reducible exact LeO.refl _)
      | (with_reducible exact LeO.none _)
      | (with_reducible refine LeO.ite ?_ ?_)
      | (with_reducible refine LeO.bind ?_ (fun _ => ?_))
      | exact ih0 _ _ _ _ _
      | exact ih1 _ _ _ _ _ _
      | exact spec_KeyValid.mono _ _
      | exact spec_PairsValid.mono _ _
      | exact spec_l4Place.mono _ _ _
      | exact LeO.none _
      | refine LeO.ite ?_ ?_
      | refine LeO.bind ?_ (fun _ => ?_)
set_option maxHeartbeats 8000000 in
set_option maxRecDepth 100000 in
theorem spec_PairPut.calls (k : Nat) (A0 : Option Addr) (c0 : Nat) (l0 : List (S69)) (a1 : ByteArray) (a2 : Int) (r1 : List (S69)) (r2 : Bool) (w : World) (hr0 : Kd.C k69 w A0 l0.length l0) (hc0 : l0.length ≤ c0) (h : spec_PairPut.f k l0 a1 a2 = some (r1, r2)) :
    Calls Try.prog 18 #[.slice A0 l0.length c0, .string a1, .int .i64 a2] w fun e w' => ∃ v0_ : Value, e = .returned (.tuple #[v0_, .bool r2]) ∧ Kd.R k69 69 w' w.heap.size (fun _ => True) v0_ r1 ∧ Below w.heap.size w w' := by
  have hu69 := Try.underlying69
  have HR0 := Aside0.mk hr0
  have HC0 := Aside0.mk hc0
  clear hr0 hc0
  have HB := Aside0.mk (Below.refl w.heap.size w)
  have H : ((some (([] : List (S69)) : List (S69))).bind fun y136 => ((spec_PairsValid.f k l0).bind fun t139 => (if t139 = true then ((spec_KeyValid.f k a1).bind fun t140 => (if t140 = true then ((spec_l1In.f a2 0 999).bind fun t141 => (spec_PairPut.j0 k l0 a1 a2 y136 (!t141))) else (spec_PairPut.j0 k l0 a1 a2 y136 true))) else (spec_PairPut.j0 k l0 a1 a2 y136 true)))) = some (r1, r2) := h
  clear h
  obtain ⟨y136, hy136⟩ : ∃ y_ : List (S69), y_ = (([] : List (S69))) := ⟨_, rfl⟩
  replace H : ((spec_PairsValid.f k l0).bind fun t139 => (if t139 = true then ((spec_KeyValid.f k a1).bind fun t140 => (if t140 = true then ((spec_l1In.f a2 0 999).bind fun t141 => (spec_PairPut.j0 k l0 a1 a2 y136 (!t141))) else (spec_PairPut.j0 k l0 a1 a2 y136 true))) else (spec_PairPut.j0 k l0 a1 a2 y136 true))) = some (r1, r2) := by first | (rw [hy136]; with_reducible exact H) | (have H2_ := (Option.bind_some _ _).symm.trans H; rw [hy136]; with_reducible exact H2_) | (have H2_ := (Option.bind_some _ _).symm.trans H; with_reducible exact H2_) | with_reducible exact H | (rw [hy136]; exact H) | exact H
  have Ny136 := Aside0.mk hy136
  clear hy136
  have HC4 := Aside0.mk H
  clear H
  go_enter Try.func18, Try.ntmps18
  go_upto_region 2 with (first | ((with_reducible refine gate_dst (N := 10) rfl ?_); refine Kd.R_lit k69 _ 69 ?hg (N := 10) ?hd (xs := ([] : List (S69))) (inner := []) (ok := fun _ => True) (okp := fun _ => True) ?hr ?hp (fun _ hk => hk) trivial (Below.refl _ _) (Nat.le_refl _) (by simp) ?_; (case hd => rfl); (case hg => rfl); (case hr => first | (go_simp; done) | (go_simp; rfl)); (case hp => exact (Reps.none _ _)); intro v137 w5 ho6 hb hg_ hnew_; clear hg_ hnew_; (first | rw [← Ny136.out] at ho6 | (simp only [Int.reduceToNat] at ho6; rw [← Ny136.out] at ho6)); have n0_ := Aside0.mk (Kd.R_lower ho6 (below_size (by repeat (first | (with_reducible first | exact HB.out | apply below_alloc | apply pw_below_drewN | apply below_drew1) | exact HB.out)))); have n1_ := Aside0.mk (below_step (by repeat (first | (with_reducible first | exact HB.out | apply below_alloc | apply pw_below_drewN | apply below_drew1) | exact HB.out)) hb); clear HB; have HO138 := n0_; have HB := n1_; clear n0_ n1_; clear hb ho6))
  (try simp only [Act.put, List.setIfInBounds_toArray, List.set_cons_zero, List.set_cons_succ])
  go_cut [23] (fun v23 wc => ∃ (kq : Nat) (x23_3 : Bool), v23 = .bool x23_3 ∧ Aside0 (spec_PairPut.j0 kq l0 a1 a2 y136 x23_3 = some (r1, r2)) ∧ Aside0 (kq ≤ k) ∧ Aside0 (Kd.R k69 69 wc w.heap.size (fun _ => True) v137 y136) ∧ Aside0 (Below w.heap.size w wc))
  case first =>
    have H := HC4.out
    clear HC4
    replace H := Option.bind_eq_some_iff.mp H
    obtain ⟨t139, A70, H⟩ := H
    replace H : (if t139 = true then ((spec_KeyValid.f k a1).bind fun t140 => (if t140 = true then ((spec_l1In.f a2 0 999).bind fun t141 => (spec_PairPut.j0 k l0 a1 a2 y136 (!t141))) else (spec_PairPut.j0 k l0 a1 a2 y136 true))) else (spec_PairPut.j0 k l0 a1 a2 y136 true)) = some (r1, r2) := H
    have A7 := Aside0.mk A70
    clear A70
    by_cases c8 : t139 = true
    · subst c8
      have H1 : ((spec_KeyValid.f k a1).bind fun t140 => (if t140 = true then ((spec_l1In.f a2 0 999).bind fun t141 => (spec_PairPut.j0 k l0 a1 a2 y136 (!t141))) else (spec_PairPut.j0 k l0 a1 a2 y136 true))) = some (r1, r2) := by rw [if_pos rfl] at H; exact H
      clear H
      have H := H1
      clear H1
      replace H := Option.bind_eq_some_iff.mp H
      obtain ⟨t140, A90, H⟩ := H
      replace H : (if t140 = true then ((spec_l1In.f a2 0 999).bind fun t141 => (spec_PairPut.j0 k l0 a1 a2 y136 (!t141))) else (spec_PairPut.j0 k l0 a1 a2 y136 true)) = some (r1, r2) := H
      have A9 := Aside0.mk A90
      clear A90
      by_cases c10 : t140 = true
      · subst c10
        have H1 : ((spec_l1In.f a2 0 999).bind fun t141 => (spec_PairPut.j0 k l0 a1 a2 y136 (!t141))) = some (r1, r2) := by rw [if_pos rfl] at H; exact H
        clear H
        have H := H1
        clear H1
        replace H := Option.bind_eq_some_iff.mp H
        obtain ⟨t141, A110, H⟩ := H
        replace H : (spec_PairPut.j0 k l0 a1 a2 y136 (!t141)) = some (r1, r2) := H
        have A11 := Aside0.mk A110
        clear A110
        have H' := Aside0.mk H
        clear H
        go_wp2_with (first | ((with_reducible refine gate_callee (f := 45) rfl ?_); refine goesL_ (some 12) rfl rfl Try.func45 (by kernel_rfl) rfl #[.slice A0 l0.length c0] rfl (by (try simp only [List.map_toArray, List.map_cons, List.map_nil]); first | done | rfl | (simp only [List.length_drop, List.length_take]; rfl)) ?_; (with_reducible refine (spec_PairsValid.calls k _ _ l0 true _ ?side1 ?side2 A7.out).mono ?_); (case side1 => repeat (first | exact (Kd.C_below HR0.out HB.out) | (with_reducible refine Kd.C_alloc ?_ _) | (with_reducible refine Kd.C_drewN ?_ _) | (with_reducible refine Kd.C_drew ?_))); (case side2 => exact HC0.out); rintro e w12 ⟨rfl, hb⟩; refine ⟨_, rfl, ?_⟩; have n0_ := Aside0.mk (Kd.R_below (by (with_reducible repeat (first | apply Kd.R_alloc | apply Kd.R_drewN | apply Kd.R_drew)); exact HO138.out) hb); have n1_ := Aside0.mk (below_step (by repeat (first | (with_reducible first | exact HB.out | apply below_alloc | apply pw_below_drewN | apply below_drew1) | exact HB.out)) hb); clear HO138; clear HB; have HO138 := n0_; have HB := n1_; clear n0_ n1_; (try clear hb); (try clear hb2); (try clear hk); (try clear hi)) | (go_at_call 54; (with_reducible refine (spec_KeyValid.calls k a1 true _ A9.out).mono ?_); rintro e w' ⟨rfl, ⟨nd, rfl⟩⟩) | (go_at_call 55; (with_reducible refine (spec_l1In.calls a2 0 999 t141 _ A11.out).mono ?_); rintro e w' ⟨rfl, ⟨nd, rfl⟩⟩))
        go_meet
        case rel => exact ⟨_, (!t141), (by first | rfl | (simp; done) | (simp [bne]; done) | (simp [*]; done)), H', ⟨by first | omega | exact Nat.le_refl _⟩, ⟨by (with_reducible repeat (first | apply Kd.R_alloc | apply Kd.R_drewN | apply Kd.R_drew)); exact HO138.out⟩, ⟨by repeat (first | (with_reducible first | exact HB.out | apply below_alloc | apply pw_below_drewN | apply below_drew1) | exact HB.out)⟩⟩
      · replace c10 := Bool.eq_false_iff.mpr c10
        subst c10
        have H1 : (spec_PairPut.j0 k l0 a1 a2 y136 true) = some (r1, r2) := by rw [if_neg (show ¬ (false = true) by decide)] at H; exact H
        clear H
        have H := H1
        clear H1
        have H' := Aside0.mk H
        clear H
        go_wp2_with (first | ((with_reducible refine gate_callee (f := 45) rfl ?_); refine goesL_ (some 12) rfl rfl Try.func45 (by kernel_rfl) rfl #[.slice A0 l0.length c0] rfl (by (try simp only [List.map_toArray, List.map_cons, List.map_nil]); first | done | rfl | (simp only [List.length_drop, List.length_take]; rfl)) ?_; (with_reducible refine (spec_PairsValid.calls k _ _ l0 true _ ?side1 ?side2 A7.out).mono ?_); (case side1 => repeat (first | exact (Kd.C_below HR0.out HB.out) | (with_reducible refine Kd.C_alloc ?_ _) | (with_reducible refine Kd.C_drewN ?_ _) | (with_reducible refine Kd.C_drew ?_))); (case side2 => exact HC0.out); rintro e w13 ⟨rfl, hb⟩; refine ⟨_, rfl, ?_⟩; have n0_ := Aside0.mk (Kd.R_below (by (with_reducible repeat (first | apply Kd.R_alloc | apply Kd.R_drewN | apply Kd.R_drew)); exact HO138.out) hb); have n1_ := Aside0.mk (below_step (by repeat (first | (with_reducible first | exact HB.out | apply below_alloc | apply pw_below_drewN | apply below_drew1) | exact HB.out)) hb); clear HO138; clear HB; have HO138 := n0_; have HB := n1_; clear n0_ n1_; (try clear hb); (try clear hb2); (try clear hk); (try clear hi)) | (go_at_call 54; (with_reducible refine (spec_KeyValid.calls k a1 false _ A9.out).mono ?_); rintro e w' ⟨rfl, ⟨nd, rfl⟩⟩))
        go_meet
        case rel => exact ⟨_, (true), (by first | rfl | (simp; done) | (simp [bne]; done) | (simp [*]; done)), H', ⟨by first | omega | exact Nat.le_refl _⟩, ⟨by (with_reducible repeat (first | apply Kd.R_alloc | apply Kd.R_drewN | apply Kd.R_drew)); exact HO138.out⟩, ⟨by repeat (first | (with_reducible first | exact HB.out | apply below_alloc | apply pw_below_drewN | apply below_drew1) | exact HB.out)⟩⟩
    · replace c8 := Bool.eq_false_iff.mpr c8
      subst c8
      have H1 : (spec_PairPut.j0 k l0 a1 a2 y136 true) = some (r1, r2) := by rw [if_neg (show ¬ (false = true) by decide)] at H; exact H
      clear H
      have H := H1
      clear H1
      have H' := Aside0.mk H
      clear H
      go_wp2_with (first | ((with_reducible refine gate_callee (f := 45) rfl ?_); refine goesL_ (some 12) rfl rfl Try.func45 (by kernel_rfl) rfl #[.slice A0 l0.length c0] rfl (by (try simp only [List.map_toArray, List.map_cons, List.map_nil]); first | done | rfl | (simp only [List.length_drop, List.length_take]; rfl)) ?_; (with_reducible refine (spec_PairsValid.calls k _ _ l0 false _ ?side1 ?side2 A7.out).mono ?_); (case side1 => repeat (first | exact (Kd.C_below HR0.out HB.out) | (with_reducible refine Kd.C_alloc ?_ _) | (with_reducible refine Kd.C_drewN ?_ _) | (with_reducible refine Kd.C_drew ?_))); (case side2 => exact HC0.out); rintro e w14 ⟨rfl, hb⟩; refine ⟨_, rfl, ?_⟩; have n0_ := Aside0.mk (Kd.R_below (by (with_reducible repeat (first | apply Kd.R_alloc | apply Kd.R_drewN | apply Kd.R_drew)); exact HO138.out) hb); have n1_ := Aside0.mk (below_step (by repeat (first | (with_reducible first | exact HB.out | apply below_alloc | apply pw_below_drewN | apply below_drew1) | exact HB.out)) hb); clear HO138; clear HB; have HO138 := n0_; have HB := n1_; clear n0_ n1_; (try clear hb); (try clear hb2); (try clear hk); (try clear hi)))
      go_meet
      case rel => exact ⟨_, (true), (by first | rfl | (simp; done) | (simp [bne]; done) | (simp [*]; done)), H', ⟨by first | omega | exact Nat.le_refl _⟩, ⟨by (with_reducible repeat (first | apply Kd.R_alloc | apply Kd.R_drewN | apply Kd.R_drew)); exact HO138.out⟩, ⟨by repeat (first | (with_reducible first | exact HB.out | apply below_alloc | apply pw_below_drewN | apply below_drew1) | exact HB.out)⟩⟩
  case rest =>
    clear HC4
    try clear c1
    try clear p2
    try clear c4
    try clear c8
    try clear c10
    obtain ⟨kq, x23_3, rfl, HA, HJ3, HO_8, HB⟩ := hcut
    cases kq with
    | zero => exact absurd HA.out (by simp [spec_PairPut.j0])
    | succ kj3 =>
      have H := HA.out
      clear HA
      simp only [spec_PairPut.j0] at H
      by_cases c15 : x23_3 = true
      · subst c15
        have H1 : (some (y136, false)) = some (r1, r2) := by rw [if_pos rfl] at H; exact H
        clear H
        have H := H1
        clear H1
        simp only [Option.some.injEq, Prod.mk.injEq] at H
        obtain ⟨rfl, rfl⟩ := H
        go_wp2
        go_ret2
        exact ⟨_, by first | rfl | (simp only [u8_w_, w64_u8_]; done) | (simp only [u8_w_, w64_u8_]; rfl) | (simp [errW_none, errW_some] <;> rfl) | (simp [*, errW_none, errW_some] <;> rfl), by (with_reducible repeat (first | apply Kd.R_alloc | apply Kd.R_drewN | apply Kd.R_drew)); exact HO_8.out, by repeat (first | (with_reducible first | exact HB.out | apply below_alloc | apply pw_below_drewN | apply below_drew1) | exact HB.out)⟩
      · replace c15 := Bool.eq_false_iff.mpr c15
        subst c15
        have H1 : ((spec_l4Place.f kj3 l0 a1).bind fun t142 => (if t142 < (l0.length : Int) then (if 0 ≤ t142 then (spec_PairPut.j1 kj3 l0 a1 a2 y136 t142 (((rd_T69 l0 t142).f0).toList == a1.toList)) else (none)) else (spec_PairPut.j1 kj3 l0 a1 a2 y136 t142 false))) = some (r1, r2) := by rw [if_neg (show ¬ (false = true) by decide)] at H; exact H
        clear H
        have H := H1
        clear H1
        replace H := Option.bind_eq_some_iff.mp H
        obtain ⟨t142, A160, H⟩ := H
        replace H : (if t142 < (l0.length : Int) then (if 0 ≤ t142 then (spec_PairPut.j1 kj3 l0 a1 a2 y136 t142 (((rd_T69 l0 t142).f0).toList == a1.toList)) else (none)) else (spec_PairPut.j1 kj3 l0 a1 a2 y136 t142 false)) = some (r1, r2) := H
        have A16 := Aside0.mk A160
        clear A160
        have HC17 := Aside0.mk H
        clear H
        go_upto_region 5 with (first | ((with_reducible refine gate_callee (f := 46) rfl ?_); refine goesL_ (some 27) rfl rfl Try.func46 (by kernel_rfl) rfl #[.slice A0 l0.length c0, .string a1] rfl (by (try simp only [List.map_toArray, List.map_cons, List.map_nil]); first | done | rfl | (simp only [List.length_drop, List.length_take]; rfl)) ?_; (with_reducible refine (spec_l4Place.calls kj3 _ _ l0 a1 t142 _ ?side1 ?side2 A16.out).mono ?_); (case side1 => repeat (first | exact (Kd.C_below HR0.out HB.out) | (with_reducible refine Kd.C_alloc ?_ _) | (with_reducible refine Kd.C_drewN ?_ _) | (with_reducible refine Kd.C_drew ?_))); (case side2 => exact HC0.out); rintro e w' ⟨rfl, ⟨nd, rfl⟩⟩; refine ⟨_, rfl, ?_⟩))
        (try simp only [Act.put, List.setIfInBounds_toArray, List.set_cons_zero, List.set_cons_succ])
        go_cut [40] (fun v40 wc => ∃ (kq : Nat) (x40_16 : Bool), v40 = .bool x40_16 ∧ Aside0 (spec_PairPut.j1 kq l0 a1 a2 y136 t142 x40_16 = some (r1, r2)) ∧ Aside0 (kq ≤ kj3) ∧ Aside0 (Kd.R k69 69 wc w.heap.size (fun _ => True) v137 y136) ∧ Aside0 (Below w.heap.size w wc))
        case first =>
          have H := HC17.out
          clear HC17
          by_cases c18 : t142 < (l0.length : Int)
          · rw [if_pos c18] at H
            have c18b0 : decide (t142 < (l0.length : Int)) = true := decide_eq_true c18
            clear c18
            (first | rw [c18b0] | (simp only [i64_w, i32_w]; rw [c18b0]) | skip)
            by_cases c19 : 0 ≤ t142
            · rw [if_pos c19] at H
              have c19b0 : decide (0 ≤ t142) = true := decide_eq_true c19
              clear c19
              have H' := Aside0.mk H
              clear H
              have p143 : 0 ≤ (t142 : Int) := of_decide_eq_true (by first | (with_reducible assumption) | assumption)
              have q143 : t142 < (l0.length : Int) := of_decide_eq_true (by first | (with_reducible assumption) | assumption)
              obtain ⟨ad143, e143, hx143_0, hx143_1⟩ := at_T69 HR0.out t142 p143 q143
              cases e143
              replace hx143_0 := (HB.out.cell (World.block_lt_of_cell? w _ hx143_0)).trans hx143_0
              replace hx143_1 := (HB.out.cell (World.block_lt_of_cell? w _ hx143_1)).trans hx143_1
              replace p143 := eq_true p143
              replace q143 := eq_true q143
              go_wp2
              go_meet
              case rel => exact ⟨_, ((((rd_T69 l0 t142).f0).toList == a1.toList)), (by first | rfl | (simp; done) | (simp [bne]; done) | (simp [*]; done)), H', ⟨by have := HJ3.out; first | omega | exact Nat.le_refl _⟩, ⟨by (with_reducible repeat (first | apply Kd.R_alloc | apply Kd.R_drewN | apply Kd.R_drew)); exact HO_8.out⟩, ⟨by repeat (first | (with_reducible first | exact HB.out | apply below_alloc | apply pw_below_drewN | apply below_drew1) | exact HB.out)⟩⟩
            · rw [if_neg c19] at H
              exact absurd H (by simp)
          · rw [if_neg c18] at H
            have c18b0 : decide (t142 < (l0.length : Int)) = false := decide_eq_false c18
            clear c18
            (first | rw [c18b0] | (simp only [i64_w, i32_w]; rw [c18b0]) | skip)
            have H' := Aside0.mk H
            clear H
            go_wp2
            go_meet
            case rel => exact ⟨_, (false), (by first | rfl | (simp; done) | (simp [bne]; done) | (simp [*]; done)), H', ⟨by have := HJ3.out; first | omega | exact Nat.le_refl _⟩, ⟨by (with_reducible repeat (first | apply Kd.R_alloc | apply Kd.R_drewN | apply Kd.R_drew)); exact HO_8.out⟩, ⟨by repeat (first | (with_reducible first | exact HB.out | apply below_alloc | apply pw_below_drewN | apply below_drew1) | exact HB.out)⟩⟩
        case rest =>
          clear HC17
          try clear c1
          try clear p1
          try clear q1
          try clear hx1
          try clear p2
          try clear c4
          try clear c8
          try clear c10
          try clear p14
          try clear q14
          try clear hx14
          try clear c15
          try clear c18
          try clear c18b0
          try clear c19
          try clear c19b0
          try clear hx143_0
          try clear hx143_1
          try clear p143
          try clear p2
          try clear q143
          obtain ⟨kq, x40_16, rfl, HA, HJ16, HO_8, HB⟩ := hcut
          cases kq with
          | zero => exact absurd HA.out (by simp [spec_PairPut.j1])
          | succ kj16 =>
            have H := HA.out
            clear HA
            simp only [spec_PairPut.j1] at H
            by_cases c20 : x40_16 = true
            · subst c20
              have H1 : (if y136.length + l0.length < 5864062014805 then ((some (y136 ++ l0 : List (S69))).bind fun y144 => (if 0 ≤ t142 then (if t142 < (y144.length : Int) then (some ((y144.set (t142 : Int).toNat (⟨(rd_T69 y144 t142).f0, a2⟩ : S69)), true)) else (none)) else (none))) else (none)) = some (r1, r2) := by rw [if_pos rfl] at H; exact H
              clear H
              have H := H1
              clear H1
              by_cases c21 : y136.length + l0.length < 5864062014805
              · rw [if_pos c21] at H
                have LMc21 := Aside0.mk c21
                clear c21
                obtain ⟨y144, hy144⟩ : ∃ y_ : List (S69), y_ = (y136 ++ l0) := ⟨_, rfl⟩
                replace H : (if 0 ≤ t142 then (if t142 < (y144.length : Int) then (some ((y144.set (t142 : Int).toNat (⟨(rd_T69 y144 t142).f0, a2⟩ : S69)), true)) else (none)) else (none)) = some (r1, r2) := by first | (rw [hy144]; with_reducible exact H) | (have H2_ := (Option.bind_some _ _).symm.trans H; rw [hy144]; with_reducible exact H2_) | (have H2_ := (Option.bind_some _ _).symm.trans H; with_reducible exact H2_) | with_reducible exact H | (rw [hy144]; exact H) | exact H
                have Ny144 := Aside0.mk hy144
                clear hy144
                by_cases c22 : 0 ≤ t142
                · rw [if_pos c22] at H
                  have c22b0 : decide (0 ≤ t142) = true := decide_eq_true c22
                  clear c22
                  by_cases c23 : t142 < (y144.length : Int)
                  · rw [if_pos c23] at H
                    have c23b0 : decide (t142 < (y144.length : Int)) = true := decide_eq_true c23
                    clear c23
                    obtain ⟨y147, hy147⟩ : ∃ y_ : List (S69), y_ = (y144.set (t142 : Int).toNat (⟨(rd_T69 y144 t142).f0, a2⟩ : S69)) := ⟨_, rfl⟩
                    replace H : (some (y147, true)) = some (r1, r2) := by first | (rw [hy147]; with_reducible exact H) | (have H2_ := (Option.bind_some _ _).symm.trans H; rw [hy147]; with_reducible exact H2_) | (have H2_ := (Option.bind_some _ _).symm.trans H; with_reducible exact H2_) | with_reducible exact H | (rw [hy147]; exact H) | exact H
                    have Ny147 := Aside0.mk hy147
                    clear hy147
                    simp only [Option.some.injEq, Prod.mk.injEq] at H
                    obtain ⟨rfl, rfl⟩ := H
                    go_wp2_with (first | ((with_reducible refine gate_builtin (b := .append) (xs := #[.tmp 41, .tmp 42]) rfl ?_); at_builtin; refine Kd.R_append_rows k69 (w0 := w) w.heap.size rfl (.tmp 41) (.tmp 42) 24 69 (.agg #[(.string ⟨#[]⟩), (.int .i64 0)]) 24 rfl Try.underlying24 info69 rfl (by decide) (by omega) v137 y136 l0 _ _ _ (fun _ => True) (fun _ => False) rfl rfl ?aO ?aR (fun _ _ h => h) (fun _ h => h.elim) ?aF ?aB ?aS ?aL ?_; (case aR => repeat (first | exact (Kd.C_below HR0.out HB.out) | (with_reducible refine Kd.C_alloc ?_ _) | (with_reducible refine Kd.C_drewN ?_ _) | (with_reducible refine Kd.C_drew ?_))); (case aB => exact (by repeat (first | (with_reducible first | exact HB.out | apply below_alloc | apply pw_below_drewN | apply below_drew1) | exact HB.out))); (case aF => exact (fun _ _ => trivial)); (case aO => exact (by (with_reducible repeat (first | apply Kd.R_alloc | apply Kd.R_drewN | apply Kd.R_drew)); exact HO_8.out)); (case aS => exact (below_size (by repeat (first | (with_reducible first | exact HB.out | apply below_alloc | apply pw_below_drewN | apply below_drew1) | exact HB.out)))); (case aL => have := LMc21.out; omega); intro v145 w25 ho hb hg hat; rw [← Ny144.out] at ho; have n0_ := Aside0.mk (hb); have n1_ := Aside0.mk (ho); clear HB; clear HO_8; have HB := n0_; have HO146 := n1_; clear n0_ n1_; clear ho hb hg hat; have p24 : 0 ≤ (t142 : Int) := of_decide_eq_true (by first | (with_reducible assumption) | assumption); have q24 : (t142 : Int) < ((y144.length : Int) : Int) := of_decide_eq_true (by first | (with_reducible assumption) | assumption); obtain ⟨go24, co24, eo24, gb24, gl24, cl24, HG24⟩ := Kd.R_form HO146.out (by omega); (first | cases eo24 | (injection eo24 with ea_ en_ ec_; (first | subst ea_ | (injection ea_ with ea_; subst ea_)); subst ec_; clear en_)); have GB24 := Aside0.mk gb24; have GG24 := Aside0.mk HG24; clear gb24 gl24 HG24; obtain ⟨ce24, hcl24, hM24, hcc24, hfr24⟩ := Kd.R_elem HO146.out z69 (t142 : Int) p24 q24; obtain rfl := k69_openM hM24; have hx24_0 : w25.cell? ⟨go24, (t142 : Int).toNat * 2, none⟩ = some (.string ((rd_T69 y144 t142).f0)) := hcc24 0 _ rfl; have hx24_1 : w25.cell? ⟨go24, (t142 : Int).toNat * 2 + 1, none⟩ = some (.int .i64 ((rd_T69 y144 t142).f1)) := hcc24 1 _ rfl; have hf24_0 : w25.frozen? ⟨go24, (t142 : Int).toNat * 2, none⟩ = false := hfr24 0; have hf24_1 : w25.frozen? ⟨go24, (t142 : Int).toNat * 2 + 1, none⟩ = false := hfr24 1; clear hcl24 hcc24 hfr24 hM24; replace p24 := eq_true p24; replace q24 := eq_true q24; have HX26 := Aside0.mk (show Kd.R k69 69 w25 w.heap.size (fun _ => True) (.slice (some ⟨go24, 0, none⟩) y144.length co24) y144 from (by (with_reducible repeat (first | apply Kd.R_alloc | apply Kd.R_drewN | apply Kd.R_drew)); exact HO146.out)); obtain ⟨ce26, hcl26, hM26, hcc26, hfr26⟩ := Kd.R_elem HX26.out z69 (t142 : Int) (of_decide_eq_true (by first | (with_reducible assumption) | assumption)) (by have h_ : (t142 : Int) < ((y144.length : Int) : Int) := of_decide_eq_true (by first | (with_reducible assumption) | assumption); first | exact h_ | (have e_ := (Kd.R_reads' HO146.out).1; omega) | simpa using h_); obtain rfl := k69_openM hM26; have HP26 := Kd.R_seg HX26.out (t142 : Int) (of_decide_eq_true (by first | (with_reducible assumption) | assumption)) (by have h_ : (t142 : Int) < ((y144.length : Int) : Int) := of_decide_eq_true (by first | (with_reducible assumption) | assumption); first | exact h_ | (have e_ := (Kd.R_reads' HO146.out).1; omega) | simpa using h_) (seg := [.int .i64 a2]) (j := 1) hcl26 hcc26 (show 2 ≤ 2 from by decide) (x' := (⟨(rd_T69 y144 t142).f0, a2⟩ : S69)) (k69_mkM _ _ _ (⟨(rd_T69 y144 t142).f0, a2⟩ : S69) ) (fun _ hk => hk); have hx26_1 := hcc26 1 _ rfl; (try simp only [show (k69).sz = 2 from rfl, Nat.mul_one, Nat.add_zero] at hx26_1); have hf26_1 := hfr26 1; (try simp only [show (k69).sz = 2 from rfl, Nat.mul_one, Nat.add_zero] at hf26_1); clear hcl26 hcc26 hfr26 hM26) | ((with_reducible refine gate_store (t := 3) (p := 48) rfl ?_); refine store_event (t := 3) (p := 48) (v := ?vo_w27) (w1 := (w25.setCell ⟨go24, (t142 : Int).toNat * 2 + 1, none⟩ (.int .i64 a2))) ?hg ?ho ?hn ?hr ?_; (case ho => rfl); (case hg => rfl); (case hn => rfl); (case hr => first | (go_simp; done) | (go_simp; rfl)); intro w27 hw; have hg : w25.grownBy w27 (some go24) := (by rw [hw]; exact HP26.2); have hp_ : Kd.R k69 69 w27 w.heap.size (fun _ => True) (.slice (some ⟨go24, 0, none⟩) y144.length co24) y147 := (by rw [hw, Ny147.out]; exact HP26.1); clear HP26; have n0_ := Aside0.mk (hp_); have n1_ := Aside0.mk ((by rw [hw]; exact below_set (HB.out) GB24.out : Below w.heap.size w w27)); clear HO146; clear HB; have HO146 := n0_; have HB := n1_; clear n0_ n1_; clear hg hw hp_))
                    go_ret2
                    exact ⟨_, by first | rfl | (simp only [u8_w_, w64_u8_]; done) | (simp only [u8_w_, w64_u8_]; rfl) | (simp [errW_none, errW_some] <;> rfl) | (simp [*, errW_none, errW_some] <;> rfl), by (with_reducible repeat (first | apply Kd.R_alloc | apply Kd.R_drewN | apply Kd.R_drew)); exact HO146.out, by repeat (first | (with_reducible first | exact HB.out | apply below_alloc | apply pw_below_drewN | apply below_drew1) | exact HB.out)⟩
                  · rw [if_neg c23] at H
                    exact absurd H (by simp)
                · rw [if_neg c22] at H
                  exact absurd H (by simp)
              · rw [if_neg c21] at H
                exact absurd H (by simp)
            · replace c20 := Bool.eq_false_iff.mpr c20
              subst c20
              have H1 : (if (l0.length : Int) ≥ 48 then (if y136.length + l0.length < 5864062014805 then (some ((y136 ++ l0), false)) else (none)) else (if 0 ≤ t142 then (if t142 ≤ (l0.length : Int) then ((some (l0.take (t142 : Int).toNat : List (S69))).bind fun y151 => (if y136.length + y151.length < 5864062014805 then ((some (y136 ++ y151 : List (S69))).bind fun y155 => (if y155.length < 5864062014805 then ((some (y155 ++ [(⟨a1, a2⟩ : S69)] : List (S69))).bind fun y158 => ((some (l0.drop (t142 : Int).toNat : List (S69))).bind fun y161 => (if y158.length + y161.length < 5864062014805 then (some ((y158 ++ y161), true)) else (none)))) else (none))) else (none))) else (none)) else (none))) = some (r1, r2) := by rw [if_neg (show ¬ (false = true) by decide)] at H; exact H
              clear H
              have H := H1
              clear H1
              by_cases c28 : (l0.length : Int) ≥ 48
              · rw [if_pos c28] at H
                have c28b0 : decide (48 ≤ (l0.length : Int)) = true := decide_eq_true c28
                have c28b1 : decide (48 ≤ l0.length) = true := decide_eq_true (by omega)
                clear c28
                by_cases c29 : y136.length + l0.length < 5864062014805
                · rw [if_pos c29] at H
                  have LMc29 := Aside0.mk c29
                  clear c29
                  obtain ⟨y148, hy148⟩ : ∃ y_ : List (S69), y_ = (y136 ++ l0) := ⟨_, rfl⟩
                  replace H : (some (y148, false)) = some (r1, r2) := by first | (rw [hy148]; with_reducible exact H) | (have H2_ := (Option.bind_some _ _).symm.trans H; rw [hy148]; with_reducible exact H2_) | (have H2_ := (Option.bind_some _ _).symm.trans H; with_reducible exact H2_) | with_reducible exact H | (rw [hy148]; exact H) | exact H
                  have Ny148 := Aside0.mk hy148
                  clear hy148
                  simp only [Option.some.injEq, Prod.mk.injEq] at H
                  obtain ⟨rfl, rfl⟩ := H
                  go_wp2_with (first | ((with_reducible refine gate_builtin (b := .append) (xs := #[.tmp 53, .tmp 54]) rfl ?_); at_builtin; refine Kd.R_append_rows k69 (w0 := w) w.heap.size rfl (.tmp 53) (.tmp 54) 24 69 (.agg #[(.string ⟨#[]⟩), (.int .i64 0)]) 24 rfl Try.underlying24 info69 rfl (by decide) (by omega) v137 y136 l0 _ _ _ (fun _ => True) (fun _ => False) rfl rfl ?aO ?aR (fun _ _ h => h) (fun _ h => h.elim) ?aF ?aB ?aS ?aL ?_; (case aR => repeat (first | exact (Kd.C_below HR0.out HB.out) | (with_reducible refine Kd.C_alloc ?_ _) | (with_reducible refine Kd.C_drewN ?_ _) | (with_reducible refine Kd.C_drew ?_))); (case aB => exact (by repeat (first | (with_reducible first | exact HB.out | apply below_alloc | apply pw_below_drewN | apply below_drew1) | exact HB.out))); (case aF => exact (fun _ _ => trivial)); (case aO => exact (by (with_reducible repeat (first | apply Kd.R_alloc | apply Kd.R_drewN | apply Kd.R_drew)); exact HO_8.out)); (case aS => exact (below_size (by repeat (first | (with_reducible first | exact HB.out | apply below_alloc | apply pw_below_drewN | apply below_drew1) | exact HB.out)))); (case aL => have := LMc29.out; omega); intro v149 w30 ho hb hg hat; rw [← Ny148.out] at ho; have n0_ := Aside0.mk (hb); have n1_ := Aside0.mk (ho); clear HB; clear HO_8; have HB := n0_; have HO150 := n1_; clear n0_ n1_; clear ho hb hg hat))
                  go_ret2
                  exact ⟨_, by first | rfl | (simp only [u8_w_, w64_u8_]; done) | (simp only [u8_w_, w64_u8_]; rfl) | (simp [errW_none, errW_some] <;> rfl) | (simp [*, errW_none, errW_some] <;> rfl), by (with_reducible repeat (first | apply Kd.R_alloc | apply Kd.R_drewN | apply Kd.R_drew)); exact HO150.out, by repeat (first | (with_reducible first | exact HB.out | apply below_alloc | apply pw_below_drewN | apply below_drew1) | exact HB.out)⟩
                · rw [if_neg c29] at H
                  exact absurd H (by simp)
              · rw [if_neg c28] at H
                have c28b0 : decide (48 ≤ (l0.length : Int)) = false := decide_eq_false c28
                have c28b1 : decide (48 ≤ l0.length) = false := decide_eq_false (by omega)
                clear c28
                by_cases c31 : 0 ≤ t142
                · rw [if_pos c31] at H
                  have c31b0 := eq_true c31
                  have c31b1 : decide (0 ≤ t142) = true := decide_eq_true c31
                  clear c31
                  by_cases c32 : t142 ≤ (l0.length : Int)
                  · rw [if_pos c32] at H
                    have c32b0 := eq_true c32
                    have c32b1 : decide (t142 ≤ (l0.length : Int)) = true := decide_eq_true c32
                    clear c32
                    obtain ⟨y151, hy151⟩ : ∃ y_ : List (S69), y_ = (l0.take (t142 : Int).toNat) := ⟨_, rfl⟩
                    replace H : (if y136.length + y151.length < 5864062014805 then ((some (y136 ++ y151 : List (S69))).bind fun y155 => (if y155.length < 5864062014805 then ((some (y155 ++ [(⟨a1, a2⟩ : S69)] : List (S69))).bind fun y158 => ((some (l0.drop (t142 : Int).toNat : List (S69))).bind fun y161 => (if y158.length + y161.length < 5864062014805 then (some ((y158 ++ y161), true)) else (none)))) else (none))) else (none)) = some (r1, r2) := by first | (rw [hy151]; with_reducible exact H) | (have H2_ := (Option.bind_some _ _).symm.trans H; rw [hy151]; with_reducible exact H2_) | (have H2_ := (Option.bind_some _ _).symm.trans H; with_reducible exact H2_) | with_reducible exact H | (rw [hy151]; exact H) | exact H
                    have Ny151 := Aside0.mk hy151
                    clear hy151
                    by_cases c33 : y136.length + y151.length < 5864062014805
                    · rw [if_pos c33] at H
                      have LMc33 := Aside0.mk c33
                      clear c33
                      obtain ⟨y155, hy155⟩ : ∃ y_ : List (S69), y_ = (y136 ++ y151) := ⟨_, rfl⟩
                      replace H : (if y155.length < 5864062014805 then ((some (y155 ++ [(⟨a1, a2⟩ : S69)] : List (S69))).bind fun y158 => ((some (l0.drop (t142 : Int).toNat : List (S69))).bind fun y161 => (if y158.length + y161.length < 5864062014805 then (some ((y158 ++ y161), true)) else (none)))) else (none)) = some (r1, r2) := by first | (rw [hy155]; with_reducible exact H) | (have H2_ := (Option.bind_some _ _).symm.trans H; rw [hy155]; with_reducible exact H2_) | (have H2_ := (Option.bind_some _ _).symm.trans H; with_reducible exact H2_) | with_reducible exact H | (rw [hy155]; exact H) | exact H
                      have Ny155 := Aside0.mk hy155
                      clear hy155
                      by_cases c34 : y155.length < 5864062014805
                      · rw [if_pos c34] at H
                        have LMc34 := Aside0.mk c34
                        clear c34
                        obtain ⟨y158, hy158⟩ : ∃ y_ : List (S69), y_ = (y155 ++ [(⟨a1, a2⟩ : S69)]) := ⟨_, rfl⟩
                        replace H : ((some (l0.drop (t142 : Int).toNat : List (S69))).bind fun y161 => (if y158.length + y161.length < 5864062014805 then (some ((y158 ++ y161), true)) else (none))) = some (r1, r2) := by first | (rw [hy158]; with_reducible exact H) | (have H2_ := (Option.bind_some _ _).symm.trans H; rw [hy158]; with_reducible exact H2_) | (have H2_ := (Option.bind_some _ _).symm.trans H; with_reducible exact H2_) | with_reducible exact H | (rw [hy158]; exact H) | exact H
                        have Ny158 := Aside0.mk hy158
                        clear hy158
                        have c35b0 := eq_true (of_decide_eq_true (by first | (with_reducible assumption) | assumption) : 0 ≤ t142)
                        have c36b0 := eq_true (of_decide_eq_true (by first | (with_reducible assumption) | assumption) : t142 ≤ (l0.length : Int))
                        obtain ⟨y161, hy161⟩ : ∃ y_ : List (S69), y_ = (l0.drop (t142 : Int).toNat) := ⟨_, rfl⟩
                        replace H : (if y158.length + y161.length < 5864062014805 then (some ((y158 ++ y161), true)) else (none)) = some (r1, r2) := by first | (rw [hy161]; with_reducible exact H) | (have H2_ := (Option.bind_some _ _).symm.trans H; rw [hy161]; with_reducible exact H2_) | (have H2_ := (Option.bind_some _ _).symm.trans H; with_reducible exact H2_) | with_reducible exact H | (rw [hy161]; exact H) | exact H
                        have Ny161 := Aside0.mk hy161
                        clear hy161
                        by_cases c37 : y158.length + y161.length < 5864062014805
                        · rw [if_pos c37] at H
                          have LMc37 := Aside0.mk c37
                          clear c37
                          obtain ⟨y165, hy165⟩ : ∃ y_ : List (S69), y_ = (y158 ++ y161) := ⟨_, rfl⟩
                          replace H : (some (y165, true)) = some (r1, r2) := by first | (rw [hy165]; with_reducible exact H) | (have H2_ := (Option.bind_some _ _).symm.trans H; rw [hy165]; with_reducible exact H2_) | (have H2_ := (Option.bind_some _ _).symm.trans H; with_reducible exact H2_) | with_reducible exact H | (rw [hy165]; exact H) | exact H
                          have Ny165 := Aside0.mk hy165
                          clear hy165
                          simp only [Option.some.injEq, Prod.mk.injEq] at H
                          obtain ⟨rfl, rfl⟩ := H
                          have q38 : (t142 : Int) ≤ ((l0.length : Int) : Int) := of_decide_eq_true (by first | (with_reducible assumption) | assumption)
                          obtain ⟨i038, hi038, _, hsz38, _⟩ := info_parts info69
                          have hroom38 : l0.length ≤ c0 := HC0.out
                          have hC38 : Kd.C k69 _ A0 l0.length l0 := HR0.out
                          have hcut38 := cut_to (P := Try.prog) 24 69 .i64 Try.underlying24 hi038 A0 l0.length c0 t142 (of_decide_eq_true (by first | (with_reducible assumption) | assumption)) q38 hroom38
                          have hr38 := Kd.C_take (m := (t142 : Int).toNat) hC38 (by omega)
                          have hy38 : y151.length = (t142 : Int).toNat := (by rw [Ny151.out, List.length_take]; omega)
                          rw [← Ny151.out] at hr38
                          rw [← hy38] at hcut38
                          have HR154 := Aside0.mk hr38
                          have HC154 := Aside0.mk (show y151.length ≤ c0 from by omega)
                          clear hr38 hC38 hroom38 hi038 hsz38
                          have KY38 := Aside0.mk hy38
                          clear hy38
                          replace q38 := eq_true q38
                          go_wp2_with (first | ((with_reducible refine gate_builtin (b := .append) (xs := #[.tmp 56, .tmp 59]) rfl ?_); at_builtin; refine Kd.R_append_rows k69 (w0 := w) w.heap.size rfl (.tmp 56) (.tmp 59) 24 69 (.agg #[(.string ⟨#[]⟩), (.int .i64 0)]) 24 rfl Try.underlying24 info69 rfl (by decide) (by omega) v137 y136 y151 _ _ _ (fun _ => True) (fun _ => False) rfl rfl ?aO ?aR (fun _ _ h => h) (fun _ h => h.elim) ?aF ?aB ?aS ?aL ?_; (case aR => repeat (first | exact (Kd.C_below HR154.out HB.out) | (with_reducible refine Kd.C_alloc ?_ _) | (with_reducible refine Kd.C_drewN ?_ _) | (with_reducible refine Kd.C_drew ?_))); (case aB => exact (by repeat (first | (with_reducible first | exact HB.out | apply below_alloc | apply pw_below_drewN | apply below_drew1) | exact HB.out))); (case aF => exact (fun _ _ => trivial)); (case aO => exact (by (with_reducible repeat (first | apply Kd.R_alloc | apply Kd.R_drewN | apply Kd.R_drew)); exact HO_8.out)); (case aS => exact (below_size (by repeat (first | (with_reducible first | exact HB.out | apply below_alloc | apply pw_below_drewN | apply below_drew1) | exact HB.out)))); (case aL => have := LMc33.out; omega); intro v156 w39 ho hb hg hat; rw [← Ny155.out] at ho; have n0_ := Aside0.mk (hb); have n1_ := Aside0.mk (ho); clear HB; clear HO_8; have HB := n0_; have HO157 := n1_; clear n0_ n1_; clear ho hb hg hat) | ((with_reducible refine gate_builtin (b := .append) (xs := #[.tmp 61, .tmp 65]) rfl ?_); at_builtin; refine Kd.R_append k69 (w0 := w) w.heap.size rfl (.tmp 61) (.tmp 65) 24 69 (.agg #[(.string ⟨#[]⟩), (.int .i64 0)]) 24 rfl Try.underlying24 info69 rfl (by decide) (by omega) v156 y155 (⟨a1, a2⟩ : S69) [.string a1, .int .i64 a2] (fun _ => True) (fun _ => False) rfl rfl ?aP (fun _ hk => hk.elim) ?aF ?aO ?aB ?aS ?aL ?_; (case aP => exact k69_mkM _ _ _ (⟨a1, a2⟩ : S69)); (case aB => exact (by repeat (first | (with_reducible first | exact HB.out | apply below_alloc | apply pw_below_drewN | apply below_drew1) | exact HB.out))); (case aF => exact (fun _ _ => trivial)); (case aO => exact (by (with_reducible repeat (first | apply Kd.R_alloc | apply Kd.R_drewN | apply Kd.R_drew)); exact HO157.out)); (case aS => exact (below_size (by repeat (first | (with_reducible first | exact HB.out | apply below_alloc | apply pw_below_drewN | apply below_drew1) | exact HB.out)))); (case aL => have := LMc34.out; omega); intro v159 w40 ho hb hg hat; rw [← Ny158.out] at ho; have n0_ := Aside0.mk (hb); have n1_ := Aside0.mk (ho); clear HB; clear HO157; have HB := n0_; have HO160 := n1_; clear n0_ n1_; clear ho hb hg hat; have q41 : (t142 : Int) ≤ ((l0.length : Int) : Int) := of_decide_eq_true (by first | (with_reducible assumption) | assumption); obtain ⟨i041, hi041, _, hsz41, _⟩ := info_parts info69; have hroom41 : l0.length ≤ c0 := HC0.out; have hC41 : Kd.C k69 _ A0 l0.length l0 := HR0.out; have q041 : (0 : Int) ≤ (t142 : Int) := of_decide_eq_true (by first | (with_reducible assumption) | assumption); have hcut41 := cut_from (P := Try.prog) 24 69 .i64 Try.underlying24 hi041 2 hsz41 A0 l0.length c0 t142 q041 q41; have hr41 := Kd.C_drop (m := (t142 : Int).toNat) (c := c0) hC41 (by omega) hroom41; obtain ⟨A41, hA41⟩ : ∃ A1, A1 = (if c0 = (t142 : Int).toNat then A0 else (A0 : Option Addr).map (·.add ((t142 : Int).toNat * 2))) := ⟨_, rfl⟩; obtain ⟨c41, hc41⟩ : ∃ c1, c1 = c0 - (t142 : Int).toNat := ⟨_, rfl⟩; have hy41 : y161.length = l0.length - (t142 : Int).toNat := (by rw [Ny161.out, List.length_drop] <;> omega); rw [show (l0).drop (t142 : Int).toNat = y161 from Ny161.out.symm] at hr41; replace hr41 : Kd.C k69 _ A41 y161.length y161 := (by rw [hA41]; exact hr41); rw [← hy41, ← hA41, ← hc41] at hcut41; have HR164 := Aside0.mk hr41; have HC164 := Aside0.mk (show y161.length ≤ c41 from by rw [hy41, hc41]; exact Nat.sub_le_sub_right hroom41 _); clear hr41 hC41 hroom41 hi041 hsz41 hc41; have KY41 := Aside0.mk hy41; have KA41 := Aside0.mk hA41; clear hy41 hA41; replace q41 := eq_true q41) | ((with_reducible refine gate_builtin (b := .append) (xs := #[.tmp 67, .tmp 70]) rfl ?_); at_builtin; refine Kd.R_append_rows k69 (w0 := w) w.heap.size rfl (.tmp 67) (.tmp 70) 24 69 (.agg #[(.string ⟨#[]⟩), (.int .i64 0)]) 24 rfl Try.underlying24 info69 rfl (by decide) (by omega) v159 y158 y161 _ _ _ (fun _ => True) (fun _ => False) rfl rfl ?aO ?aR (fun _ _ h => h) (fun _ h => h.elim) ?aF ?aB ?aS ?aL ?_; (case aR => repeat (first | exact (Kd.C_below HR164.out HB.out) | (with_reducible refine Kd.C_alloc ?_ _) | (with_reducible refine Kd.C_drewN ?_ _) | (with_reducible refine Kd.C_drew ?_))); (case aB => exact (by repeat (first | (with_reducible first | exact HB.out | apply below_alloc | apply pw_below_drewN | apply below_drew1) | exact HB.out))); (case aF => exact (fun _ _ => trivial)); (case aO => exact (by (with_reducible repeat (first | apply Kd.R_alloc | apply Kd.R_drewN | apply Kd.R_drew)); exact HO160.out)); (case aS => exact (below_size (by repeat (first | (with_reducible first | exact HB.out | apply below_alloc | apply pw_below_drewN | apply below_drew1) | exact HB.out)))); (case aL => have := LMc37.out; omega); intro v166 w42 ho hb hg hat; rw [← Ny165.out] at ho; have n0_ := Aside0.mk (hb); have n1_ := Aside0.mk (ho); clear HB; clear HO160; have HB := n0_; have HO167 := n1_; clear n0_ n1_; clear ho hb hg hat))
                          go_ret2
                          exact ⟨_, by first | rfl | (simp only [u8_w_, w64_u8_]; done) | (simp only [u8_w_, w64_u8_]; rfl) | (simp [errW_none, errW_some] <;> rfl) | (simp [*, errW_none, errW_some] <;> rfl), by (with_reducible repeat (first | apply Kd.R_alloc | apply Kd.R_drewN | apply Kd.R_drew)); exact HO167.out, by repeat (first | (with_reducible first | exact HB.out | apply below_alloc | apply pw_below_drewN | apply below_drew1) | exact HB.out)⟩
                        · rw [if_neg c37] at H
                          exact absurd H (by simp)
                      · rw [if_neg c34] at H
                        exact absurd H (by simp)
                    · rw [if_neg c33] at H
                      exact absurd H (by simp)
                  · rw [if_neg c32] at H
                    exact absurd H (by simp)
                · rw [if_neg c31] at H
                  exact absurd H (by simp)

/-! ### impl_lettersOnly: function 84 -/
def impl_lettersOnly.f : Nat → ByteArray → Option (Bool)
  | 0, _ => none
  | k + 1, a0 => if a0.toList = ([] : List UInt8) then (some true) else (if 0 < (a0.size : Int) then (if (bt a0 0) ≥ 97 then (if (bt a0 0) ≤ 122 then (if 1 ≤ (a0.size : Int) then ((impl_lettersOnly.f k (a0.extract 1 a0.size)).bind fun t168 => (some t168)) else (none)) else (some false)) else (some false)) else (none))
theorem impl_lettersOnly.mono_l : ∀ k, (∀ y0, LeO (impl_lettersOnly.f k y0) (impl_lettersOnly.f (k + 1) y0))
  | 0 => fun _ r h => by simp [impl_lettersOnly.f] at h
  | k + 1 => by
    have ih0 := impl_lettersOnly.mono_l k
    · intro y0
      unfold impl_lettersOnly.f
      repeat' first
      | (with_reducible exact ih0 _)
      | (with_reducible exact LeO.refl _)
      | (with_reducible exact LeO.none _)
      | (with_reducible refine LeO.ite ?_ ?_)
      | (with_reducible refine LeO.bind ?_ (fun _ => ?_))
      | exact ih0 _
      | exact LeO.none _
      | refine LeO.ite ?_ ?_
      | refine LeO.bind ?_ (fun _ => ?_)
theorem impl_lettersOnly.mono : ∀ a0 k, LeO (impl_lettersOnly.f k a0) (impl_lettersOnly.f (k + 1) a0) := by
  intro a0 k
  have ih0 := impl_lettersOnly.mono_l k
  exact ih0 a0
set_option maxHeartbeats 8000000 in
set_option maxRecDepth 100000 in
theorem impl_lettersOnly.calls (k : Nat) : ∀ (a0 : ByteArray) (r : Bool) (w : World) (h : impl_lettersOnly.f k a0 = some r),
    Calls Try.prog 84 #[.string a0] w fun e w' => e = .returned (.bool r) ∧ Drawn0 w w' := by
  induction k using Nat.strongRecOn with
  | _ k ih =>
  intro a0 r w h
  cases k with
  | zero => exact absurd h (by simp [impl_lettersOnly.f])
  | succ k =>
  simp only [impl_lettersOnly.f] at h
  have H : (if a0.toList = ([] : List UInt8) then (some true) else (if 0 < (a0.size : Int) then (if (bt a0 0) ≥ 97 then (if (bt a0 0) ≤ 122 then (if 1 ≤ (a0.size : Int) then ((impl_lettersOnly.f k (a0.extract 1 a0.size)).bind fun t168 => (some t168)) else (none)) else (some false)) else (some false)) else (none))) = some r := h
  clear h
  by_cases c2 : a0.toList = ([] : List UInt8)
  · rw [if_pos c2] at H
    have c2b0 : (a0.toList == ([] : List UInt8)) = true := beq_iff_eq.mpr c2
    have c2b1 : (a0.toList != ([] : List UInt8)) = false := bne_eq_false_iff_eq.mpr c2
    clear c2
    obtain rfl := Option.some.inj H
    go_enter Try.func84, Try.ntmps84
    go_wp2
    go_ret
    exact ⟨by first | rfl | (simp; done) | (simp [*]; done), by repeat (first | exact Drawn0.refl _ | apply Drawn0.step)⟩
  · rw [if_neg c2] at H
    have c2b0 : (a0.toList == ([] : List UInt8)) = false := beq_eq_false_iff_ne.mpr c2
    have c2b1 : (a0.toList != ([] : List UInt8)) = true := bne_iff_ne.mpr c2
    by_cases c3 : 0 < (a0.size : Int)
    · rw [if_pos c3] at H
      have c3b0 : decide (0 < (a0.size : Int)) = true := decide_eq_true c3
      have c3b1 : decide (0 < a0.size) = true := decide_eq_true (by omega)
      clear c3
      by_cases c5 : (bt a0 0) ≥ 97
      · rw [if_pos c5] at H
        have c5b0 : decide (97 ≤ (bt a0 0)) = true := decide_eq_true c5
        clear c5
        by_cases c7 : (bt a0 0) ≤ 122
        · rw [if_pos c7] at H
          have c7b0 : decide ((bt a0 0) ≤ 122) = true := decide_eq_true c7
          clear c7
          by_cases c8 : 1 ≤ (a0.size : Int)
          · rw [if_pos c8] at H
            have c8b0 := eq_true c8
            have c8b1 : decide (1 ≤ (a0.size : Int)) = true := decide_eq_true c8
            clear c8
            replace H := Option.bind_eq_some_iff.mp H
            obtain ⟨t168, A90, H⟩ := H
            replace H : (some t168) = some r := H
            have A9 := Aside0.mk A90
            clear A90
            obtain rfl := Option.some.inj H
            have p4 : 0 ≤ (0 : Int) := (by omega)
            have q4 : 0 < a0.size := (by have : (0 : Int) < (a0.size : Int) := of_decide_eq_true (by first | (with_reducible assumption) | assumption); omega)
            have hx4 : ∀ h : 0 < a0.size, ((a0[0]'h).toNat : Int) = bt a0 0 := bt_at a0 0
            clear p4
            have qi4 : (0 < (a0.size : Int)) = True := eq_true (of_decide_eq_true (by first | (with_reducible assumption) | assumption))
            replace q4 := eq_true q4
            have p6 : 0 ≤ (0 : Int) := (by omega)
            have q6 : 0 < a0.size := (by have : (0 : Int) < (a0.size : Int) := of_decide_eq_true (by first | (with_reducible assumption) | assumption); omega)
            have hx6 : ∀ h : 0 < a0.size, ((a0[0]'h).toNat : Int) = bt a0 0 := bt_at a0 0
            clear p6
            have qi6 : (0 < (a0.size : Int)) = True := eq_true (of_decide_eq_true (by first | (with_reducible assumption) | assumption))
            replace q6 := eq_true q6
            go_enter Try.func84, Try.ntmps84
            go_wp2_with (first | (go_at_call 84; (with_reducible refine (ih k (by omega) (a0.extract 1 a0.size) t168 _ A9.out).mono ?_); rintro e w' ⟨rfl, ⟨nd, rfl⟩⟩))
            go_ret
            exact ⟨by first | rfl | (simp; done) | (simp [*]; done), by repeat (first | exact Drawn0.refl _ | apply Drawn0.step)⟩
          · rw [if_neg c8] at H
            exact absurd H (by simp)
        · rw [if_neg c7] at H
          have c7b0 : decide ((bt a0 0) ≤ 122) = false := decide_eq_false c7
          clear c7
          obtain rfl := Option.some.inj H
          have p4 : 0 ≤ (0 : Int) := (by omega)
          have q4 : 0 < a0.size := (by have : (0 : Int) < (a0.size : Int) := of_decide_eq_true (by first | (with_reducible assumption) | assumption); omega)
          have hx4 : ∀ h : 0 < a0.size, ((a0[0]'h).toNat : Int) = bt a0 0 := bt_at a0 0
          clear p4
          have qi4 : (0 < (a0.size : Int)) = True := eq_true (of_decide_eq_true (by first | (with_reducible assumption) | assumption))
          replace q4 := eq_true q4
          have p6 : 0 ≤ (0 : Int) := (by omega)
          have q6 : 0 < a0.size := (by have : (0 : Int) < (a0.size : Int) := of_decide_eq_true (by first | (with_reducible assumption) | assumption); omega)
          have hx6 : ∀ h : 0 < a0.size, ((a0[0]'h).toNat : Int) = bt a0 0 := bt_at a0 0
          clear p6
          have qi6 : (0 < (a0.size : Int)) = True := eq_true (of_decide_eq_true (by first | (with_reducible assumption) | assumption))
          replace q6 := eq_true q6
          go_enter Try.func84, Try.ntmps84
          go_wp2
          go_ret
          exact ⟨by first | rfl | (simp; done) | (simp [*]; done), by repeat (first | exact Drawn0.refl _ | apply Drawn0.step)⟩
      · rw [if_neg c5] at H
        have c5b0 : decide (97 ≤ (bt a0 0)) = false := decide_eq_false c5
        clear c5
        obtain rfl := Option.some.inj H
        have p4 : 0 ≤ (0 : Int) := (by omega)
        have q4 : 0 < a0.size := (by have : (0 : Int) < (a0.size : Int) := of_decide_eq_true (by first | (with_reducible assumption) | assumption); omega)
        have hx4 : ∀ h : 0 < a0.size, ((a0[0]'h).toNat : Int) = bt a0 0 := bt_at a0 0
        clear p4
        have qi4 : (0 < (a0.size : Int)) = True := eq_true (of_decide_eq_true (by first | (with_reducible assumption) | assumption))
        replace q4 := eq_true q4
        go_enter Try.func84, Try.ntmps84
        go_wp2
        go_ret
        exact ⟨by first | rfl | (simp; done) | (simp [*]; done), by repeat (first | exact Drawn0.refl _ | apply Drawn0.step)⟩
    · rw [if_neg c3] at H
      exact absurd H (by simp)

/-! ### impl_KeyValid: function 56 -/
def impl_KeyValid.f (k : Nat) (a0 : ByteArray) : Option (Bool) := if (a0.size : Int) < 1 then (some false) else (if (a0.size : Int) > 4 then (some false) else ((impl_lettersOnly.f k a0).bind fun t169 => (some t169)))
theorem impl_KeyValid.mono : ∀ a0 k, LeO (impl_KeyValid.f k a0) (impl_KeyValid.f (k + 1) a0) := by
  intro a0 k
  unfold impl_KeyValid.f
  repeat' first
      | (with_reducible exact impl_lettersOnly.mono _ _)
      | (with_reducible exact LeO.refl _)
      | (with_reducible exact LeO.none _)
      | (with_reducible refine LeO.ite ?_ ?_)
      | (with_reducible refine LeO.bind ?_ (fun _ => ?_))
      | exact impl_lettersOnly.mono _ _
      | exact LeO.none _
      | refine LeO.ite ?_ ?_
      | refine LeO.bind ?_ (fun _ => ?_)
set_option maxHeartbeats 8000000 in
set_option maxRecDepth 100000 in
theorem impl_KeyValid.calls (k : Nat) (a0 : ByteArray) (r : Bool) (w : World) (h : impl_KeyValid.f k a0 = some r) :
    Calls Try.prog 56 #[.string a0] w fun e w' => e = .returned (.bool r) ∧ Drawn0 w w' := by
  have H : (if (a0.size : Int) < 1 then (some false) else (if (a0.size : Int) > 4 then (some false) else ((impl_lettersOnly.f k a0).bind fun t169 => (some t169)))) = some r := h
  clear h
  by_cases c2 : (a0.size : Int) < 1
  · rw [if_pos c2] at H
    have c2b0 : decide ((a0.size : Int) < 1) = true := decide_eq_true c2
    have c2b1 : decide (a0.size < 1) = true := decide_eq_true (by omega)
    clear c2
    obtain rfl := Option.some.inj H
    go_enter Try.func56, Try.ntmps56
    go_wp2
    go_ret
    exact ⟨by first | rfl | (simp; done) | (simp [*]; done), by repeat (first | exact Drawn0.refl _ | apply Drawn0.step)⟩
  · rw [if_neg c2] at H
    have c2b0 : decide ((a0.size : Int) < 1) = false := decide_eq_false c2
    have c2b1 : decide (a0.size < 1) = false := decide_eq_false (by omega)
    clear c2
    by_cases c3 : (a0.size : Int) > 4
    · rw [if_pos c3] at H
      have c3b0 : decide (4 < (a0.size : Int)) = true := decide_eq_true c3
      have c3b1 : decide (4 < a0.size) = true := decide_eq_true (by omega)
      clear c3
      obtain rfl := Option.some.inj H
      go_enter Try.func56, Try.ntmps56
      go_wp2
      go_ret
      exact ⟨by first | rfl | (simp; done) | (simp [*]; done), by repeat (first | exact Drawn0.refl _ | apply Drawn0.step)⟩
    · rw [if_neg c3] at H
      have c3b0 : decide (4 < (a0.size : Int)) = false := decide_eq_false c3
      have c3b1 : decide (4 < a0.size) = false := decide_eq_false (by omega)
      clear c3
      replace H := Option.bind_eq_some_iff.mp H
      obtain ⟨t169, A40, H⟩ := H
      replace H : (some t169) = some r := H
      have A4 := Aside0.mk A40
      clear A40
      obtain rfl := Option.some.inj H
      go_enter Try.func56, Try.ntmps56
      go_wp2_with (first | ((with_reducible refine gate_callee (f := 84) rfl ?_); refine goesL_ (some 12) rfl rfl Try.func84 (by kernel_rfl) rfl #[.string a0] rfl (by (try simp only [List.map_toArray, List.map_cons, List.map_nil]); first | done | rfl | (simp only [List.length_drop, List.length_take]; rfl)) ?_; (with_reducible refine (impl_lettersOnly.calls k a0 t169 _ A4.out).mono ?_); rintro e w' ⟨rfl, ⟨nd, rfl⟩⟩; refine ⟨_, rfl, ?_⟩))
      go_ret
      exact ⟨by first | rfl | (simp; done) | (simp [*]; done), by repeat (first | exact Drawn0.refl _ | apply Drawn0.step)⟩

/-! ### impl_valueValid: function 57 -/
def impl_valueValid.f (a0 : Int) : Option (Bool) := if a0 ≥ 0 then (some (decide (a0 ≤ 999))) else (some false)
set_option maxHeartbeats 8000000 in
set_option maxRecDepth 100000 in
theorem impl_valueValid.calls (a0 : Int) (r : Bool) (w : World) (h : impl_valueValid.f a0 = some r) :
    Calls Try.prog 57 #[.int .i64 a0] w fun e w' => e = .returned (.bool r) ∧ Drawn0 w w' := by
  have H : (if a0 ≥ 0 then (some (decide (a0 ≤ 999))) else (some false)) = some r := h
  clear h
  by_cases c2 : a0 ≥ 0
  · rw [if_pos c2] at H
    have c2b0 : decide (0 ≤ a0) = true := decide_eq_true c2
    clear c2
    obtain rfl := Option.some.inj H
    go_enter Try.func57, Try.ntmps57
    go_wp2
    go_ret
    exact ⟨by first | rfl | (simp; done) | (simp [*]; done), by repeat (first | exact Drawn0.refl _ | apply Drawn0.step)⟩
  · rw [if_neg c2] at H
    have c2b0 : decide (0 ≤ a0) = false := decide_eq_false c2
    clear c2
    obtain rfl := Option.some.inj H
    go_enter Try.func57, Try.ntmps57
    go_wp2
    go_ret
    exact ⟨by first | rfl | (simp; done) | (simp [*]; done), by repeat (first | exact Drawn0.refl _ | apply Drawn0.step)⟩

end Go.Proofs.Ytakgmbeglcehcaa.PFnExactPairPut
