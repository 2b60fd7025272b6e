-- Written for this claim by a program of this session (wip/myprint in the proofs' repo)
import Derived.Test.YtdceajeldlnkkaaPFnExactKeyAtx0
namespace Go.Proofs.Ytdceajeldlnkkaa.PFnExactKeyAt
open Go.RowKit Go.Proofs.YtdceajeldlnkkaaW.PrintWords Go.Proofs.YtdceajeldlnkkaaW.PrintLast Go.Proofs.YtdceajeldlnkkaaW.PrintMore
attribute [local go_sem] max2_int min2_int max_two min_two max_three min_three max_four min_four max2_strs min2_strs   -- for this text's walks alone
set_option linter.unusedVariables false
set_option linter.unusedSimpArgs false

/-! ### spec_l1In: function 43 -/
def spec_l1In.f (a0 : Int) (a1 : Int) (a2 : Int) : Option (Bool) := if a0 ≥ a1 then (some (decide (a0 ≤ a2))) else (some false)
set_option maxHeartbeats 8000000 in
set_option maxRecDepth 100000 in
theorem spec_l1In.calls (a0 : Int) (a1 : Int) (a2 : Int) (r : Bool) (w : World) (h : spec_l1In.f a0 a1 a2 = some r) :
    Calls Try.prog 43 #[.int .i64 a0, .int .i64 a1, .int .i64 a2] w fun e w' => e = .returned (.bool r) ∧ Drawn0 w w' := by
  have H : (if a0 ≥ a1 then (some (decide (a0 ≤ a2))) else (some false)) = some r := h
  clear h
  by_cases c4 : a0 ≥ a1
  · rw [if_pos c4] at H
    have c4b0 : decide (a1 ≤ a0) = true := decide_eq_true c4
    clear c4
    obtain rfl := Option.some.inj H
    go_enter Try.func43, Try.ntmps43
    go_wp2
    go_ret
    exact ⟨by first | rfl | (simp; done) | (simp [*]; done), by repeat (first | exact Drawn0.refl _ | apply Drawn0.step)⟩
  · rw [if_neg c4] at H
    have c4b0 : decide (a1 ≤ a0) = false := decide_eq_false c4
    clear c4
    obtain rfl := Option.some.inj H
    go_enter Try.func43, Try.ntmps43
    go_wp2
    go_ret
    exact ⟨by first | rfl | (simp; done) | (simp [*]; done), by repeat (first | exact Drawn0.refl _ | apply Drawn0.step)⟩

/-! ### spec_l1Weight: function 45 -/
def spec_l1Weight.f (a0 : Int) : Option (Int) := if a0 = 0 then (some 18279) else (if a0 = 1 then (some 703) else (if a0 = 2 then (some 27) else (some 1)))
set_option maxHeartbeats 8000000 in
set_option maxRecDepth 100000 in
theorem spec_l1Weight.calls (a0 : Int) (r : Int) (w : World) (h : spec_l1Weight.f a0 = some r) :
    Calls Try.prog 45 #[.int .i64 a0] w fun e w' => e = .returned (.int .i64 r) ∧ Drawn0 w w' := by
  have H : (if a0 = 0 then (some 18279) else (if a0 = 1 then (some 703) else (if a0 = 2 then (some 27) else (some 1)))) = some r := h
  clear h
  by_cases c2 : a0 = 0
  · rw [if_pos c2] at H
    have c2b0 : (a0 == 0) = true := beq_iff_eq.mpr c2
    have c2b1 : (a0 != 0) = false := bne_eq_false_iff_eq.mpr c2
    clear c2
    obtain rfl := Option.some.inj H
    go_enter Try.func45, Try.ntmps45
    go_wp2
    go_ret
    exact ⟨by first | rfl | (simp; done) | (simp [*]; done), by repeat (first | exact Drawn0.refl _ | apply Drawn0.step)⟩
  · rw [if_neg c2] at H
    have c2b0 : (a0 == 0) = false := beq_eq_false_iff_ne.mpr c2
    have c2b1 : (a0 != 0) = true := bne_iff_ne.mpr c2
    by_cases c3 : a0 = 1
    · rw [if_pos c3] at H
      have c3b0 : (a0 == 1) = true := beq_iff_eq.mpr c3
      have c3b1 : (a0 != 1) = false := bne_eq_false_iff_eq.mpr c3
      clear c3
      obtain rfl := Option.some.inj H
      go_enter Try.func45, Try.ntmps45
      go_wp2
      go_ret
      exact ⟨by first | rfl | (simp; done) | (simp [*]; done), by repeat (first | exact Drawn0.refl _ | apply Drawn0.step)⟩
    · rw [if_neg c3] at H
      have c3b0 : (a0 == 1) = false := beq_eq_false_iff_ne.mpr c3
      have c3b1 : (a0 != 1) = true := bne_iff_ne.mpr c3
      by_cases c4 : a0 = 2
      · rw [if_pos c4] at H
        have c4b0 : (a0 == 2) = true := beq_iff_eq.mpr c4
        have c4b1 : (a0 != 2) = false := bne_eq_false_iff_eq.mpr c4
        clear c4
        obtain rfl := Option.some.inj H
        go_enter Try.func45, Try.ntmps45
        go_wp2
        go_ret
        exact ⟨by first | rfl | (simp; done) | (simp [*]; done), by repeat (first | exact Drawn0.refl _ | apply Drawn0.step)⟩
      · rw [if_neg c4] at H
        have c4b0 : (a0 == 2) = false := beq_eq_false_iff_ne.mpr c4
        have c4b1 : (a0 != 2) = true := bne_iff_ne.mpr c4
        obtain rfl := Option.some.inj H
        go_enter Try.func45, Try.ntmps45
        go_wp2
        go_ret
        exact ⟨by first | rfl | (simp; done) | (simp [*]; done), by repeat (first | exact Drawn0.refl _ | apply Drawn0.step)⟩

/-! ### spec_KeyAt: function 17 -/
def spec_KeyAt.l0 : Nat → Int → ByteArray → Int → Option (ByteArray)
  | 0, _, _, _ => none
  | k + 1, x0, x3, x4 => if x4 < 4 then ((spec_l1Weight.f x4).bind fun t102 => (if t102 = 0 then (none) else ((some (([(wrap64 (97 + (wrap64 (Int.tdiv x0 t102)))) % 256] : List Int) : List Int)).bind fun y103 => (if x3.size + (strOfNums y103).size ≤ 9223372036854775807 then ((spec_l1Weight.f x4).bind fun t106 => (if t106 = 0 then (none) else (if (Int.tmod x0 t106) = 0 then (some (x3 ++ (strOfNums y103))) else (spec_KeyAt.l0 k (wrap64 ((Int.tmod x0 t106) - 1)) (x3 ++ (strOfNums y103)) (wrap64 (x4 + 1)))))) else (none))))) else (some x3)
def spec_KeyAt.f (k : Nat) (a0 : Int) : Option (ByteArray) := (spec_l1In.f a0 0 475253).bind fun t101 => (if t101 = true then (spec_KeyAt.l0 k a0 (⟨#[]⟩ : ByteArray) 0) else (some (⟨#[]⟩ : ByteArray)))
theorem spec_KeyAt.mono_l : ∀ k, (∀ y0 y1 y2, LeO (spec_KeyAt.l0 k y0 y1 y2) (spec_KeyAt.l0 (k + 1) y0 y1 y2))
  | 0 => fun _ _ _ r h => by simp [spec_KeyAt.l0] at h
  | k + 1 => by
    have ih0 := spec_KeyAt.mono_l k
    · intro y0 y1 y2
      unfold spec_KeyAt.l0
      repeat' first
      | (with_reducible exact ih0 _ _ _)
      | (with_reducible exact LeO.refl _)
      | (with_reducible exact LeO.none _)
      | (with_reducible refine LeO.ite ?_ ?_)
      | (with_reducible refine LeO.bind ?_ (fun _ => ?_))
      | exact ih0 _ _ _
      | exact LeO.none _
      | refine LeO.ite ?_ ?_
      | refine LeO.bind ?_ (fun _ => ?_)
theorem spec_KeyAt.mono : ∀ a0 k, LeO (spec_KeyAt.f k a0) (spec_KeyAt.f (k + 1) a0) := by
  intro a0 k
  have ih0 := spec_KeyAt.mono_l k
  unfold spec_KeyAt.f
  repeat' first
      | (with_reducible exact ih0 _ _ _)
      | (with_reducible exact LeO.refl _)
      | (with_reducible exact LeO.none _)
      | (with_reducible refine LeO.ite ?_ ?_)
      | (with_reducible refine LeO.bind ?_ (fun _ => ?_))
      | exact ih0 _ _ _
      | exact LeO.none _
      | refine LeO.ite ?_ ?_
      | refine LeO.bind ?_ (fun _ => ?_)
set_option maxHeartbeats 8000000 in
set_option maxRecDepth 100000 in
theorem spec_KeyAt.calls (k : Nat) (a0 : Int) (r : ByteArray) (w : World) (h : spec_KeyAt.f k a0 = some r) :
    Calls Try.prog 17 #[.int .i64 a0] w fun e w' => e = .returned (.string r) ∧ Below w.heap.size w w' := by
  have HB := Aside0.mk (Below.refl w.heap.size w)
  have H : ((spec_l1In.f a0 0 475253).bind fun t101 => (if t101 = true then (spec_KeyAt.l0 k a0 (⟨#[]⟩ : ByteArray) 0) else (some (⟨#[]⟩ : ByteArray)))) = some r := h
  clear h
  replace H := Option.bind_eq_some_iff.mp H
  obtain ⟨t101, A20, H⟩ := H
  replace H : (if t101 = true then (spec_KeyAt.l0 k a0 (⟨#[]⟩ : ByteArray) 0) else (some (⟨#[]⟩ : ByteArray))) = some r := H
  have A2 := Aside0.mk A20
  clear A20
  by_cases c3 : t101 = true
  · subst c3
    have H1 : (spec_KeyAt.l0 k a0 (⟨#[]⟩ : ByteArray) 0) = some r := by rw [if_pos rfl] at H; exact H
    clear H
    have H := H1
    clear H1
    have H' := Aside0.mk H
    clear H
    go_enter Try.func17, Try.ntmps17
    go_wp2_with (first | ((with_reducible refine gate_callee (f := 43) rfl ?_); refine goesL_ (some 6) rfl rfl Try.func43 (by kernel_rfl) rfl #[.int .i64 a0, .int .i64 0, .int .i64 475253] rfl (by (try simp only [List.map_toArray, List.map_cons, List.map_nil]); first | done | rfl | (simp only [List.length_drop, List.length_take]; rfl)) ?_; (with_reducible refine (spec_l1In.calls a0 0 475253 true _ A2.out).mono ?_); rintro e w' ⟨rfl, ⟨nd, rfl⟩⟩; refine ⟨_, rfl, ?_⟩))
    go_loopg [0, 3, 4] k (fun kq v0 v3 v4 w' => ∃ (x0_1 : Int) (x3_1 : ByteArray) (x4_1 : Int), v0 = .int .i64 x0_1 ∧ v3 = .string x3_1 ∧ v4 = .int .i64 x4_1 ∧ Aside0 (spec_KeyAt.l0 kq x0_1 x3_1 x4_1 = some r) ∧ Aside0 (kq ≤ k) ∧ Aside0 (Below w.heap.size w w'))
    case atStart => exact ⟨(a0), ((⟨#[]⟩ : ByteArray)), (0), (by first | rfl | (simp; done) | (simp [*]; done)), (by first | rfl | (simp; done) | (simp [*]; done)), (by first | rfl | (simp; done) | (simp [*]; done)), H', ⟨Nat.le_refl _⟩, ⟨by repeat (first | (with_reducible first | exact HB.out | apply below_alloc | apply pw_below_drewN | apply below_drew1) | exact HB.out)⟩⟩
    case round =>
      clear H'
      try clear c1
      try clear p2
      try clear c3
      obtain ⟨x0_1, x3_1, x4_1, rfl, rfl, rfl, HA, HK1, HB⟩ := hrel
      cases gk with
      | zero => exact absurd HA.out (by simp [spec_KeyAt.l0])
      | succ k1 =>
        have H := HA.out
        clear HA
        simp only [spec_KeyAt.l0] at H
        by_cases c4 : x4_1 < 4
        · rw [if_pos c4] at H
          have c4b0 : decide (x4_1 < 4) = true := decide_eq_true c4
          clear c4
          replace H := Option.bind_eq_some_iff.mp H
          obtain ⟨t102, A50, H⟩ := H
          replace H : (if t102 = 0 then (none) else ((some (([(wrap64 (97 + (wrap64 (Int.tdiv x0_1 t102)))) % 256] : List Int) : List Int)).bind fun y103 => (if x3_1.size + (strOfNums y103).size ≤ 9223372036854775807 then ((spec_l1Weight.f x4_1).bind fun t106 => (if t106 = 0 then (none) else (if (Int.tmod x0_1 t106) = 0 then (some (x3_1 ++ (strOfNums y103))) else (spec_KeyAt.l0 k1 (wrap64 ((Int.tmod x0_1 t106) - 1)) (x3_1 ++ (strOfNums y103)) (wrap64 (x4_1 + 1)))))) else (none)))) = some r := H
          have A5 := Aside0.mk A50
          clear A50
          by_cases c6 : t102 = 0
          · rw [if_pos c6] at H
            exact absurd H (by simp)
          · rw [if_neg c6] at H
            have c6b0 : (t102 == 0) = false := beq_eq_false_iff_ne.mpr c6
            have c6b1 : (t102 != 0) = true := bne_iff_ne.mpr c6
            obtain ⟨y103, hy103⟩ : ∃ y_ : List Int, y_ = (([(wrap64 (97 + (wrap64 (Int.tdiv x0_1 t102)))) % 256] : List Int)) := ⟨_, rfl⟩
            replace H : (if x3_1.size + (strOfNums y103).size ≤ 9223372036854775807 then ((spec_l1Weight.f x4_1).bind fun t106 => (if t106 = 0 then (none) else (if (Int.tmod x0_1 t106) = 0 then (some (x3_1 ++ (strOfNums y103))) else (spec_KeyAt.l0 k1 (wrap64 ((Int.tmod x0_1 t106) - 1)) (x3_1 ++ (strOfNums y103)) (wrap64 (x4_1 + 1)))))) else (none)) = some r := by first | (rw [hy103]; with_reducible exact H) | (have H2_ := (Option.bind_some _ _).symm.trans H; rw [hy103]; with_reducible exact H2_) | (have H2_ := (Option.bind_some _ _).symm.trans H; with_reducible exact H2_) | with_reducible exact H | (rw [hy103]; exact H) | exact H
            have Ny103 := Aside0.mk hy103
            clear hy103
            by_cases c7 : x3_1.size + (strOfNums y103).size ≤ 9223372036854775807
            · rw [if_pos c7] at H
              have c7b0 := eq_true c7
              have c7b1 : decide (x3_1.size + (strOfNums y103).size ≤ 9223372036854775807) = true := decide_eq_true c7
              try have c7b2 : (9223372036854775807 < x3_1.size + (strOfNums y103).size) = False := eq_false (Nat.not_lt.2 c7)
              replace H := Option.bind_eq_some_iff.mp H
              obtain ⟨t106, A80, H⟩ := H
              replace H : (if t106 = 0 then (none) else (if (Int.tmod x0_1 t106) = 0 then (some (x3_1 ++ (strOfNums y103))) else (spec_KeyAt.l0 k1 (wrap64 ((Int.tmod x0_1 t106) - 1)) (x3_1 ++ (strOfNums y103)) (wrap64 (x4_1 + 1))))) = some r := H
              have A8 := Aside0.mk A80
              clear A80
              by_cases c9 : t106 = 0
              · rw [if_pos c9] at H
                exact absurd H (by simp)
              · rw [if_neg c9] at H
                have c9b0 : (t106 == 0) = false := beq_eq_false_iff_ne.mpr c9
                have c9b1 : (t106 != 0) = true := bne_iff_ne.mpr c9
                by_cases c10 : (Int.tmod x0_1 t106) = 0
                · rw [if_pos c10] at H
                  have c10b0 : ((Int.tmod x0_1 t106) == 0) = true := beq_iff_eq.mpr c10
                  have c10b1 : ((Int.tmod x0_1 t106) != 0) = false := bne_eq_false_iff_eq.mpr c10
                  clear c10
                  obtain rfl := Option.some.inj H
                  go_wp2_with (first | ((with_reducible refine gate_callee (f := 45) rfl ?_); refine goesL_ (some 15) rfl rfl Try.func45 (by kernel_rfl) rfl #[.int .i64 x4_1] rfl (by (try simp only [List.map_toArray, List.map_cons, List.map_nil]); first | done | rfl | (simp only [List.length_drop, List.length_take]; rfl)) ?_; (with_reducible refine (spec_l1Weight.calls x4_1 t102 _ A5.out).mono ?_); rintro e w' ⟨rfl, ⟨nd, rfl⟩⟩; refine ⟨_, rfl, ?_⟩) | ((with_reducible refine gate_dst (N := 19) rfl ?_); refine Kd.R_lit (Kd.int .u8) _ 5 ?hg (N := 19) ?hd (xs := ([(wrap64 (97 + (wrap64 (Int.tdiv x0_1 t102)))) % 256] : List Int)) (inner := [.int .u8 ((wrap64 (97 + (wrap64 (Int.tdiv x0_1 t102)))) % 256)]) (ok := fun _ => True) (okp := fun _ => True) ?hr ?hp (fun _ hk => hk) trivial (Below.refl _ _) (Nat.le_refl _) (by simp) ?_; (case hd => rfl); (case hg => rfl); (case hr => first | (go_simp; done) | (go_simp; rfl)); (case hp => exact (Reps.one (show Kd.M (Kd.int .u8) _ _ _ ((wrap64 (97 + (wrap64 (Int.tdiv x0_1 t102)))) % 256) [.int .u8 ((wrap64 (97 + (wrap64 (Int.tdiv x0_1 t102)))) % 256)] from rfl) (Reps.none _ _))); intro v104 w11 ho12 hb hg_ hnew_; clear hg_ hnew_; (first | rw [← Ny103.out] at ho12 | (simp only [Int.reduceToNat] at ho12; rw [← Ny103.out] at ho12)); have n0_ := Aside0.mk (Kd.R_lower ho12 (below_size (by repeat (first | (with_reducible first | exact HB.out | apply below_alloc | apply pw_below_drewN | apply below_drew1) | exact HB.out)))); have n1_ := Aside0.mk (below_step (by repeat (first | (with_reducible first | exact HB.out | apply below_alloc | apply pw_below_drewN | apply below_drew1) | exact HB.out)) hb); clear HB; have HO105 := n0_; have HB := n1_; clear n0_ n1_; clear hb ho12; have hcv13 := own_string (P := Try.prog) Try.underlying54 Try.underlying5 Try.underlying9 (Kd.own_of_R HO105.out)) | ((with_reducible refine gate_callee (f := 45) rfl ?_); refine goesL_ (some 24) rfl rfl Try.func45 (by kernel_rfl) rfl #[.int .i64 x4_1] rfl (by (try simp only [List.map_toArray, List.map_cons, List.map_nil]); first | done | rfl | (simp only [List.length_drop, List.length_take]; rfl)) ?_; (with_reducible refine (spec_l1Weight.calls x4_1 t106 _ A8.out).mono ?_); rintro e w' ⟨rfl, ⟨nd, rfl⟩⟩; refine ⟨_, rfl, ?_⟩))
                  go_ret
                  exact ⟨by first | rfl | (simp only [u8_w_, w64_u8_]; done) | (simp only [u8_w_, w64_u8_]; rfl) | (simp [errW_none, errW_some] <;> rfl) | (simp [*, errW_none, errW_some] <;> rfl), by repeat (first | (with_reducible first | exact HB.out | apply below_alloc | apply pw_below_drewN | apply below_drew1) | exact HB.out)⟩
                · rw [if_neg c10] at H
                  have c10b0 : ((Int.tmod x0_1 t106) == 0) = false := beq_eq_false_iff_ne.mpr c10
                  have c10b1 : ((Int.tmod x0_1 t106) != 0) = true := bne_iff_ne.mpr c10
                  have H' := Aside0.mk H
                  clear H
                  go_wp2_with (first | ((with_reducible refine gate_callee (f := 45) rfl ?_); refine goesL_ (some 15) rfl rfl Try.func45 (by kernel_rfl) rfl #[.int .i64 x4_1] rfl (by (try simp only [List.map_toArray, List.map_cons, List.map_nil]); first | done | rfl | (simp only [List.length_drop, List.length_take]; rfl)) ?_; (with_reducible refine (spec_l1Weight.calls x4_1 t102 _ A5.out).mono ?_); rintro e w' ⟨rfl, ⟨nd, rfl⟩⟩; refine ⟨_, rfl, ?_⟩) | ((with_reducible refine gate_dst (N := 19) rfl ?_); refine Kd.R_lit (Kd.int .u8) _ 5 ?hg (N := 19) ?hd (xs := ([(wrap64 (97 + (wrap64 (Int.tdiv x0_1 t102)))) % 256] : List Int)) (inner := [.int .u8 ((wrap64 (97 + (wrap64 (Int.tdiv x0_1 t102)))) % 256)]) (ok := fun _ => True) (okp := fun _ => True) ?hr ?hp (fun _ hk => hk) trivial (Below.refl _ _) (Nat.le_refl _) (by simp) ?_; (case hd => rfl); (case hg => rfl); (case hr => first | (go_simp; done) | (go_simp; rfl)); (case hp => exact (Reps.one (show Kd.M (Kd.int .u8) _ _ _ ((wrap64 (97 + (wrap64 (Int.tdiv x0_1 t102)))) % 256) [.int .u8 ((wrap64 (97 + (wrap64 (Int.tdiv x0_1 t102)))) % 256)] from rfl) (Reps.none _ _))); intro v104 w14 ho15 hb hg_ hnew_; clear hg_ hnew_; (first | rw [← Ny103.out] at ho15 | (simp only [Int.reduceToNat] at ho15; rw [← Ny103.out] at ho15)); have n0_ := Aside0.mk (Kd.R_lower ho15 (below_size (by repeat (first | (with_reducible first | exact HB.out | apply below_alloc | apply pw_below_drewN | apply below_drew1) | exact HB.out)))); have n1_ := Aside0.mk (below_step (by repeat (first | (with_reducible first | exact HB.out | apply below_alloc | apply pw_below_drewN | apply below_drew1) | exact HB.out)) hb); clear HB; have HO105 := n0_; have HB := n1_; clear n0_ n1_; clear hb ho15; have hcv16 := own_string (P := Try.prog) Try.underlying54 Try.underlying5 Try.underlying9 (Kd.own_of_R HO105.out)) | ((with_reducible refine gate_callee (f := 45) rfl ?_); refine goesL_ (some 24) rfl rfl Try.func45 (by kernel_rfl) rfl #[.int .i64 x4_1] rfl (by (try simp only [List.map_toArray, List.map_cons, List.map_nil]); first | done | rfl | (simp only [List.length_drop, List.length_take]; rfl)) ?_; (with_reducible refine (spec_l1Weight.calls x4_1 t106 _ A8.out).mono ?_); rintro e w' ⟨rfl, ⟨nd, rfl⟩⟩; refine ⟨_, rfl, ?_⟩))
                  go_roundg k1
                  case measure => have := HK1.out; omega
                  case rel => exact ⟨(wrap64 ((Int.tmod x0_1 t106) - 1)), (x3_1 ++ (strOfNums y103)), (wrap64 (x4_1 + 1)), (by first | rfl | (simp; done) | (simp [*]; done)), (by first | rfl | (simp; done) | (simp [*]; done)), (by first | rfl | (simp; done) | (simp [*]; done)), H', ⟨by have := HK1.out; omega⟩, ⟨by repeat (first | (with_reducible first | exact HB.out | apply below_alloc | apply pw_below_drewN | apply below_drew1) | exact HB.out)⟩⟩
            · rw [if_neg c7] at H
              exact absurd H (by simp)
        · rw [if_neg c4] at H
          have c4b0 : decide (x4_1 < 4) = false := decide_eq_false c4
          clear c4
          obtain rfl := Option.some.inj H
          go_wp2
          go_ret
          exact ⟨by first | rfl | (simp only [u8_w_, w64_u8_]; done) | (simp only [u8_w_, w64_u8_]; rfl) | (simp [errW_none, errW_some] <;> rfl) | (simp [*, errW_none, errW_some] <;> rfl), by repeat (first | (with_reducible first | exact HB.out | apply below_alloc | apply pw_below_drewN | apply below_drew1) | exact HB.out)⟩
  · replace c3 := Bool.eq_false_iff.mpr c3
    subst c3
    have H1 : (some (⟨#[]⟩ : ByteArray)) = some r := by rw [if_neg (show ¬ (false = true) by decide)] at H; exact H
    clear H
    have H := H1
    clear H1
    obtain rfl := Option.some.inj H
    go_enter Try.func17, Try.ntmps17
    go_wp2_with (first | ((with_reducible refine gate_callee (f := 43) rfl ?_); refine goesL_ (some 6) rfl rfl Try.func43 (by kernel_rfl) rfl #[.int .i64 a0, .int .i64 0, .int .i64 475253] rfl (by (try simp only [List.map_toArray, List.map_cons, List.map_nil]); first | done | rfl | (simp only [List.length_drop, List.length_take]; rfl)) ?_; (with_reducible refine (spec_l1In.calls a0 0 475253 false _ A2.out).mono ?_); rintro e w' ⟨rfl, ⟨nd, rfl⟩⟩; refine ⟨_, rfl, ?_⟩))
    go_ret
    exact ⟨by first | rfl | (simp only [u8_w_, w64_u8_]; done) | (simp only [u8_w_, w64_u8_]; rfl) | (simp [errW_none, errW_some] <;> rfl) | (simp [*, errW_none, errW_some] <;> rfl), by repeat (first | (with_reducible first | exact HB.out | apply below_alloc | apply pw_below_drewN | apply below_drew1) | exact HB.out)⟩

/-! ### impl_keysFrom: function 57 -/
def impl_keysFrom.f : Nat → Int → Option (Int)
  | 0, _ => none
  | k + 1, a0 => if a0 ≥ 4 then (some 1) else ((impl_keysFrom.f k (wrap64 (a0 + 1))).bind fun t107 => (some (wrap64 (1 + (wrap64 (26 * t107))))))
theorem impl_keysFrom.mono_l : ∀ k, (∀ y0, LeO (impl_keysFrom.f k y0) (impl_keysFrom.f (k + 1) y0))
  | 0 => fun _ r h => by simp [impl_keysFrom.f] at h
  | k + 1 => by
    have ih0 := impl_keysFrom.mono_l k
    · intro y0
      unfold impl_keysFrom.f
      repeat' first
      | (with_reducible exact ih0 _)
      | (with_reducible exact LeO.refl _)
      | (with_reducible exact LeO.none _)
      | (with_reducible refine LeO.ite ?_ ?_)
      | (with_reducible refine LeO.bind ?_ (fun _ => ?_))
      | exact ih0 _
      | exact LeO.none _
      | refine LeO.ite ?_ ?_
      | refine LeO.bind ?_ (fun _ => ?_)
theorem impl_keysFrom.mono : ∀ a0 k, LeO (impl_keysFrom.f k a0) (impl_keysFrom.f (k + 1) a0) := by
  intro a0 k
  have ih0 := impl_keysFrom.mono_l k
  exact ih0 a0
set_option maxHeartbeats 8000000 in
set_option maxRecDepth 100000 in
theorem impl_keysFrom.calls (k : Nat) : ∀ (a0 : Int) (r : Int) (w : World) (h : impl_keysFrom.f k a0 = some r),
    Calls Try.prog 57 #[.int .i64 a0] w fun e w' => e = .returned (.int .i64 r) ∧ Drawn0 w w' := by
  induction k using Nat.strongRecOn with
  | _ k ih =>
  intro a0 r w h
  cases k with
  | zero => exact absurd h (by simp [impl_keysFrom.f])
  | succ k =>
  simp only [impl_keysFrom.f] at h
  have H : (if a0 ≥ 4 then (some 1) else ((impl_keysFrom.f k (wrap64 (a0 + 1))).bind fun t107 => (some (wrap64 (1 + (wrap64 (26 * t107))))))) = some r := h
  clear h
  by_cases c2 : a0 ≥ 4
  · rw [if_pos c2] at H
    have c2b0 : decide (4 ≤ a0) = true := decide_eq_true c2
    clear c2
    obtain rfl := Option.some.inj H
    go_enter Try.func57, Try.ntmps57
    go_wp2
    go_ret
    exact ⟨by first | rfl | (simp; done) | (simp [*]; done), by repeat (first | exact Drawn0.refl _ | apply Drawn0.step)⟩
  · rw [if_neg c2] at H
    have c2b0 : decide (4 ≤ a0) = false := decide_eq_false c2
    clear c2
    replace H := Option.bind_eq_some_iff.mp H
    obtain ⟨t107, A30, H⟩ := H
    replace H : (some (wrap64 (1 + (wrap64 (26 * t107))))) = some r := H
    have A3 := Aside0.mk A30
    clear A30
    obtain rfl := Option.some.inj H
    go_enter Try.func57, Try.ntmps57
    go_wp2_with (first | ((with_reducible refine gate_callee (f := 57) rfl ?_); refine goesL_ (some 7) rfl rfl Try.func57 (by kernel_rfl) rfl #[.int .i64 (wrap64 (a0 + 1))] rfl (by (try simp only [List.map_toArray, List.map_cons, List.map_nil]); first | done | rfl | (simp only [List.length_drop, List.length_take]; rfl)) ?_; (with_reducible refine (ih k (by omega) (wrap64 (a0 + 1)) t107 _ A3.out).mono ?_); rintro e w' ⟨rfl, ⟨nd, rfl⟩⟩; refine ⟨_, rfl, ?_⟩))
    go_ret
    exact ⟨by first | rfl | (simp; done) | (simp [*]; done), by repeat (first | exact Drawn0.refl _ | apply Drawn0.step)⟩

/-! ### impl_keyBelow: function 46 -/
def impl_keyBelow.f : Nat → Int → Int → Option (ByteArray)
  | 0, _, _ => none
  | k + 1, a0, a1 => if a0 = 0 then (some (⟨#[]⟩ : ByteArray)) else ((impl_keysFrom.f k a1).bind fun t108 => (if t108 = 0 then (none) else ((impl_keyBelow.f k (Int.tmod (wrap64 (a0 - 1)) t108) (wrap64 (a1 + 1))).bind fun t109 => (if (Utf8.encode (wrap32 (wrap64 (97 + (wrap64 (Int.tdiv (wrap64 (a0 - 1)) t108)))))).size + t109.size ≤ 9223372036854775807 then (some ((Utf8.encode (wrap32 (wrap64 (97 + (wrap64 (Int.tdiv (wrap64 (a0 - 1)) t108)))))) ++ t109)) else (none)))))
theorem impl_keyBelow.mono_l : ∀ k, (∀ y0 y1, LeO (impl_keyBelow.f k y0 y1) (impl_keyBelow.f (k + 1) y0 y1))
  | 0 => fun _ _ r h => by simp [impl_keyBelow.f] at h
  | k + 1 => by
    have ih0 := impl_keyBelow.mono_l k
    · intro y0 y1
      unfold impl_keyBelow.f
      repeat' first
      | (with_reducible exact ih0 _ _)
      | (with_reducible exact impl_keysFrom.mono _ _)
      | (with_reducible exact LeO.refl _)
      | (with_reducible exact LeO.none _)
      | (with_reducible refine LeO.ite ?_ ?_)
      | (with_reducible refine LeO.bind ?_ (fun _ => ?_))
      | exact ih0 _ _
      | exact impl_keysFrom.mono _ _
      | exact LeO.none _
      | refine LeO.ite ?_ ?_
      | refine LeO.bind ?_ (fun _ => ?_)
theorem impl_keyBelow.mono : ∀ a0 a1 k, LeO (impl_keyBelow.f k a0 a1) (impl_keyBelow.f (k + 1) a0 a1) := by
  intro a0 a1 k
  have ih0 := impl_keyBelow.mono_l k
  exact ih0 a0 a1
set_option maxHeartbeats 8000000 in
set_option maxRecDepth 100000 in
theorem impl_keyBelow.calls (k : Nat) : ∀ (a0 : Int) (a1 : Int) (r : ByteArray) (w : World) (h : impl_keyBelow.f k a0 a1 = some r),
    Calls Try.prog 46 #[.int .i64 a0, .int .i64 a1] w fun e w' => e = .returned (.string r) ∧ Drawn0 w w' := by
  induction k using Nat.strongRecOn with
  | _ k ih =>
  intro a0 a1 r w h
  cases k with
  | zero => exact absurd h (by simp [impl_keyBelow.f])
  | succ k =>
  simp only [impl_keyBelow.f] at h
  have H : (if a0 = 0 then (some (⟨#[]⟩ : ByteArray)) else ((impl_keysFrom.f k a1).bind fun t108 => (if t108 = 0 then (none) else ((impl_keyBelow.f k (Int.tmod (wrap64 (a0 - 1)) t108) (wrap64 (a1 + 1))).bind fun t109 => (if (Utf8.encode (wrap32 (wrap64 (97 + (wrap64 (Int.tdiv (wrap64 (a0 - 1)) t108)))))).size + t109.size ≤ 9223372036854775807 then (some ((Utf8.encode (wrap32 (wrap64 (97 + (wrap64 (Int.tdiv (wrap64 (a0 - 1)) t108)))))) ++ t109)) else (none)))))) = some r := h
  clear h
  by_cases c3 : a0 = 0
  · rw [if_pos c3] at H
    have c3b0 : (a0 == 0) = true := beq_iff_eq.mpr c3
    have c3b1 : (a0 != 0) = false := bne_eq_false_iff_eq.mpr c3
    clear c3
    obtain rfl := Option.some.inj H
    go_enter Try.func46, Try.ntmps46
    go_wp2
    go_ret
    exact ⟨by first | rfl | (simp; done) | (simp [*]; done), by repeat (first | exact Drawn0.refl _ | apply Drawn0.step)⟩
  · rw [if_neg c3] at H
    have c3b0 : (a0 == 0) = false := beq_eq_false_iff_ne.mpr c3
    have c3b1 : (a0 != 0) = true := bne_iff_ne.mpr c3
    replace H := Option.bind_eq_some_iff.mp H
    obtain ⟨t108, A40, H⟩ := H
    replace H : (if t108 = 0 then (none) else ((impl_keyBelow.f k (Int.tmod (wrap64 (a0 - 1)) t108) (wrap64 (a1 + 1))).bind fun t109 => (if (Utf8.encode (wrap32 (wrap64 (97 + (wrap64 (Int.tdiv (wrap64 (a0 - 1)) t108)))))).size + t109.size ≤ 9223372036854775807 then (some ((Utf8.encode (wrap32 (wrap64 (97 + (wrap64 (Int.tdiv (wrap64 (a0 - 1)) t108)))))) ++ t109)) else (none)))) = some r := H
    have A4 := Aside0.mk A40
    clear A40
    by_cases c5 : t108 = 0
    · rw [if_pos c5] at H
      exact absurd H (by simp)
    · rw [if_neg c5] at H
      have c5b0 : (t108 == 0) = false := beq_eq_false_iff_ne.mpr c5
      have c5b1 : (t108 != 0) = true := bne_iff_ne.mpr c5
      replace H := Option.bind_eq_some_iff.mp H
      obtain ⟨t109, A60, H⟩ := H
      replace H : (if (Utf8.encode (wrap32 (wrap64 (97 + (wrap64 (Int.tdiv (wrap64 (a0 - 1)) t108)))))).size + t109.size ≤ 9223372036854775807 then (some ((Utf8.encode (wrap32 (wrap64 (97 + (wrap64 (Int.tdiv (wrap64 (a0 - 1)) t108)))))) ++ t109)) else (none)) = some r := H
      have A6 := Aside0.mk A60
      clear A60
      by_cases c7 : (Utf8.encode (wrap32 (wrap64 (97 + (wrap64 (Int.tdiv (wrap64 (a0 - 1)) t108)))))).size + t109.size ≤ 9223372036854775807
      · rw [if_pos c7] at H
        have c7b0 := eq_true c7
        have c7b1 : decide ((Utf8.encode (wrap32 (wrap64 (97 + (wrap64 (Int.tdiv (wrap64 (a0 - 1)) t108)))))).size + t109.size ≤ 9223372036854775807) = true := decide_eq_true c7
        try have c7b2 : (9223372036854775807 < (Utf8.encode (wrap32 (wrap64 (97 + (wrap64 (Int.tdiv (wrap64 (a0 - 1)) t108)))))).size + t109.size) = False := eq_false (Nat.not_lt.2 c7)
        obtain rfl := Option.some.inj H
        go_enter Try.func46, Try.ntmps46
        go_wp2_with (first | ((with_reducible refine gate_callee (f := 57) rfl ?_); refine goesL_ (some 10) rfl rfl Try.func57 (by kernel_rfl) rfl #[.int .i64 a1] rfl (by (try simp only [List.map_toArray, List.map_cons, List.map_nil]); first | done | rfl | (simp only [List.length_drop, List.length_take]; rfl)) ?_; (with_reducible refine (impl_keysFrom.calls k a1 t108 _ A4.out).mono ?_); rintro e w' ⟨rfl, ⟨nd, rfl⟩⟩; refine ⟨_, rfl, ?_⟩) | ((with_reducible refine gate_callee (f := 46) rfl ?_); refine goesL_ (some 25) rfl rfl Try.func46 (by kernel_rfl) rfl #[.int .i64 (Int.tmod (wrap64 (a0 - 1)) t108), .int .i64 (wrap64 (a1 + 1))] rfl (by (try simp only [List.map_toArray, List.map_cons, List.map_nil]); first | done | rfl | (simp only [List.length_drop, List.length_take]; rfl)) ?_; (with_reducible refine (ih k (by omega) (Int.tmod (wrap64 (a0 - 1)) t108) (wrap64 (a1 + 1)) t109 _ A6.out).mono ?_); rintro e w' ⟨rfl, ⟨nd, rfl⟩⟩; refine ⟨_, rfl, ?_⟩))
        go_ret
        exact ⟨by first | rfl | (simp; done) | (simp [*]; done), by repeat (first | exact Drawn0.refl _ | apply Drawn0.step)⟩
      · rw [if_neg c7] at H
        exact absurd H (by simp)

/-! ### impl_KeyAt: function 18 -/
def impl_KeyAt.f (k : Nat) (a0 : Int) : Option (ByteArray) := if a0 < 0 then (some (⟨#[]⟩ : ByteArray)) else (if a0 > 475253 then (some (⟨#[]⟩ : ByteArray)) else ((impl_keyBelow.f k (wrap64 (a0 + 1)) 1).bind fun t110 => (some t110)))
theorem impl_KeyAt.mono : ∀ a0 k, LeO (impl_KeyAt.f k a0) (impl_KeyAt.f (k + 1) a0) := by
  intro a0 k
  unfold impl_KeyAt.f
  repeat' first
      | (with_reducible exact impl_keyBelow.mono _ _ _)
      | (with_reducible exact LeO.refl _)
      | (with_reducible exact LeO.none _)
      | (with_reducible refine LeO.ite ?_ ?_)
      | (with_reducible refine LeO.bind ?_ (fun _ => ?_))
      | exact impl_keyBelow.mono _ _ _
      | exact LeO.none _
      | refine LeO.ite ?_ ?_
      | refine LeO.bind ?_ (fun _ => ?_)
set_option maxHeartbeats 8000000 in
set_option maxRecDepth 100000 in
theorem impl_KeyAt.calls (k : Nat) (a0 : Int) (r : ByteArray) (w : World) (h : impl_KeyAt.f k a0 = some r) :
    Calls Try.prog 18 #[.int .i64 a0] w fun e w' => e = .returned (.string r) ∧ Drawn0 w w' := by
  have H : (if a0 < 0 then (some (⟨#[]⟩ : ByteArray)) else (if a0 > 475253 then (some (⟨#[]⟩ : ByteArray)) else ((impl_keyBelow.f k (wrap64 (a0 + 1)) 1).bind fun t110 => (some t110)))) = some r := h
  clear h
  by_cases c2 : a0 < 0
  · rw [if_pos c2] at H
    have c2b0 : decide (a0 < 0) = true := decide_eq_true c2
    clear c2
    obtain rfl := Option.some.inj H
    go_enter Try.func18, Try.ntmps18
    go_wp2
    go_ret
    exact ⟨by first | rfl | (simp; done) | (simp [*]; done), by repeat (first | exact Drawn0.refl _ | apply Drawn0.step)⟩
  · rw [if_neg c2] at H
    have c2b0 : decide (a0 < 0) = false := decide_eq_false c2
    clear c2
    by_cases c3 : a0 > 475253
    · rw [if_pos c3] at H
      have c3b0 : decide (475253 < a0) = true := decide_eq_true c3
      clear c3
      obtain rfl := Option.some.inj H
      go_enter Try.func18, Try.ntmps18
      go_wp2
      go_ret
      exact ⟨by first | rfl | (simp; done) | (simp [*]; done), by repeat (first | exact Drawn0.refl _ | apply Drawn0.step)⟩
    · rw [if_neg c3] at H
      have c3b0 : decide (475253 < a0) = false := decide_eq_false c3
      clear c3
      replace H := Option.bind_eq_some_iff.mp H
      obtain ⟨t110, A40, H⟩ := H
      replace H : (some t110) = some r := H
      have A4 := Aside0.mk A40
      clear A40
      obtain rfl := Option.some.inj H
      go_enter Try.func18, Try.ntmps18
      go_wp2_with (first | ((with_reducible refine gate_callee (f := 46) rfl ?_); refine goesL_ (some 11) rfl rfl Try.func46 (by kernel_rfl) rfl #[.int .i64 (wrap64 (a0 + 1)), .int .i64 1] rfl (by (try simp only [List.map_toArray, List.map_cons, List.map_nil]); first | done | rfl | (simp only [List.length_drop, List.length_take]; rfl)) ?_; (with_reducible refine (impl_keyBelow.calls k (wrap64 (a0 + 1)) 1 t110 _ A4.out).mono ?_); rintro e w' ⟨rfl, ⟨nd, rfl⟩⟩; refine ⟨_, rfl, ?_⟩))
      go_ret
      exact ⟨by first | rfl | (simp; done) | (simp [*]; done), by repeat (first | exact Drawn0.refl _ | apply Drawn0.step)⟩

/-! ### laws_FnExactKeyAt: function 5 -/
def laws_FnExactKeyAt.f (k : Nat) (a0 : Int) : Option (Bool) := (spec_KeyAt.f k a0).bind fun t111 => ((impl_KeyAt.f k a0).bind fun t112 => (if t112.toList = t111.toList then (some true) else (none)))
theorem laws_FnExactKeyAt.mono : ∀ a0 k, LeO (laws_FnExactKeyAt.f k a0) (laws_FnExactKeyAt.f (k + 1) a0) := by
  intro a0 k
  unfold laws_FnExactKeyAt.f
  repeat' first
      | (with_reducible exact impl_KeyAt.mono _ _)
      | (with_reducible exact spec_KeyAt.mono _ _)
      | (with_reducible exact LeO.refl _)
      | (with_reducible exact LeO.none _)
      | (with_reducible refine LeO.ite ?_ ?_)
      | (with_reducible refine LeO.bind ?_ (fun _ => ?_))
      | exact impl_KeyAt.mono _ _
      | exact spec_KeyAt.mono _ _
      | exact LeO.none _
      | refine LeO.ite ?_ ?_
      | refine LeO.bind ?_ (fun _ => ?_)
set_option maxHeartbeats 8000000 in
set_option maxRecDepth 100000 in
theorem laws_FnExactKeyAt.calls (k : Nat) (a0 : Int) (r : Bool) (w : World) (h : laws_FnExactKeyAt.f k a0 = some r) :
    Calls Try.prog 5 #[.int .i64 a0] w fun e w' => e = .returned (.bool r) ∧ Below w.heap.size w w' := by
  have HB := Aside0.mk (Below.refl w.heap.size w)
  have H : ((spec_KeyAt.f k a0).bind fun t111 => ((impl_KeyAt.f k a0).bind fun t112 => (if t112.toList = t111.toList then (some true) else (none)))) = some r := h
  clear h
  replace H := Option.bind_eq_some_iff.mp H
  obtain ⟨t111, A20, H⟩ := H
  replace H : ((impl_KeyAt.f k a0).bind fun t112 => (if t112.toList = t111.toList then (some true) else (none))) = some r := H
  have A2 := Aside0.mk A20
  clear A20
  replace H := Option.bind_eq_some_iff.mp H
  obtain ⟨t112, A30, H⟩ := H
  replace H : (if t112.toList = t111.toList then (some true) else (none)) = some r := H
  have A3 := Aside0.mk A30
  clear A30
  by_cases c4 : t112.toList = t111.toList
  · rw [if_pos c4] at H
    have c4b0 : (t112.toList == t111.toList) = true := beq_iff_eq.mpr c4
    have c4b1 : (t112.toList != t111.toList) = false := bne_eq_false_iff_eq.mpr c4
    clear c4
    obtain rfl := Option.some.inj H
    go_enter Try.func5, Try.ntmps5
    go_wp2_with (first | ((with_reducible refine gate_callee (f := 17) rfl ?_); refine goesL_ (some 6) rfl rfl Try.func17 (by kernel_rfl) rfl #[.int .i64 a0] rfl (by (try simp only [List.map_toArray, List.map_cons, List.map_nil]); first | done | rfl | (simp only [List.length_drop, List.length_take]; rfl)) ?_; (with_reducible refine (spec_KeyAt.calls k a0 t111 _ A2.out).mono ?_); rintro e w5 ⟨rfl, hb⟩; refine ⟨_, rfl, ?_⟩; have n0_ := Aside0.mk (below_step (by repeat (first | (with_reducible first | exact HB.out | apply below_alloc | apply pw_below_drewN | apply below_drew1) | exact HB.out)) hb); clear HB; have HB := n0_; clear n0_; (try clear hb); (try clear hb2); (try clear hk); (try clear hi)) | ((with_reducible refine gate_callee (f := 18) rfl ?_); refine goesL_ (some 8) rfl rfl Try.func18 (by kernel_rfl) rfl #[.int .i64 a0] rfl (by (try simp only [List.map_toArray, List.map_cons, List.map_nil]); first | done | rfl | (simp only [List.length_drop, List.length_take]; rfl)) ?_; (with_reducible refine (impl_KeyAt.calls k a0 t112 _ A3.out).mono ?_); rintro e w' ⟨rfl, ⟨nd, rfl⟩⟩; refine ⟨_, rfl, ?_⟩))
    go_ret
    exact ⟨by first | rfl | (simp only [u8_w_, w64_u8_]; done) | (simp only [u8_w_, w64_u8_]; rfl) | (simp [errW_none, errW_some] <;> rfl) | (simp [*, errW_none, errW_some] <;> rfl), by repeat (first | (with_reducible first | exact HB.out | apply below_alloc | apply pw_below_drewN | apply below_drew1) | exact HB.out)⟩
  · rw [if_neg c4] at H
    exact absurd H (by simp)

/-- THE ONE PURE STATEMENT of laws_FnExactKeyAt: yours. -/
def laws_FnExactKeyAt.Pure : Prop := ∀ (a0 : Int), (Lit.int .i64 a0).wf = true → ∃ k, laws_FnExactKeyAt.f k a0 = some true
theorem laws_FnExactKeyAt.walk (P : laws_FnExactKeyAt.Pure) (a0 : Int) (w : World) (w0 : (Lit.int .i64 a0).wf = true) :
    Calls Try.prog 5 #[.int .i64 a0] w fun e w' => e = .returned (.bool true) ∧ Below w.heap.size w w' := by
  obtain ⟨k, h⟩ := P a0 w0
  refine (laws_FnExactKeyAt.calls k a0 true w h).mono ?_
  rintro e w' ⟨rfl, hd⟩
  exact ⟨rfl, hd⟩

end Go.Proofs.Ytdceajeldlnkkaa.PFnExactKeyAt
