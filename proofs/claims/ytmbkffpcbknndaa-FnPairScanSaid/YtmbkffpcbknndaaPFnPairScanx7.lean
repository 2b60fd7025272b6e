-- Written for this claim by a program of this session (wip/myprint in the proofs' repo)
import Derived.Test.YtmbkffpcbknndaaPFnPairScanx0
import Derived.Test.YtmbkffpcbknndaaPFnPairScanx4
import Derived.Test.YtmbkffpcbknndaaPFnPairScanx6
namespace Go.Proofs.Ytmbkffpcbknndaa.PFnPairScan
open Go.RowKit Go.Proofs.YtmbkffpcbknndaaW.PrintWords Go.Proofs.YtmbkffpcbknndaaW.PrintLast Go.Proofs.YtmbkffpcbknndaaW.PrintMore
attribute [local go_sem] max2_int min2_int max_two min_two max_three min_three max_four min_four max2_strs min2_strs   -- for this text's walks alone
set_option linter.unusedVariables false
set_option linter.unusedSimpArgs false

/-! ### spec_l20Value: function 54 -/
def spec_l20Value.f (k : Nat) (s0_0 : List Int) (s0_1 : Int) (a1 : Int) : Option (Int × Int) := (spec_l20Rd_odd.f k s0_0 s0_1 a1).bind fun bt182 => (if bt182.1 = true then ((some (([(-1), 1000] : List Int) : List Int)).bind fun y184 => ((spec_l20Rd_pick.f k s0_0 bt182.2 2).bind fun bt187 => (if 0 ≤ bt187.1 then (if bt187.1 < (y184.length : Int) then (some (rd y184 bt187.1, bt187.2)) else (none)) else (none)))) else ((spec_l20Rd_pick.f k s0_0 bt182.2 20).bind fun bt190 => ((some (([bt190.1, 999] : List Int) : List Int)).bind fun y192 => ((spec_l20Rd_pick.f k s0_0 bt190.2 9).bind fun bt195 => (if 0 ≤ (wrap64 (Int.tdiv bt195.1 8)) then (if (wrap64 (Int.tdiv bt195.1 8)) < (y192.length : Int) then (some (rd y192 (wrap64 (Int.tdiv bt195.1 8)), bt195.2)) else (none)) else (none))))))
theorem spec_l20Value.mono : ∀ a0 a1 a2 k, LeO (spec_l20Value.f k a0 a1 a2) (spec_l20Value.f (k + 1) a0 a1 a2) := by
  intro a0 a1 a2 k
  unfold spec_l20Value.f
  repeat' first
      | (with_reducible exact spec_l20Rd_odd.mono _ _ _ _)
      | (with_reducible exact spec_l20Rd_pick.mono _ _ _ _)
      | (with_reducible exact LeO.refl _)
      | (with_reducible exact LeO.none _)
      | (with_reducible refine LeO.ite ?_ ?_)
      | (with_reducible refine LeO.bind ?_ (fun _ => ?_))
      | exact spec_l20Rd_odd.mono _ _ _ _
      | exact spec_l20Rd_pick.mono _ _ _ _
      | exact LeO.none _
      | refine LeO.ite ?_ ?_
      | refine LeO.bind ?_ (fun _ => ?_)
set_option maxHeartbeats 8000000 in
set_option maxRecDepth 100000 in
theorem spec_l20Value.calls (k : Nat) (g : Nat) (s0_0 : List Int) (s0_1 : Int) (a1 : Int) (r1 : Int) (r2 : Int) (w0 w : World) (hI : IsS73 w0 w g s0_0 s0_1) (hB : Below w0.heap.size w0 w) (h : spec_l20Value.f k s0_0 s0_1 a1 = some (r1, r2)) :
    Calls Try.prog 54 #[.pointer (some ⟨g, 0, none⟩), .int .i64 a1] w fun e w' => e = .returned (.int .i64 r1) ∧ IsS73 w0 w' g s0_0 r2 ∧ Below w0.heap.size w0 w' ∧ KeepBut w w' g none := by
  have HI0 := Aside0.mk hI
  have HK := Aside0.mk (KeepBut.refl w g none)
  have HL := Aside0.mk hB.size
  clear hI
  have HW0 := Aside0.mk hB.size
  have HB := Aside0.mk hB
  clear hB
  have H : ((spec_l20Rd_odd.f k s0_0 s0_1 a1).bind fun bt182 => (if bt182.1 = true then ((some (([(-1), 1000] : List Int) : List Int)).bind fun y184 => ((spec_l20Rd_pick.f k s0_0 bt182.2 2).bind fun bt187 => (if 0 ≤ bt187.1 then (if bt187.1 < (y184.length : Int) then (some (rd y184 bt187.1, bt187.2)) else (none)) else (none)))) else ((spec_l20Rd_pick.f k s0_0 bt182.2 20).bind fun bt190 => ((some (([bt190.1, 999] : List Int) : List Int)).bind fun y192 => ((spec_l20Rd_pick.f k s0_0 bt190.2 9).bind fun bt195 => (if 0 ≤ (wrap64 (Int.tdiv bt195.1 8)) then (if (wrap64 (Int.tdiv bt195.1 8)) < (y192.length : Int) then (some (rd y192 (wrap64 (Int.tdiv bt195.1 8)), bt195.2)) else (none)) else (none))))))) = some (r1, r2) := h
  clear h
  replace H := Option.bind_eq_some_iff.mp H
  obtain ⟨⟨t182, t183⟩, A30, H⟩ := H
  replace H : (if t182 = true then ((some (([(-1), 1000] : List Int) : List Int)).bind fun y184 => ((spec_l20Rd_pick.f k s0_0 t183 2).bind fun bt187 => (if 0 ≤ bt187.1 then (if bt187.1 < (y184.length : Int) then (some (rd y184 bt187.1, bt187.2)) else (none)) else (none)))) else ((spec_l20Rd_pick.f k s0_0 t183 20).bind fun bt190 => ((some (([bt190.1, 999] : List Int) : List Int)).bind fun y192 => ((spec_l20Rd_pick.f k s0_0 bt190.2 9).bind fun bt195 => (if 0 ≤ (wrap64 (Int.tdiv bt195.1 8)) then (if (wrap64 (Int.tdiv bt195.1 8)) < (y192.length : Int) then (some (rd y192 (wrap64 (Int.tdiv bt195.1 8)), bt195.2)) else (none)) else (none)))))) = some (r1, r2) := H
  have A3 := Aside0.mk A30
  clear A30
  by_cases c4 : t182 = true
  · subst c4
    have H1 : ((some (([(-1), 1000] : List Int) : List Int)).bind fun y184 => ((spec_l20Rd_pick.f k s0_0 t183 2).bind fun bt187 => (if 0 ≤ bt187.1 then (if bt187.1 < (y184.length : Int) then (some (rd y184 bt187.1, bt187.2)) else (none)) else (none)))) = some (r1, r2) := by rw [if_pos rfl] at H; exact H
    clear H
    have H := H1
    clear H1
    obtain ⟨y184, hy184⟩ : ∃ y_ : List Int, y_ = (([(-1), 1000] : List Int)) := ⟨_, rfl⟩
    replace H : ((spec_l20Rd_pick.f k s0_0 t183 2).bind fun bt187 => (if 0 ≤ bt187.1 then (if bt187.1 < (y184.length : Int) then (some (rd y184 bt187.1, bt187.2)) else (none)) else (none))) = some (r1, r2) := by first | (rw [hy184]; with_reducible exact H) | (have H2_ := (Option.bind_some _ _).symm.trans H; rw [hy184]; with_reducible exact H2_) | (have H2_ := (Option.bind_some _ _).symm.trans H; with_reducible exact H2_) | with_reducible exact H | (rw [hy184]; exact H) | exact H
    have Ny184 := Aside0.mk hy184
    clear hy184
    replace H := Option.bind_eq_some_iff.mp H
    obtain ⟨⟨t187, t188⟩, A50, H⟩ := H
    replace H : (if 0 ≤ t187 then (if t187 < (y184.length : Int) then (some (rd y184 t187, t188)) else (none)) else (none)) = some (r1, r2) := H
    have A5 := Aside0.mk A50
    clear A50
    by_cases c6 : 0 ≤ t187
    · rw [if_pos c6] at H
      have c6b0 : decide (0 ≤ t187) = true := decide_eq_true c6
      clear c6
      by_cases c7 : t187 < (y184.length : Int)
      · rw [if_pos c7] at H
        have c7b0 : decide (t187 < (y184.length : Int)) = true := decide_eq_true c7
        clear c7
        simp only [Option.some.injEq, Prod.mk.injEq] at H
        obtain ⟨rfl, rfl⟩ := H
        go_enter Try.func54, Try.ntmps54
        go_wp2_with (first | ((with_reducible refine gate_callee (f := 64) rfl ?_); refine goesL_ (some 7) rfl rfl Try.func64 (by kernel_rfl) rfl #[.pointer (some ⟨g, 0, none⟩), .int .i64 a1] rfl (by (try simp only [List.map_toArray, List.map_cons, List.map_nil]); first | done | rfl | (simp only [List.length_drop, List.length_take]; rfl)) ?_; (with_reducible refine (spec_l20Rd_odd.calls k g s0_0 s0_1 a1 true t183 w0 _ ?side1 ?side2 A3.out).mono ?_); (case side1 => repeat (first | (with_reducible first | exact HI0.out | apply IsS73.alloc | apply IsS73.drewN | apply IsS73.drew | apply IsS73.set_1) | exact HI0.out)); (case side2 => repeat (first | (with_reducible first | exact HB.out | apply below_alloc | apply pw_below_drewN | apply below_drew1 | refine below_set ?_ (IsS73.ge HI0.out)) | exact HB.out)); rintro e w8 ⟨rfl, hi, hb, hk⟩; refine ⟨_, rfl, ?_⟩; have n0_ := Aside0.mk (KeepBut.trans (by repeat (first | (with_reducible first | exact HK.out | apply KeepBut.set_ | apply keep_drewN | apply keep_drew | apply keep_alloc) | exact HK.out)) hk (.inl rfl)); have n1_ := Aside0.mk (hb); have n2_ := Aside0.mk (hi); clear HK; clear HB; clear HI0; have HK := n0_; have HB := n1_; have HI0 := n2_; clear n0_ n1_ n2_; (try clear hb); (try clear hb2); (try clear hk); (try clear hi)) | ((with_reducible refine gate_dst (N := 8) rfl ?_); refine Kd.R_lit (Kd.int .i64) _ 3 ?hg (N := 8) ?hd (xs := ([(-1), 1000] : List Int)) (inner := [.int .i64 (-1), .int .i64 1000]) (ok := fun _ => True) (okp := fun _ => True) ?hr ?hp (fun _ hk => hk) trivial (Below.refl _ _) (Nat.le_refl _) (by simp) ?_; (case hd => rfl); (case hg => rfl); (case hr => first | (go_simp; done) | (go_simp; rfl)); (case hp => exact (Reps.one (show Kd.M (Kd.int .i64) _ _ _ (-1) [.int .i64 (-1)] from rfl) (Reps.one (show Kd.M (Kd.int .i64) _ _ _ 1000 [.int .i64 1000] from rfl) (Reps.none _ _)))); intro v185 w9 ho10 hb hg_ hnew_; clear hg_ hnew_; (first | rw [← Ny184.out] at ho10 | (simp only [Int.reduceToNat] at ho10; rw [← Ny184.out] at ho10)); have n0_ := Aside0.mk (Kd.R_lower ho10 (keep_size (w := w) (g := g) (row := none) (by repeat (first | (with_reducible first | exact HK.out | apply KeepBut.set_ | apply keep_drewN | apply keep_drew | apply keep_alloc) | exact HK.out)))); have n1_ := Aside0.mk (IsS73.below (by repeat (first | (with_reducible first | exact HI0.out | apply IsS73.alloc | apply IsS73.drewN | apply IsS73.drew | apply IsS73.set_1) | exact HI0.out)) hb); have n2_ := Aside0.mk (KeepBut.trans (by repeat (first | (with_reducible first | exact HK.out | apply KeepBut.set_ | apply keep_drewN | apply keep_drew | apply keep_alloc) | exact HK.out)) (KeepBut.of_below hb g none) (.inl rfl)); have n3_ := Aside0.mk (below_step (by repeat (first | (with_reducible first | exact HB.out | apply below_alloc | apply pw_below_drewN | apply below_drew1 | refine below_set ?_ (IsS73.ge HI0.out)) | exact HB.out)) hb); clear HI0; clear HK; clear HB; have HO186 := n0_; have HI0 := n1_; have HK := n2_; have HB := n3_; clear n0_ n1_ n2_ n3_; clear hb ho10) | ((with_reducible refine gate_callee (f := 56) rfl ?_); refine goesL_ (some 10) rfl rfl Try.func56 (by kernel_rfl) rfl #[.pointer (some ⟨g, 0, none⟩), .int .i64 2] rfl (by (try simp only [List.map_toArray, List.map_cons, List.map_nil]); first | done | rfl | (simp only [List.length_drop, List.length_take]; rfl)) ?_; (with_reducible refine (spec_l20Rd_pick.calls k g s0_0 t183 2 t187 t188 w0 _ ?side1 ?side2 A5.out).mono ?_); (case side1 => repeat (first | (with_reducible first | exact HI0.out | apply IsS73.alloc | apply IsS73.drewN | apply IsS73.drew | apply IsS73.set_1) | exact HI0.out)); (case side2 => repeat (first | (with_reducible first | exact HB.out | apply below_alloc | apply pw_below_drewN | apply below_drew1 | refine below_set ?_ (IsS73.ge HI0.out)) | exact HB.out)); rintro e w11 ⟨rfl, hi, hb, hk⟩; refine ⟨_, rfl, ?_⟩; have n0_ := Aside0.mk (Kd.R_mono (Kd.R_keep (IsS73.apart (show IsS73 w0 _ g s0_0 t183 from by repeat (first | (with_reducible first | exact HI0.out | apply IsS73.alloc | apply IsS73.drewN | apply IsS73.drew | apply IsS73.set_1) | exact HI0.out)) (by (with_reducible repeat (first | apply Kd.R_alloc | apply Kd.R_drewN | apply Kd.R_drew)); exact HO186.out) (by decide)) hk (fun _ h => h.2)) (fun _ h => h.1)); have n1_ := Aside0.mk (KeepBut.trans (by repeat (first | (with_reducible first | exact HK.out | apply KeepBut.set_ | apply keep_drewN | apply keep_drew | apply keep_alloc) | exact HK.out)) hk (.inl rfl)); have n2_ := Aside0.mk (hb); have n3_ := Aside0.mk (hi); clear HO186; clear HK; clear HB; clear HI0; have HO186 := n0_; have HK := n1_; have HB := n2_; have HI0 := n3_; clear n0_ n1_ n2_ n3_; (try clear hb); (try clear hb2); (try clear hk); (try clear hi); obtain ⟨Ao12, co12, eo12⟩ := Kd.R_slice HO186.out; subst eo12; have p189 : 0 ≤ (t187 : Int) := of_decide_eq_true (by first | (with_reducible assumption) | assumption); have q189 : t187 < (y184.length : Int) := of_decide_eq_true (by first | (with_reducible assumption) | assumption); obtain ⟨ad189, e189, hx189_0⟩ := Kd.at_int (Kd.R_reads' HO186.out).2.2 t187 p189 q189; cases e189; replace p189 := eq_true p189; replace q189 := eq_true q189))
        go_ret
        exact ⟨by first | rfl | (simp only [u8_w_, w64_u8_]; done) | (simp only [u8_w_, w64_u8_]; rfl) | (simp [errW_none, errW_some] <;> rfl) | (simp [*, errW_none, errW_some] <;> rfl), by repeat (first | (with_reducible first | exact HI0.out | apply IsS73.alloc | apply IsS73.drewN | apply IsS73.drew | apply IsS73.set_1) | exact HI0.out), by repeat (first | (with_reducible first | exact HB.out | apply below_alloc | apply pw_below_drewN | apply below_drew1 | refine below_set ?_ (IsS73.ge HI0.out)) | exact HB.out), by repeat (first | (with_reducible first | exact HK.out | apply KeepBut.set_ | apply keep_drewN | apply keep_drew | apply keep_alloc) | exact HK.out)⟩
      · rw [if_neg c7] at H
        exact absurd H (by simp)
    · rw [if_neg c6] at H
      exact absurd H (by simp)
  · replace c4 := Bool.eq_false_iff.mpr c4
    subst c4
    have H1 : ((spec_l20Rd_pick.f k s0_0 t183 20).bind fun bt190 => ((some (([bt190.1, 999] : List Int) : List Int)).bind fun y192 => ((spec_l20Rd_pick.f k s0_0 bt190.2 9).bind fun bt195 => (if 0 ≤ (wrap64 (Int.tdiv bt195.1 8)) then (if (wrap64 (Int.tdiv bt195.1 8)) < (y192.length : Int) then (some (rd y192 (wrap64 (Int.tdiv bt195.1 8)), bt195.2)) else (none)) else (none))))) = some (r1, r2) := by rw [if_neg (show ¬ (false = true) by decide)] at H; exact H
    clear H
    have H := H1
    clear H1
    replace H := Option.bind_eq_some_iff.mp H
    obtain ⟨⟨t190, t191⟩, A130, H⟩ := H
    replace H : ((some (([t190, 999] : List Int) : List Int)).bind fun y192 => ((spec_l20Rd_pick.f k s0_0 t191 9).bind fun bt195 => (if 0 ≤ (wrap64 (Int.tdiv bt195.1 8)) then (if (wrap64 (Int.tdiv bt195.1 8)) < (y192.length : Int) then (some (rd y192 (wrap64 (Int.tdiv bt195.1 8)), bt195.2)) else (none)) else (none)))) = some (r1, r2) := H
    have A13 := Aside0.mk A130
    clear A130
    obtain ⟨y192, hy192⟩ : ∃ y_ : List Int, y_ = (([t190, 999] : List Int)) := ⟨_, rfl⟩
    replace H : ((spec_l20Rd_pick.f k s0_0 t191 9).bind fun bt195 => (if 0 ≤ (wrap64 (Int.tdiv bt195.1 8)) then (if (wrap64 (Int.tdiv bt195.1 8)) < (y192.length : Int) then (some (rd y192 (wrap64 (Int.tdiv bt195.1 8)), bt195.2)) else (none)) else (none))) = some (r1, r2) := by first | (rw [hy192]; with_reducible exact H) | (have H2_ := (Option.bind_some _ _).symm.trans H; rw [hy192]; with_reducible exact H2_) | (have H2_ := (Option.bind_some _ _).symm.trans H; with_reducible exact H2_) | with_reducible exact H | (rw [hy192]; exact H) | exact H
    have Ny192 := Aside0.mk hy192
    clear hy192
    replace H := Option.bind_eq_some_iff.mp H
    obtain ⟨⟨t195, t196⟩, A140, H⟩ := H
    replace H : (if 0 ≤ (wrap64 (Int.tdiv t195 8)) then (if (wrap64 (Int.tdiv t195 8)) < (y192.length : Int) then (some (rd y192 (wrap64 (Int.tdiv t195 8)), t196)) else (none)) else (none)) = some (r1, r2) := H
    have A14 := Aside0.mk A140
    clear A140
    obtain ⟨ji15, hji15⟩ : ∃ j_ : Int, (wrap64 (Int.tdiv t195 8)) = j_ := ⟨_, rfl⟩
    replace H : (if 0 ≤ (ji15) then (if (ji15) < (y192.length : Int) then (some (rd y192 (ji15), t196)) else (none)) else (none)) = some (r1, r2) := by first | (rw [hji15] at H; exact H) | (simp only [hji15] at H ⊢; exact H)
    (try rw [hji15] at A3)
    (try rw [hji15] at A13)
    (try rw [hji15] at A14)
    have hji15w : (IntKind.i64.wrap (Int.tdiv t195 8)) = ji15 := (i64_w _).trans hji15
    by_cases c16 : 0 ≤ (ji15)
    · rw [if_pos c16] at H
      have c16b0 : decide (0 ≤ (ji15)) = true := decide_eq_true c16
      clear c16
      by_cases c17 : (ji15) < (y192.length : Int)
      · rw [if_pos c17] at H
        have c17b0 : decide ((ji15) < (y192.length : Int)) = true := decide_eq_true c17
        clear c17
        simp only [Option.some.injEq, Prod.mk.injEq] at H
        obtain ⟨rfl, rfl⟩ := H
        go_enter Try.func54, Try.ntmps54
        go_wp2_with (first | ((with_reducible refine gate_callee (f := 64) rfl ?_); refine goesL_ (some 7) rfl rfl Try.func64 (by kernel_rfl) rfl #[.pointer (some ⟨g, 0, none⟩), .int .i64 a1] rfl (by (try simp only [List.map_toArray, List.map_cons, List.map_nil]); first | done | rfl | (simp only [List.length_drop, List.length_take]; rfl)) ?_; (with_reducible refine (spec_l20Rd_odd.calls k g s0_0 s0_1 a1 false t183 w0 _ ?side1 ?side2 A3.out).mono ?_); (case side1 => repeat (first | (with_reducible first | exact HI0.out | apply IsS73.alloc | apply IsS73.drewN | apply IsS73.drew | apply IsS73.set_1) | exact HI0.out)); (case side2 => repeat (first | (with_reducible first | exact HB.out | apply below_alloc | apply pw_below_drewN | apply below_drew1 | refine below_set ?_ (IsS73.ge HI0.out)) | exact HB.out)); rintro e w18 ⟨rfl, hi, hb, hk⟩; refine ⟨_, rfl, ?_⟩; have n0_ := Aside0.mk (KeepBut.trans (by repeat (first | (with_reducible first | exact HK.out | apply KeepBut.set_ | apply keep_drewN | apply keep_drew | apply keep_alloc) | exact HK.out)) hk (.inl rfl)); have n1_ := Aside0.mk (hb); have n2_ := Aside0.mk (hi); clear HK; clear HB; clear HI0; have HK := n0_; have HB := n1_; have HI0 := n2_; clear n0_ n1_ n2_; (try clear hb); (try clear hb2); (try clear hk); (try clear hi)) | ((with_reducible refine gate_callee (f := 56) rfl ?_); refine goesL_ (some 14) rfl rfl Try.func56 (by kernel_rfl) rfl #[.pointer (some ⟨g, 0, none⟩), .int .i64 20] rfl (by (try simp only [List.map_toArray, List.map_cons, List.map_nil]); first | done | rfl | (simp only [List.length_drop, List.length_take]; rfl)) ?_; (with_reducible refine (spec_l20Rd_pick.calls k g s0_0 t183 20 t190 t191 w0 _ ?side1 ?side2 A13.out).mono ?_); (case side1 => repeat (first | (with_reducible first | exact HI0.out | apply IsS73.alloc | apply IsS73.drewN | apply IsS73.drew | apply IsS73.set_1) | exact HI0.out)); (case side2 => repeat (first | (with_reducible first | exact HB.out | apply below_alloc | apply pw_below_drewN | apply below_drew1 | refine below_set ?_ (IsS73.ge HI0.out)) | exact HB.out)); rintro e w19 ⟨rfl, hi, hb, hk⟩; refine ⟨_, rfl, ?_⟩; have n0_ := Aside0.mk (KeepBut.trans (by repeat (first | (with_reducible first | exact HK.out | apply KeepBut.set_ | apply keep_drewN | apply keep_drew | apply keep_alloc) | exact HK.out)) hk (.inl rfl)); have n1_ := Aside0.mk (hb); have n2_ := Aside0.mk (hi); clear HK; clear HB; clear HI0; have HK := n0_; have HB := n1_; have HI0 := n2_; clear n0_ n1_ n2_; (try clear hb); (try clear hb2); (try clear hk); (try clear hi)) | ((with_reducible refine gate_dst (N := 15) rfl ?_); refine Kd.R_lit (Kd.int .i64) _ 3 ?hg (N := 15) ?hd (xs := ([t190, 999] : List Int)) (inner := [.int .i64 t190, .int .i64 999]) (ok := fun _ => True) (okp := fun _ => True) ?hr ?hp (fun _ hk => hk) trivial (Below.refl _ _) (Nat.le_refl _) (by simp) ?_; (case hd => rfl); (case hg => rfl); (case hr => first | (go_simp; done) | (go_simp; rfl)); (case hp => exact (Reps.one (show Kd.M (Kd.int .i64) _ _ _ t190 [.int .i64 t190] from rfl) (Reps.one (show Kd.M (Kd.int .i64) _ _ _ 999 [.int .i64 999] from rfl) (Reps.none _ _)))); intro v193 w20 ho21 hb hg_ hnew_; clear hg_ hnew_; (first | rw [← Ny192.out] at ho21 | (simp only [Int.reduceToNat] at ho21; rw [← Ny192.out] at ho21)); have n0_ := Aside0.mk (Kd.R_lower ho21 (keep_size (w := w) (g := g) (row := none) (by repeat (first | (with_reducible first | exact HK.out | apply KeepBut.set_ | apply keep_drewN | apply keep_drew | apply keep_alloc) | exact HK.out)))); have n1_ := Aside0.mk (IsS73.below (by repeat (first | (with_reducible first | exact HI0.out | apply IsS73.alloc | apply IsS73.drewN | apply IsS73.drew | apply IsS73.set_1) | exact HI0.out)) hb); have n2_ := Aside0.mk (KeepBut.trans (by repeat (first | (with_reducible first | exact HK.out | apply KeepBut.set_ | apply keep_drewN | apply keep_drew | apply keep_alloc) | exact HK.out)) (KeepBut.of_below hb g none) (.inl rfl)); have n3_ := Aside0.mk (below_step (by repeat (first | (with_reducible first | exact HB.out | apply below_alloc | apply pw_below_drewN | apply below_drew1 | refine below_set ?_ (IsS73.ge HI0.out)) | exact HB.out)) hb); clear HI0; clear HK; clear HB; have HO194 := n0_; have HI0 := n1_; have HK := n2_; have HB := n3_; clear n0_ n1_ n2_ n3_; clear hb ho21) | ((with_reducible refine gate_callee (f := 56) rfl ?_); refine goesL_ (some 17) rfl rfl Try.func56 (by kernel_rfl) rfl #[.pointer (some ⟨g, 0, none⟩), .int .i64 9] rfl (by (try simp only [List.map_toArray, List.map_cons, List.map_nil]); first | done | rfl | (simp only [List.length_drop, List.length_take]; rfl)) ?_; (with_reducible refine (spec_l20Rd_pick.calls k g s0_0 t191 9 t195 t196 w0 _ ?side1 ?side2 A14.out).mono ?_); (case side1 => repeat (first | (with_reducible first | exact HI0.out | apply IsS73.alloc | apply IsS73.drewN | apply IsS73.drew | apply IsS73.set_1) | exact HI0.out)); (case side2 => repeat (first | (with_reducible first | exact HB.out | apply below_alloc | apply pw_below_drewN | apply below_drew1 | refine below_set ?_ (IsS73.ge HI0.out)) | exact HB.out)); rintro e w22 ⟨rfl, hi, hb, hk⟩; refine ⟨_, rfl, ?_⟩; have n0_ := Aside0.mk (Kd.R_mono (Kd.R_keep (IsS73.apart (show IsS73 w0 _ g s0_0 t191 from by repeat (first | (with_reducible first | exact HI0.out | apply IsS73.alloc | apply IsS73.drewN | apply IsS73.drew | apply IsS73.set_1) | exact HI0.out)) (by (with_reducible repeat (first | apply Kd.R_alloc | apply Kd.R_drewN | apply Kd.R_drew)); exact HO194.out) (by decide)) hk (fun _ h => h.2)) (fun _ h => h.1)); have n1_ := Aside0.mk (KeepBut.trans (by repeat (first | (with_reducible first | exact HK.out | apply KeepBut.set_ | apply keep_drewN | apply keep_drew | apply keep_alloc) | exact HK.out)) hk (.inl rfl)); have n2_ := Aside0.mk (hb); have n3_ := Aside0.mk (hi); clear HO194; clear HK; clear HB; clear HI0; have HO194 := n0_; have HK := n1_; have HB := n2_; have HI0 := n3_; clear n0_ n1_ n2_ n3_; (try clear hb); (try clear hb2); (try clear hk); (try clear hi); obtain ⟨Ao23, co23, eo23⟩ := Kd.R_slice HO194.out; subst eo23; have p197 : 0 ≤ ((ji15) : Int) := of_decide_eq_true (by first | (with_reducible assumption) | assumption); have q197 : (ji15) < (y192.length : Int) := of_decide_eq_true (by first | (with_reducible assumption) | assumption); obtain ⟨ad197, e197, hx197_0⟩ := Kd.at_int (Kd.R_reads' HO194.out).2.2 (ji15) p197 q197; cases e197; replace p197 := eq_true p197; replace q197 := eq_true q197))
        go_ret
        exact ⟨by first | rfl | (simp only [u8_w_, w64_u8_]; done) | (simp only [u8_w_, w64_u8_]; rfl) | (simp [errW_none, errW_some] <;> rfl) | (simp only [← hji15]; first | rfl | (simp [errW_none, errW_some] <;> rfl)) | (simp [*, errW_none, errW_some] <;> rfl), by repeat (first | (with_reducible first | exact HI0.out | apply IsS73.alloc | apply IsS73.drewN | apply IsS73.drew | apply IsS73.set_1) | exact HI0.out), by repeat (first | (with_reducible first | exact HB.out | apply below_alloc | apply pw_below_drewN | apply below_drew1 | refine below_set ?_ (IsS73.ge HI0.out)) | exact HB.out), by repeat (first | (with_reducible first | exact HK.out | apply KeepBut.set_ | apply keep_drewN | apply keep_drew | apply keep_alloc) | exact HK.out)⟩
      · rw [if_neg c17] at H
        exact absurd H (by simp)
    · rw [if_neg c16] at H
      exact absurd H (by simp)

/-! ### spec_l20Key: function 62 -/
def spec_l20Key.l0 : Nat → ByteArray → Int → List Int → Int → Option (ByteArray × Int)
  | 0, _, _, _, _ => none
  | k + 1, x5, x6, x1000, x1001 => if x6 > 0 then ((spec_l20Rd_pick.f k x1000 x1001 4).bind fun bt216 => ((some (([(wrap64 (97 + bt216.1)) % 256] : List Int) : List Int)).bind fun y218 => (if x5.size + (strOfNums y218).size ≤ 9223372036854775807 then (spec_l20Key.l0 k (x5 ++ (strOfNums y218)) (wrap64 (x6 - 1)) x1000 bt216.2) else (none)))) else (some (x5, x1001))
def spec_l20Key.f (k : Nat) (s0_0 : List Int) (s0_1 : Int) (a1 : Int) : Option (ByteArray × Int) := (spec_l20Rd_odd.f k s0_0 s0_1 a1).bind fun bt198 => (if bt198.1 = true then ((some (([(⟨#[]⟩ : ByteArray), (⟨#[65]⟩ : ByteArray), (⟨#[97, 49]⟩ : ByteArray), (⟨#[97, 98, 99, 100, 101]⟩ : ByteArray), (⟨#[98, 123]⟩ : ByteArray), (⟨#[97, 32, 98]⟩ : ByteArray)] : List ByteArray) : List ByteArray)).bind fun y200 => ((spec_l20Rd_pick.f k s0_0 bt198.2 6).bind fun bt203 => (if 0 ≤ bt203.1 then (if bt203.1 < (y200.length : Int) then (some (rdOf ByteArray.empty y200 bt203.1, bt203.2)) else (none)) else (none)))) else ((spec_l20Rd_pick.f k s0_0 bt198.2 12).bind fun bt206 => (if bt206.1 = 11 then ((some (([(⟨#[122, 122, 122, 122]⟩ : ByteArray), (⟨#[122, 122, 122]⟩ : ByteArray), (⟨#[97, 122, 122, 122]⟩ : ByteArray), (⟨#[122]⟩ : ByteArray), (⟨#[97, 97, 97, 97]⟩ : ByteArray)] : List ByteArray) : List ByteArray)).bind fun y208 => ((spec_l20Rd_pick.f k s0_0 bt206.2 5).bind fun bt211 => (if 0 ≤ bt211.1 then (if bt211.1 < (y208.length : Int) then (some (rdOf ByteArray.empty y208 bt211.1, bt211.2)) else (none)) else (none)))) else ((spec_l20Rd_pick.f k s0_0 bt206.2 2).bind fun bt214 => (spec_l20Key.l0 k (⟨#[]⟩ : ByteArray) (wrap64 (1 + bt214.1)) s0_0 bt214.2)))))
theorem spec_l20Key.mono_l : ∀ k, (∀ y0 y1 y2 y3, LeO (spec_l20Key.l0 k y0 y1 y2 y3) (spec_l20Key.l0 (k + 1) y0 y1 y2 y3))
  | 0 => fun _ _ _ _ r h => by simp [spec_l20Key.l0] at h
  | k + 1 => by
    have ih0 := spec_l20Key.mono_l k
    · intro y0 y1 y2 y3
      unfold spec_l20Key.l0
      repeat' first
      | (with_reducible exact ih0 _ _ _ _)
      | (with_reducible exact spec_l20Rd_odd.mono _ _ _ _)
      | (with_reducible exact spec_l20Rd_pick.mono _ _ _ _)
      | (with_reducible exact LeO.refl _)
      | (with_reducible exact LeO.none _)
      | (with_reducible refine LeO.ite ?_ ?_)
      | (with_reducible refine LeO.bind ?_ (fun _ => ?_))
      | exact ih0 _ _ _ _
      | exact spec_l20Rd_odd.mono _ _ _ _
      | exact spec_l20Rd_pick.mono _ _ _ _
      | exact LeO.none _
      | refine LeO.ite ?_ ?_
      | refine LeO.bind ?_ (fun _ => ?_)
theorem spec_l20Key.mono : ∀ a0 a1 a2 k, LeO (spec_l20Key.f k a0 a1 a2) (spec_l20Key.f (k + 1) a0 a1 a2) := by
  intro a0 a1 a2 k
  have ih0 := spec_l20Key.mono_l k
  unfold spec_l20Key.f
  repeat' first
      | (with_reducible exact ih0 _ _ _ _)
      | (with_reducible exact spec_l20Rd_odd.mono _ _ _ _)
      | (with_reducible exact spec_l20Rd_pick.mono _ _ _ _)
      | (with_reducible exact LeO.refl _)
      | (with_reducible exact LeO.none _)
      | (with_reducible refine LeO.ite ?_ ?_)
      | (with_reducible refine LeO.bind ?_ (fun _ => ?_))
      | exact ih0 _ _ _ _
      | exact spec_l20Rd_odd.mono _ _ _ _
      | exact spec_l20Rd_pick.mono _ _ _ _
      | exact LeO.none _
      | refine LeO.ite ?_ ?_
      | refine LeO.bind ?_ (fun _ => ?_)
set_option maxHeartbeats 8000000 in
set_option maxRecDepth 100000 in
theorem spec_l20Key.calls (k : Nat) (g : Nat) (s0_0 : List Int) (s0_1 : Int) (a1 : Int) (r1 : ByteArray) (r2 : Int) (w0 w : World) (hI : IsS73 w0 w g s0_0 s0_1) (hB : Below w0.heap.size w0 w) (h : spec_l20Key.f k s0_0 s0_1 a1 = some (r1, r2)) :
    Calls Try.prog 62 #[.pointer (some ⟨g, 0, none⟩), .int .i64 a1] w fun e w' => e = .returned (.string r1) ∧ IsS73 w0 w' g s0_0 r2 ∧ Below w0.heap.size w0 w' ∧ KeepBut w w' g none := by
  have HI0 := Aside0.mk hI
  have HK := Aside0.mk (KeepBut.refl w g none)
  have HL := Aside0.mk hB.size
  clear hI
  have HW0 := Aside0.mk hB.size
  have HB := Aside0.mk hB
  clear hB
  have H : ((spec_l20Rd_odd.f k s0_0 s0_1 a1).bind fun bt198 => (if bt198.1 = true then ((some (([(⟨#[]⟩ : ByteArray), (⟨#[65]⟩ : ByteArray), (⟨#[97, 49]⟩ : ByteArray), (⟨#[97, 98, 99, 100, 101]⟩ : ByteArray), (⟨#[98, 123]⟩ : ByteArray), (⟨#[97, 32, 98]⟩ : ByteArray)] : List ByteArray) : List ByteArray)).bind fun y200 => ((spec_l20Rd_pick.f k s0_0 bt198.2 6).bind fun bt203 => (if 0 ≤ bt203.1 then (if bt203.1 < (y200.length : Int) then (some (rdOf ByteArray.empty y200 bt203.1, bt203.2)) else (none)) else (none)))) else ((spec_l20Rd_pick.f k s0_0 bt198.2 12).bind fun bt206 => (if bt206.1 = 11 then ((some (([(⟨#[122, 122, 122, 122]⟩ : ByteArray), (⟨#[122, 122, 122]⟩ : ByteArray), (⟨#[97, 122, 122, 122]⟩ : ByteArray), (⟨#[122]⟩ : ByteArray), (⟨#[97, 97, 97, 97]⟩ : ByteArray)] : List ByteArray) : List ByteArray)).bind fun y208 => ((spec_l20Rd_pick.f k s0_0 bt206.2 5).bind fun bt211 => (if 0 ≤ bt211.1 then (if bt211.1 < (y208.length : Int) then (some (rdOf ByteArray.empty y208 bt211.1, bt211.2)) else (none)) else (none)))) else ((spec_l20Rd_pick.f k s0_0 bt206.2 2).bind fun bt214 => (spec_l20Key.l0 k (⟨#[]⟩ : ByteArray) (wrap64 (1 + bt214.1)) s0_0 bt214.2)))))) = some (r1, r2) := h
  clear h
  replace H := Option.bind_eq_some_iff.mp H
  obtain ⟨⟨t198, t199⟩, A30, H⟩ := H
  replace H : (if t198 = true then ((some (([(⟨#[]⟩ : ByteArray), (⟨#[65]⟩ : ByteArray), (⟨#[97, 49]⟩ : ByteArray), (⟨#[97, 98, 99, 100, 101]⟩ : ByteArray), (⟨#[98, 123]⟩ : ByteArray), (⟨#[97, 32, 98]⟩ : ByteArray)] : List ByteArray) : List ByteArray)).bind fun y200 => ((spec_l20Rd_pick.f k s0_0 t199 6).bind fun bt203 => (if 0 ≤ bt203.1 then (if bt203.1 < (y200.length : Int) then (some (rdOf ByteArray.empty y200 bt203.1, bt203.2)) else (none)) else (none)))) else ((spec_l20Rd_pick.f k s0_0 t199 12).bind fun bt206 => (if bt206.1 = 11 then ((some (([(⟨#[122, 122, 122, 122]⟩ : ByteArray), (⟨#[122, 122, 122]⟩ : ByteArray), (⟨#[97, 122, 122, 122]⟩ : ByteArray), (⟨#[122]⟩ : ByteArray), (⟨#[97, 97, 97, 97]⟩ : ByteArray)] : List ByteArray) : List ByteArray)).bind fun y208 => ((spec_l20Rd_pick.f k s0_0 bt206.2 5).bind fun bt211 => (if 0 ≤ bt211.1 then (if bt211.1 < (y208.length : Int) then (some (rdOf ByteArray.empty y208 bt211.1, bt211.2)) else (none)) else (none)))) else ((spec_l20Rd_pick.f k s0_0 bt206.2 2).bind fun bt214 => (spec_l20Key.l0 k (⟨#[]⟩ : ByteArray) (wrap64 (1 + bt214.1)) s0_0 bt214.2))))) = some (r1, r2) := H
  have A3 := Aside0.mk A30
  clear A30
  by_cases c4 : t198 = true
  · subst c4
    have H1 : ((some (([(⟨#[]⟩ : ByteArray), (⟨#[65]⟩ : ByteArray), (⟨#[97, 49]⟩ : ByteArray), (⟨#[97, 98, 99, 100, 101]⟩ : ByteArray), (⟨#[98, 123]⟩ : ByteArray), (⟨#[97, 32, 98]⟩ : ByteArray)] : List ByteArray) : List ByteArray)).bind fun y200 => ((spec_l20Rd_pick.f k s0_0 t199 6).bind fun bt203 => (if 0 ≤ bt203.1 then (if bt203.1 < (y200.length : Int) then (some (rdOf ByteArray.empty y200 bt203.1, bt203.2)) else (none)) else (none)))) = some (r1, r2) := by rw [if_pos rfl] at H; exact H
    clear H
    have H := H1
    clear H1
    obtain ⟨y200, hy200⟩ : ∃ y_ : List ByteArray, y_ = (([(⟨#[]⟩ : ByteArray), (⟨#[65]⟩ : ByteArray), (⟨#[97, 49]⟩ : ByteArray), (⟨#[97, 98, 99, 100, 101]⟩ : ByteArray), (⟨#[98, 123]⟩ : ByteArray), (⟨#[97, 32, 98]⟩ : ByteArray)] : List ByteArray)) := ⟨_, rfl⟩
    replace H : ((spec_l20Rd_pick.f k s0_0 t199 6).bind fun bt203 => (if 0 ≤ bt203.1 then (if bt203.1 < (y200.length : Int) then (some (rdOf ByteArray.empty y200 bt203.1, bt203.2)) else (none)) else (none))) = some (r1, r2) := by first | (rw [hy200]; with_reducible exact H) | (have H2_ := (Option.bind_some _ _).symm.trans H; rw [hy200]; with_reducible exact H2_) | (have H2_ := (Option.bind_some _ _).symm.trans H; with_reducible exact H2_) | with_reducible exact H | (rw [hy200]; exact H) | exact H
    have Ny200 := Aside0.mk hy200
    clear hy200
    replace H := Option.bind_eq_some_iff.mp H
    obtain ⟨⟨t203, t204⟩, A50, H⟩ := H
    replace H : (if 0 ≤ t203 then (if t203 < (y200.length : Int) then (some (rdOf ByteArray.empty y200 t203, t204)) else (none)) else (none)) = some (r1, r2) := H
    have A5 := Aside0.mk A50
    clear A50
    by_cases c6 : 0 ≤ t203
    · rw [if_pos c6] at H
      have c6b0 : decide (0 ≤ t203) = true := decide_eq_true c6
      clear c6
      by_cases c7 : t203 < (y200.length : Int)
      · rw [if_pos c7] at H
        have c7b0 : decide (t203 < (y200.length : Int)) = true := decide_eq_true c7
        clear c7
        simp only [Option.some.injEq, Prod.mk.injEq] at H
        obtain ⟨rfl, rfl⟩ := H
        go_enter Try.func62, Try.ntmps62
        go_wp2_with (first | ((with_reducible refine gate_callee (f := 64) rfl ?_); refine goesL_ (some 9) rfl rfl Try.func64 (by kernel_rfl) rfl #[.pointer (some ⟨g, 0, none⟩), .int .i64 a1] rfl (by (try simp only [List.map_toArray, List.map_cons, List.map_nil]); first | done | rfl | (simp only [List.length_drop, List.length_take]; rfl)) ?_; (with_reducible refine (spec_l20Rd_odd.calls k g s0_0 s0_1 a1 true t199 w0 _ ?side1 ?side2 A3.out).mono ?_); (case side1 => repeat (first | (with_reducible first | exact HI0.out | apply IsS73.alloc | apply IsS73.drewN | apply IsS73.drew | apply IsS73.set_1) | exact HI0.out)); (case side2 => repeat (first | (with_reducible first | exact HB.out | apply below_alloc | apply pw_below_drewN | apply below_drew1 | refine below_set ?_ (IsS73.ge HI0.out)) | exact HB.out)); rintro e w8 ⟨rfl, hi, hb, hk⟩; refine ⟨_, rfl, ?_⟩; have n0_ := Aside0.mk (KeepBut.trans (by repeat (first | (with_reducible first | exact HK.out | apply KeepBut.set_ | apply keep_drewN | apply keep_drew | apply keep_alloc) | exact HK.out)) hk (.inl rfl)); have n1_ := Aside0.mk (hb); have n2_ := Aside0.mk (hi); clear HK; clear HB; clear HI0; have HK := n0_; have HB := n1_; have HI0 := n2_; clear n0_ n1_ n2_; (try clear hb); (try clear hb2); (try clear hk); (try clear hi)) | ((with_reducible refine gate_dst (N := 10) rfl ?_); refine Kd.R_lit Kd.string _ 9 ?hg (N := 10) ?hd (xs := ([(⟨#[]⟩ : ByteArray), (⟨#[65]⟩ : ByteArray), (⟨#[97, 49]⟩ : ByteArray), (⟨#[97, 98, 99, 100, 101]⟩ : ByteArray), (⟨#[98, 123]⟩ : ByteArray), (⟨#[97, 32, 98]⟩ : ByteArray)] : List ByteArray)) (inner := [.string (⟨#[]⟩ : ByteArray), .string (⟨#[65]⟩ : ByteArray), .string (⟨#[97, 49]⟩ : ByteArray), .string (⟨#[97, 98, 99, 100, 101]⟩ : ByteArray), .string (⟨#[98, 123]⟩ : ByteArray), .string (⟨#[97, 32, 98]⟩ : ByteArray)]) (ok := fun _ => True) (okp := fun _ => True) ?hr ?hp (fun _ hk => hk) trivial (Below.refl _ _) (Nat.le_refl _) (by simp) ?_; (case hd => rfl); (case hg => rfl); (case hr => first | (go_simp; done) | (go_simp; rfl)); (case hp => exact (Reps.one (show Kd.M Kd.string _ _ _ (⟨#[]⟩ : ByteArray) [.string (⟨#[]⟩ : ByteArray)] from rfl) (Reps.one (show Kd.M Kd.string _ _ _ (⟨#[65]⟩ : ByteArray) [.string (⟨#[65]⟩ : ByteArray)] from rfl) (Reps.one (show Kd.M Kd.string _ _ _ (⟨#[97, 49]⟩ : ByteArray) [.string (⟨#[97, 49]⟩ : ByteArray)] from rfl) (Reps.one (show Kd.M Kd.string _ _ _ (⟨#[97, 98, 99, 100, 101]⟩ : ByteArray) [.string (⟨#[97, 98, 99, 100, 101]⟩ : ByteArray)] from rfl) (Reps.one (show Kd.M Kd.string _ _ _ (⟨#[98, 123]⟩ : ByteArray) [.string (⟨#[98, 123]⟩ : ByteArray)] from rfl) (Reps.one (show Kd.M Kd.string _ _ _ (⟨#[97, 32, 98]⟩ : ByteArray) [.string (⟨#[97, 32, 98]⟩ : ByteArray)] from rfl) (Reps.none _ _)))))))); intro v201 w9 ho10 hb hg_ hnew_; clear hg_ hnew_; (first | rw [← Ny200.out] at ho10 | (simp only [Int.reduceToNat] at ho10; rw [← Ny200.out] at ho10)); have n0_ := Aside0.mk (Kd.R_lower ho10 (keep_size (w := w) (g := g) (row := none) (by repeat (first | (with_reducible first | exact HK.out | apply KeepBut.set_ | apply keep_drewN | apply keep_drew | apply keep_alloc) | exact HK.out)))); have n1_ := Aside0.mk (IsS73.below (by repeat (first | (with_reducible first | exact HI0.out | apply IsS73.alloc | apply IsS73.drewN | apply IsS73.drew | apply IsS73.set_1) | exact HI0.out)) hb); have n2_ := Aside0.mk (KeepBut.trans (by repeat (first | (with_reducible first | exact HK.out | apply KeepBut.set_ | apply keep_drewN | apply keep_drew | apply keep_alloc) | exact HK.out)) (KeepBut.of_below hb g none) (.inl rfl)); have n3_ := Aside0.mk (below_step (by repeat (first | (with_reducible first | exact HB.out | apply below_alloc | apply pw_below_drewN | apply below_drew1 | refine below_set ?_ (IsS73.ge HI0.out)) | exact HB.out)) hb); clear HI0; clear HK; clear HB; have HO202 := n0_; have HI0 := n1_; have HK := n2_; have HB := n3_; clear n0_ n1_ n2_ n3_; clear hb ho10) | ((with_reducible refine gate_callee (f := 56) rfl ?_); refine goesL_ (some 12) rfl rfl Try.func56 (by kernel_rfl) rfl #[.pointer (some ⟨g, 0, none⟩), .int .i64 6] rfl (by (try simp only [List.map_toArray, List.map_cons, List.map_nil]); first | done | rfl | (simp only [List.length_drop, List.length_take]; rfl)) ?_; (with_reducible refine (spec_l20Rd_pick.calls k g s0_0 t199 6 t203 t204 w0 _ ?side1 ?side2 A5.out).mono ?_); (case side1 => repeat (first | (with_reducible first | exact HI0.out | apply IsS73.alloc | apply IsS73.drewN | apply IsS73.drew | apply IsS73.set_1) | exact HI0.out)); (case side2 => repeat (first | (with_reducible first | exact HB.out | apply below_alloc | apply pw_below_drewN | apply below_drew1 | refine below_set ?_ (IsS73.ge HI0.out)) | exact HB.out)); rintro e w11 ⟨rfl, hi, hb, hk⟩; refine ⟨_, rfl, ?_⟩; have n0_ := Aside0.mk (Kd.R_mono (Kd.R_keep (IsS73.apart (show IsS73 w0 _ g s0_0 t199 from by repeat (first | (with_reducible first | exact HI0.out | apply IsS73.alloc | apply IsS73.drewN | apply IsS73.drew | apply IsS73.set_1) | exact HI0.out)) (by (with_reducible repeat (first | apply Kd.R_alloc | apply Kd.R_drewN | apply Kd.R_drew)); exact HO202.out) (by decide)) hk (fun _ h => h.2)) (fun _ h => h.1)); have n1_ := Aside0.mk (KeepBut.trans (by repeat (first | (with_reducible first | exact HK.out | apply KeepBut.set_ | apply keep_drewN | apply keep_drew | apply keep_alloc) | exact HK.out)) hk (.inl rfl)); have n2_ := Aside0.mk (hb); have n3_ := Aside0.mk (hi); clear HO202; clear HK; clear HB; clear HI0; have HO202 := n0_; have HK := n1_; have HB := n2_; have HI0 := n3_; clear n0_ n1_ n2_ n3_; (try clear hb); (try clear hb2); (try clear hk); (try clear hi); obtain ⟨Ao12, co12, eo12⟩ := Kd.R_slice HO202.out; subst eo12; have p205 : 0 ≤ (t203 : Int) := of_decide_eq_true (by first | (with_reducible assumption) | assumption); have q205 : t203 < (y200.length : Int) := of_decide_eq_true (by first | (with_reducible assumption) | assumption); obtain ⟨ad205, e205, hx205_0⟩ := Kd.at_string (Kd.R_reads' HO202.out).2.2 t203 p205 q205; cases e205; replace p205 := eq_true p205; replace q205 := eq_true q205))
        go_ret
        exact ⟨by first | rfl | (simp only [u8_w_, w64_u8_]; done) | (simp only [u8_w_, w64_u8_]; rfl) | (simp [errW_none, errW_some] <;> rfl) | (simp [*, errW_none, errW_some] <;> rfl), by repeat (first | (with_reducible first | exact HI0.out | apply IsS73.alloc | apply IsS73.drewN | apply IsS73.drew | apply IsS73.set_1) | exact HI0.out), by repeat (first | (with_reducible first | exact HB.out | apply below_alloc | apply pw_below_drewN | apply below_drew1 | refine below_set ?_ (IsS73.ge HI0.out)) | exact HB.out), by repeat (first | (with_reducible first | exact HK.out | apply KeepBut.set_ | apply keep_drewN | apply keep_drew | apply keep_alloc) | exact HK.out)⟩
      · rw [if_neg c7] at H
        exact absurd H (by simp)
    · rw [if_neg c6] at H
      exact absurd H (by simp)
  · replace c4 := Bool.eq_false_iff.mpr c4
    subst c4
    have H1 : ((spec_l20Rd_pick.f k s0_0 t199 12).bind fun bt206 => (if bt206.1 = 11 then ((some (([(⟨#[122, 122, 122, 122]⟩ : ByteArray), (⟨#[122, 122, 122]⟩ : ByteArray), (⟨#[97, 122, 122, 122]⟩ : ByteArray), (⟨#[122]⟩ : ByteArray), (⟨#[97, 97, 97, 97]⟩ : ByteArray)] : List ByteArray) : List ByteArray)).bind fun y208 => ((spec_l20Rd_pick.f k s0_0 bt206.2 5).bind fun bt211 => (if 0 ≤ bt211.1 then (if bt211.1 < (y208.length : Int) then (some (rdOf ByteArray.empty y208 bt211.1, bt211.2)) else (none)) else (none)))) else ((spec_l20Rd_pick.f k s0_0 bt206.2 2).bind fun bt214 => (spec_l20Key.l0 k (⟨#[]⟩ : ByteArray) (wrap64 (1 + bt214.1)) s0_0 bt214.2)))) = some (r1, r2) := by rw [if_neg (show ¬ (false = true) by decide)] at H; exact H
    clear H
    have H := H1
    clear H1
    replace H := Option.bind_eq_some_iff.mp H
    obtain ⟨⟨t206, t207⟩, A130, H⟩ := H
    replace H : (if t206 = 11 then ((some (([(⟨#[122, 122, 122, 122]⟩ : ByteArray), (⟨#[122, 122, 122]⟩ : ByteArray), (⟨#[97, 122, 122, 122]⟩ : ByteArray), (⟨#[122]⟩ : ByteArray), (⟨#[97, 97, 97, 97]⟩ : ByteArray)] : List ByteArray) : List ByteArray)).bind fun y208 => ((spec_l20Rd_pick.f k s0_0 t207 5).bind fun bt211 => (if 0 ≤ bt211.1 then (if bt211.1 < (y208.length : Int) then (some (rdOf ByteArray.empty y208 bt211.1, bt211.2)) else (none)) else (none)))) else ((spec_l20Rd_pick.f k s0_0 t207 2).bind fun bt214 => (spec_l20Key.l0 k (⟨#[]⟩ : ByteArray) (wrap64 (1 + bt214.1)) s0_0 bt214.2))) = some (r1, r2) := H
    have A13 := Aside0.mk A130
    clear A130
    by_cases c14 : t206 = 11
    · rw [if_pos c14] at H
      have c14b0 : (t206 == 11) = true := beq_iff_eq.mpr c14
      have c14b1 : (t206 != 11) = false := bne_eq_false_iff_eq.mpr c14
      clear c14
      obtain ⟨y208, hy208⟩ : ∃ y_ : List ByteArray, y_ = (([(⟨#[122, 122, 122, 122]⟩ : ByteArray), (⟨#[122, 122, 122]⟩ : ByteArray), (⟨#[97, 122, 122, 122]⟩ : ByteArray), (⟨#[122]⟩ : ByteArray), (⟨#[97, 97, 97, 97]⟩ : ByteArray)] : List ByteArray)) := ⟨_, rfl⟩
      replace H : ((spec_l20Rd_pick.f k s0_0 t207 5).bind fun bt211 => (if 0 ≤ bt211.1 then (if bt211.1 < (y208.length : Int) then (some (rdOf ByteArray.empty y208 bt211.1, bt211.2)) else (none)) else (none))) = some (r1, r2) := by first | (rw [hy208]; with_reducible exact H) | (have H2_ := (Option.bind_some _ _).symm.trans H; rw [hy208]; with_reducible exact H2_) | (have H2_ := (Option.bind_some _ _).symm.trans H; with_reducible exact H2_) | with_reducible exact H | (rw [hy208]; exact H) | exact H
      have Ny208 := Aside0.mk hy208
      clear hy208
      replace H := Option.bind_eq_some_iff.mp H
      obtain ⟨⟨t211, t212⟩, A150, H⟩ := H
      replace H : (if 0 ≤ t211 then (if t211 < (y208.length : Int) then (some (rdOf ByteArray.empty y208 t211, t212)) else (none)) else (none)) = some (r1, r2) := H
      have A15 := Aside0.mk A150
      clear A150
      by_cases c16 : 0 ≤ t211
      · rw [if_pos c16] at H
        have c16b0 : decide (0 ≤ t211) = true := decide_eq_true c16
        clear c16
        by_cases c17 : t211 < (y208.length : Int)
        · rw [if_pos c17] at H
          have c17b0 : decide (t211 < (y208.length : Int)) = true := decide_eq_true c17
          clear c17
          simp only [Option.some.injEq, Prod.mk.injEq] at H
          obtain ⟨rfl, rfl⟩ := H
          go_enter Try.func62, Try.ntmps62
          go_wp2_with (first | ((with_reducible refine gate_callee (f := 64) rfl ?_); refine goesL_ (some 9) rfl rfl Try.func64 (by kernel_rfl) rfl #[.pointer (some ⟨g, 0, none⟩), .int .i64 a1] rfl (by (try simp only [List.map_toArray, List.map_cons, List.map_nil]); first | done | rfl | (simp only [List.length_drop, List.length_take]; rfl)) ?_; (with_reducible refine (spec_l20Rd_odd.calls k g s0_0 s0_1 a1 false t199 w0 _ ?side1 ?side2 A3.out).mono ?_); (case side1 => repeat (first | (with_reducible first | exact HI0.out | apply IsS73.alloc | apply IsS73.drewN | apply IsS73.drew | apply IsS73.set_1) | exact HI0.out)); (case side2 => repeat (first | (with_reducible first | exact HB.out | apply below_alloc | apply pw_below_drewN | apply below_drew1 | refine below_set ?_ (IsS73.ge HI0.out)) | exact HB.out)); rintro e w18 ⟨rfl, hi, hb, hk⟩; refine ⟨_, rfl, ?_⟩; have n0_ := Aside0.mk (KeepBut.trans (by repeat (first | (with_reducible first | exact HK.out | apply KeepBut.set_ | apply keep_drewN | apply keep_drew | apply keep_alloc) | exact HK.out)) hk (.inl rfl)); have n1_ := Aside0.mk (hb); have n2_ := Aside0.mk (hi); clear HK; clear HB; clear HI0; have HK := n0_; have HB := n1_; have HI0 := n2_; clear n0_ n1_ n2_; (try clear hb); (try clear hb2); (try clear hk); (try clear hi)) | ((with_reducible refine gate_callee (f := 56) rfl ?_); refine goesL_ (some 16) rfl rfl Try.func56 (by kernel_rfl) rfl #[.pointer (some ⟨g, 0, none⟩), .int .i64 12] rfl (by (try simp only [List.map_toArray, List.map_cons, List.map_nil]); first | done | rfl | (simp only [List.length_drop, List.length_take]; rfl)) ?_; (with_reducible refine (spec_l20Rd_pick.calls k g s0_0 t199 12 t206 t207 w0 _ ?side1 ?side2 A13.out).mono ?_); (case side1 => repeat (first | (with_reducible first | exact HI0.out | apply IsS73.alloc | apply IsS73.drewN | apply IsS73.drew | apply IsS73.set_1) | exact HI0.out)); (case side2 => repeat (first | (with_reducible first | exact HB.out | apply below_alloc | apply pw_below_drewN | apply below_drew1 | refine below_set ?_ (IsS73.ge HI0.out)) | exact HB.out)); rintro e w19 ⟨rfl, hi, hb, hk⟩; refine ⟨_, rfl, ?_⟩; have n0_ := Aside0.mk (KeepBut.trans (by repeat (first | (with_reducible first | exact HK.out | apply KeepBut.set_ | apply keep_drewN | apply keep_drew | apply keep_alloc) | exact HK.out)) hk (.inl rfl)); have n1_ := Aside0.mk (hb); have n2_ := Aside0.mk (hi); clear HK; clear HB; clear HI0; have HK := n0_; have HB := n1_; have HI0 := n2_; clear n0_ n1_ n2_; (try clear hb); (try clear hb2); (try clear hk); (try clear hi)) | ((with_reducible refine gate_dst (N := 18) rfl ?_); refine Kd.R_lit Kd.string _ 9 ?hg (N := 18) ?hd (xs := ([(⟨#[122, 122, 122, 122]⟩ : ByteArray), (⟨#[122, 122, 122]⟩ : ByteArray), (⟨#[97, 122, 122, 122]⟩ : ByteArray), (⟨#[122]⟩ : ByteArray), (⟨#[97, 97, 97, 97]⟩ : ByteArray)] : List ByteArray)) (inner := [.string (⟨#[122, 122, 122, 122]⟩ : ByteArray), .string (⟨#[122, 122, 122]⟩ : ByteArray), .string (⟨#[97, 122, 122, 122]⟩ : ByteArray), .string (⟨#[122]⟩ : ByteArray), .string (⟨#[97, 97, 97, 97]⟩ : ByteArray)]) (ok := fun _ => True) (okp := fun _ => True) ?hr ?hp (fun _ hk => hk) trivial (Below.refl _ _) (Nat.le_refl _) (by simp) ?_; (case hd => rfl); (case hg => rfl); (case hr => first | (go_simp; done) | (go_simp; rfl)); (case hp => exact (Reps.one (show Kd.M Kd.string _ _ _ (⟨#[122, 122, 122, 122]⟩ : ByteArray) [.string (⟨#[122, 122, 122, 122]⟩ : ByteArray)] from rfl) (Reps.one (show Kd.M Kd.string _ _ _ (⟨#[122, 122, 122]⟩ : ByteArray) [.string (⟨#[122, 122, 122]⟩ : ByteArray)] from rfl) (Reps.one (show Kd.M Kd.string _ _ _ (⟨#[97, 122, 122, 122]⟩ : ByteArray) [.string (⟨#[97, 122, 122, 122]⟩ : ByteArray)] from rfl) (Reps.one (show Kd.M Kd.string _ _ _ (⟨#[122]⟩ : ByteArray) [.string (⟨#[122]⟩ : ByteArray)] from rfl) (Reps.one (show Kd.M Kd.string _ _ _ (⟨#[97, 97, 97, 97]⟩ : ByteArray) [.string (⟨#[97, 97, 97, 97]⟩ : ByteArray)] from rfl) (Reps.none _ _))))))); intro v209 w20 ho21 hb hg_ hnew_; clear hg_ hnew_; (first | rw [← Ny208.out] at ho21 | (simp only [Int.reduceToNat] at ho21; rw [← Ny208.out] at ho21)); have n0_ := Aside0.mk (Kd.R_lower ho21 (keep_size (w := w) (g := g) (row := none) (by repeat (first | (with_reducible first | exact HK.out | apply KeepBut.set_ | apply keep_drewN | apply keep_drew | apply keep_alloc) | exact HK.out)))); have n1_ := Aside0.mk (IsS73.below (by repeat (first | (with_reducible first | exact HI0.out | apply IsS73.alloc | apply IsS73.drewN | apply IsS73.drew | apply IsS73.set_1) | exact HI0.out)) hb); have n2_ := Aside0.mk (KeepBut.trans (by repeat (first | (with_reducible first | exact HK.out | apply KeepBut.set_ | apply keep_drewN | apply keep_drew | apply keep_alloc) | exact HK.out)) (KeepBut.of_below hb g none) (.inl rfl)); have n3_ := Aside0.mk (below_step (by repeat (first | (with_reducible first | exact HB.out | apply below_alloc | apply pw_below_drewN | apply below_drew1 | refine below_set ?_ (IsS73.ge HI0.out)) | exact HB.out)) hb); clear HI0; clear HK; clear HB; have HO210 := n0_; have HI0 := n1_; have HK := n2_; have HB := n3_; clear n0_ n1_ n2_ n3_; clear hb ho21) | ((with_reducible refine gate_callee (f := 56) rfl ?_); refine goesL_ (some 20) rfl rfl Try.func56 (by kernel_rfl) rfl #[.pointer (some ⟨g, 0, none⟩), .int .i64 5] rfl (by (try simp only [List.map_toArray, List.map_cons, List.map_nil]); first | done | rfl | (simp only [List.length_drop, List.length_take]; rfl)) ?_; (with_reducible refine (spec_l20Rd_pick.calls k g s0_0 t207 5 t211 t212 w0 _ ?side1 ?side2 A15.out).mono ?_); (case side1 => repeat (first | (with_reducible first | exact HI0.out | apply IsS73.alloc | apply IsS73.drewN | apply IsS73.drew | apply IsS73.set_1) | exact HI0.out)); (case side2 => repeat (first | (with_reducible first | exact HB.out | apply below_alloc | apply pw_below_drewN | apply below_drew1 | refine below_set ?_ (IsS73.ge HI0.out)) | exact HB.out)); rintro e w22 ⟨rfl, hi, hb, hk⟩; refine ⟨_, rfl, ?_⟩; have n0_ := Aside0.mk (Kd.R_mono (Kd.R_keep (IsS73.apart (show IsS73 w0 _ g s0_0 t207 from by repeat (first | (with_reducible first | exact HI0.out | apply IsS73.alloc | apply IsS73.drewN | apply IsS73.drew | apply IsS73.set_1) | exact HI0.out)) (by (with_reducible repeat (first | apply Kd.R_alloc | apply Kd.R_drewN | apply Kd.R_drew)); exact HO210.out) (by decide)) hk (fun _ h => h.2)) (fun _ h => h.1)); have n1_ := Aside0.mk (KeepBut.trans (by repeat (first | (with_reducible first | exact HK.out | apply KeepBut.set_ | apply keep_drewN | apply keep_drew | apply keep_alloc) | exact HK.out)) hk (.inl rfl)); have n2_ := Aside0.mk (hb); have n3_ := Aside0.mk (hi); clear HO210; clear HK; clear HB; clear HI0; have HO210 := n0_; have HK := n1_; have HB := n2_; have HI0 := n3_; clear n0_ n1_ n2_ n3_; (try clear hb); (try clear hb2); (try clear hk); (try clear hi); obtain ⟨Ao23, co23, eo23⟩ := Kd.R_slice HO210.out; subst eo23; have p213 : 0 ≤ (t211 : Int) := of_decide_eq_true (by first | (with_reducible assumption) | assumption); have q213 : t211 < (y208.length : Int) := of_decide_eq_true (by first | (with_reducible assumption) | assumption); obtain ⟨ad213, e213, hx213_0⟩ := Kd.at_string (Kd.R_reads' HO210.out).2.2 t211 p213 q213; cases e213; replace p213 := eq_true p213; replace q213 := eq_true q213))
          go_ret
          exact ⟨by first | rfl | (simp only [u8_w_, w64_u8_]; done) | (simp only [u8_w_, w64_u8_]; rfl) | (simp [errW_none, errW_some] <;> rfl) | (simp [*, errW_none, errW_some] <;> rfl), by repeat (first | (with_reducible first | exact HI0.out | apply IsS73.alloc | apply IsS73.drewN | apply IsS73.drew | apply IsS73.set_1) | exact HI0.out), by repeat (first | (with_reducible first | exact HB.out | apply below_alloc | apply pw_below_drewN | apply below_drew1 | refine below_set ?_ (IsS73.ge HI0.out)) | exact HB.out), by repeat (first | (with_reducible first | exact HK.out | apply KeepBut.set_ | apply keep_drewN | apply keep_drew | apply keep_alloc) | exact HK.out)⟩
        · rw [if_neg c17] at H
          exact absurd H (by simp)
      · rw [if_neg c16] at H
        exact absurd H (by simp)
    · rw [if_neg c14] at H
      have c14b0 : (t206 == 11) = false := beq_eq_false_iff_ne.mpr c14
      have c14b1 : (t206 != 11) = true := bne_iff_ne.mpr c14
      replace H := Option.bind_eq_some_iff.mp H
      obtain ⟨⟨t214, t215⟩, A240, H⟩ := H
      replace H : (spec_l20Key.l0 k (⟨#[]⟩ : ByteArray) (wrap64 (1 + t214)) s0_0 t215) = some (r1, r2) := H
      have A24 := Aside0.mk A240
      clear A240
      have H' := Aside0.mk H
      clear H
      go_enter Try.func62, Try.ntmps62
      go_wp2_with (first | ((with_reducible refine gate_callee (f := 64) rfl ?_); refine goesL_ (some 9) rfl rfl Try.func64 (by kernel_rfl) rfl #[.pointer (some ⟨g, 0, none⟩), .int .i64 a1] rfl (by (try simp only [List.map_toArray, List.map_cons, List.map_nil]); first | done | rfl | (simp only [List.length_drop, List.length_take]; rfl)) ?_; (with_reducible refine (spec_l20Rd_odd.calls k g s0_0 s0_1 a1 false t199 w0 _ ?side1 ?side2 A3.out).mono ?_); (case side1 => repeat (first | (with_reducible first | exact HI0.out | apply IsS73.alloc | apply IsS73.drewN | apply IsS73.drew | apply IsS73.set_1) | exact HI0.out)); (case side2 => repeat (first | (with_reducible first | exact HB.out | apply below_alloc | apply pw_below_drewN | apply below_drew1 | refine below_set ?_ (IsS73.ge HI0.out)) | exact HB.out)); rintro e w25 ⟨rfl, hi, hb, hk⟩; refine ⟨_, rfl, ?_⟩; have n0_ := Aside0.mk (KeepBut.trans (by repeat (first | (with_reducible first | exact HK.out | apply KeepBut.set_ | apply keep_drewN | apply keep_drew | apply keep_alloc) | exact HK.out)) hk (.inl rfl)); have n1_ := Aside0.mk (hb); have n2_ := Aside0.mk (hi); clear HK; clear HB; clear HI0; have HK := n0_; have HB := n1_; have HI0 := n2_; clear n0_ n1_ n2_; (try clear hb); (try clear hb2); (try clear hk); (try clear hi)) | ((with_reducible refine gate_callee (f := 56) rfl ?_); refine goesL_ (some 16) rfl rfl Try.func56 (by kernel_rfl) rfl #[.pointer (some ⟨g, 0, none⟩), .int .i64 12] rfl (by (try simp only [List.map_toArray, List.map_cons, List.map_nil]); first | done | rfl | (simp only [List.length_drop, List.length_take]; rfl)) ?_; (with_reducible refine (spec_l20Rd_pick.calls k g s0_0 t199 12 t206 t207 w0 _ ?side1 ?side2 A13.out).mono ?_); (case side1 => repeat (first | (with_reducible first | exact HI0.out | apply IsS73.alloc | apply IsS73.drewN | apply IsS73.drew | apply IsS73.set_1) | exact HI0.out)); (case side2 => repeat (first | (with_reducible first | exact HB.out | apply below_alloc | apply pw_below_drewN | apply below_drew1 | refine below_set ?_ (IsS73.ge HI0.out)) | exact HB.out)); rintro e w26 ⟨rfl, hi, hb, hk⟩; refine ⟨_, rfl, ?_⟩; have n0_ := Aside0.mk (KeepBut.trans (by repeat (first | (with_reducible first | exact HK.out | apply KeepBut.set_ | apply keep_drewN | apply keep_drew | apply keep_alloc) | exact HK.out)) hk (.inl rfl)); have n1_ := Aside0.mk (hb); have n2_ := Aside0.mk (hi); clear HK; clear HB; clear HI0; have HK := n0_; have HB := n1_; have HI0 := n2_; clear n0_ n1_ n2_; (try clear hb); (try clear hb2); (try clear hk); (try clear hi)) | ((with_reducible refine gate_callee (f := 56) rfl ?_); refine goesL_ (some 24) rfl rfl Try.func56 (by kernel_rfl) rfl #[.pointer (some ⟨g, 0, none⟩), .int .i64 2] rfl (by (try simp only [List.map_toArray, List.map_cons, List.map_nil]); first | done | rfl | (simp only [List.length_drop, List.length_take]; rfl)) ?_; (with_reducible refine (spec_l20Rd_pick.calls k g s0_0 t207 2 t214 t215 w0 _ ?side1 ?side2 A24.out).mono ?_); (case side1 => repeat (first | (with_reducible first | exact HI0.out | apply IsS73.alloc | apply IsS73.drewN | apply IsS73.drew | apply IsS73.set_1) | exact HI0.out)); (case side2 => repeat (first | (with_reducible first | exact HB.out | apply below_alloc | apply pw_below_drewN | apply below_drew1 | refine below_set ?_ (IsS73.ge HI0.out)) | exact HB.out)); rintro e w27 ⟨rfl, hi, hb, hk⟩; refine ⟨_, rfl, ?_⟩; have n0_ := Aside0.mk (KeepBut.trans (by repeat (first | (with_reducible first | exact HK.out | apply KeepBut.set_ | apply keep_drewN | apply keep_drew | apply keep_alloc) | exact HK.out)) hk (.inl rfl)); have n1_ := Aside0.mk (hb); have n2_ := Aside0.mk (hi); clear HK; clear HB; clear HI0; have HK := n0_; have HB := n1_; have HI0 := n2_; clear n0_ n1_ n2_; (try clear hb); (try clear hb2); (try clear hk); (try clear hi)))
      go_loopg [5, 6] k (fun kq v5 v6 w' => ∃ (x5_1 : ByteArray) (x6_1 : Int) (x1001_1 : Int), v5 = .string x5_1 ∧ v6 = .int .i64 x6_1 ∧ Aside0 (spec_l20Key.l0 kq x5_1 x6_1 s0_0 x1001_1 = some (r1, r2)) ∧ Aside0 (kq ≤ k) ∧ Aside0 (IsS73 w0 w' g s0_0 x1001_1) ∧ Aside0 (KeepBut w w' g none) ∧ Aside0 (Below w0.heap.size w0 w'))
      case atStart => exact ⟨((⟨#[]⟩ : ByteArray)), (wrap64 (1 + t214)), (t215), (by first | rfl | (simp; done) | (simp [bne]; done) | (simp [*]; done)), (by first | rfl | (simp; done) | (simp [bne]; done) | (simp [*]; done)), H', ⟨Nat.le_refl _⟩, ⟨by repeat (first | (with_reducible first | exact HI0.out | apply IsS73.alloc | apply IsS73.drewN | apply IsS73.drew | apply IsS73.set_1) | exact HI0.out)⟩, ⟨by repeat (first | (with_reducible first | exact HK.out | apply KeepBut.set_ | apply keep_drewN | apply keep_drew | apply keep_alloc) | exact HK.out)⟩, ⟨by repeat (first | (with_reducible first | exact HB.out | apply below_alloc | apply pw_below_drewN | apply below_drew1 | refine below_set ?_ (IsS73.ge HI0.out)) | exact HB.out)⟩⟩
      case round =>
        clear H'
        try clear c1
        try clear p2
        try clear q2
        try clear hx2
        try clear c4
        try clear c5
        try clear c6
        try clear c6b0
        try clear p6
        try clear c7
        try clear c7b0
        try clear c14
        try clear c14b0
        try clear c14b1
        try clear c16
        try clear c16b0
        try clear c17
        try clear c17b0
        try clear p20
        try clear q20
        try clear hx20
        try clear p21
        try clear q21
        try clear hx21
        try clear hx205_0
        try clear hx213_0
        try clear p205
        try clear p213
        try clear q205
        try clear q213
        obtain ⟨x5_1, x6_1, x1001_1, rfl, rfl, HA, HK1, HI0, HK, HB⟩ := hrel
        cases gk with
        | zero => exact absurd HA.out (by simp [spec_l20Key.l0])
        | succ k1 =>
          have H := HA.out
          clear HA
          simp only [spec_l20Key.l0] at H
          by_cases c28 : x6_1 > 0
          · rw [if_pos c28] at H
            have c28b0 : decide (0 < x6_1) = true := decide_eq_true c28
            clear c28
            replace H := Option.bind_eq_some_iff.mp H
            obtain ⟨⟨t216, t217⟩, A290, H⟩ := H
            replace H : ((some (([(wrap64 (97 + t216)) % 256] : List Int) : List Int)).bind fun y218 => (if x5_1.size + (strOfNums y218).size ≤ 9223372036854775807 then (spec_l20Key.l0 k1 (x5_1 ++ (strOfNums y218)) (wrap64 (x6_1 - 1)) s0_0 t217) else (none))) = some (r1, r2) := H
            have A29 := Aside0.mk A290
            clear A290
            obtain ⟨y218, hy218⟩ : ∃ y_ : List Int, y_ = (([(wrap64 (97 + t216)) % 256] : List Int)) := ⟨_, rfl⟩
            replace H : (if x5_1.size + (strOfNums y218).size ≤ 9223372036854775807 then (spec_l20Key.l0 k1 (x5_1 ++ (strOfNums y218)) (wrap64 (x6_1 - 1)) s0_0 t217) else (none)) = some (r1, r2) := by first | (rw [hy218]; with_reducible exact H) | (have H2_ := (Option.bind_some _ _).symm.trans H; rw [hy218]; with_reducible exact H2_) | (have H2_ := (Option.bind_some _ _).symm.trans H; with_reducible exact H2_) | with_reducible exact H | (rw [hy218]; exact H) | exact H
            have Ny218 := Aside0.mk hy218
            clear hy218
            by_cases c30 : x5_1.size + (strOfNums y218).size ≤ 9223372036854775807
            · rw [if_pos c30] at H
              have c30b0 := eq_true c30
              have c30b1 : decide (x5_1.size + (strOfNums y218).size ≤ 9223372036854775807) = true := decide_eq_true c30
              try have c30b2 : (9223372036854775807 < x5_1.size + (strOfNums y218).size) = False := eq_false (Nat.not_lt.2 c30)
              have H' := Aside0.mk H
              clear H
              go_wp2_with (first | ((with_reducible refine gate_callee (f := 56) rfl ?_); refine goesL_ (some 32) rfl rfl Try.func56 (by kernel_rfl) rfl #[.pointer (some ⟨g, 0, none⟩), .int .i64 4] rfl (by (try simp only [List.map_toArray, List.map_cons, List.map_nil]); first | done | rfl | (simp only [List.length_drop, List.length_take]; rfl)) ?_; (with_reducible refine (spec_l20Rd_pick.calls k1 g s0_0 x1001_1 4 t216 t217 w0 _ ?side1 ?side2 A29.out).mono ?_); (case side1 => repeat (first | (with_reducible first | exact HI0.out | apply IsS73.alloc | apply IsS73.drewN | apply IsS73.drew | apply IsS73.set_1) | exact HI0.out)); (case side2 => repeat (first | (with_reducible first | exact HB.out | apply below_alloc | apply pw_below_drewN | apply below_drew1 | refine below_set ?_ (IsS73.ge HI0.out)) | exact HB.out)); rintro e w31 ⟨rfl, hi, hb, hk⟩; refine ⟨_, rfl, ?_⟩; have n0_ := Aside0.mk (KeepBut.trans (by repeat (first | (with_reducible first | exact HK.out | apply KeepBut.set_ | apply keep_drewN | apply keep_drew | apply keep_alloc) | exact HK.out)) hk (.inl rfl)); have n1_ := Aside0.mk (hb); have n2_ := Aside0.mk (hi); clear HK; clear HB; clear HI0; have HK := n0_; have HB := n1_; have HI0 := n2_; clear n0_ n1_ n2_; (try clear hb); (try clear hb2); (try clear hk); (try clear hi)) | ((with_reducible refine gate_dst (N := 35) rfl ?_); refine Kd.R_lit (Kd.int .u8) _ 5 ?hg (N := 35) ?hd (xs := ([(wrap64 (97 + t216)) % 256] : List Int)) (inner := [.int .u8 ((wrap64 (97 + t216)) % 256)]) (ok := fun _ => True) (okp := fun _ => True) ?hr ?hp (fun _ hk => hk) trivial (Below.refl _ _) (Nat.le_refl _) (by simp) ?_; (case hd => rfl); (case hg => rfl); (case hr => first | (go_simp; done) | (go_simp; rfl)); (case hp => exact (Reps.one (show Kd.M (Kd.int .u8) _ _ _ ((wrap64 (97 + t216)) % 256) [.int .u8 ((wrap64 (97 + t216)) % 256)] from rfl) (Reps.none _ _))); intro v219 w32 ho33 hb hg_ hnew_; clear hg_ hnew_; (first | rw [← Ny218.out] at ho33 | (simp only [Int.reduceToNat] at ho33; rw [← Ny218.out] at ho33)); have n0_ := Aside0.mk (Kd.R_lower ho33 (keep_size (w := w) (g := g) (row := none) (by repeat (first | (with_reducible first | exact HK.out | apply KeepBut.set_ | apply keep_drewN | apply keep_drew | apply keep_alloc) | exact HK.out)))); have n1_ := Aside0.mk (IsS73.below (by repeat (first | (with_reducible first | exact HI0.out | apply IsS73.alloc | apply IsS73.drewN | apply IsS73.drew | apply IsS73.set_1) | exact HI0.out)) hb); have n2_ := Aside0.mk (KeepBut.trans (by repeat (first | (with_reducible first | exact HK.out | apply KeepBut.set_ | apply keep_drewN | apply keep_drew | apply keep_alloc) | exact HK.out)) (KeepBut.of_below hb g none) (.inl rfl)); have n3_ := Aside0.mk (below_step (by repeat (first | (with_reducible first | exact HB.out | apply below_alloc | apply pw_below_drewN | apply below_drew1 | refine below_set ?_ (IsS73.ge HI0.out)) | exact HB.out)) hb); clear HI0; clear HK; clear HB; have HO220 := n0_; have HI0 := n1_; have HK := n2_; have HB := n3_; clear n0_ n1_ n2_ n3_; clear hb ho33; have hcv34 := own_string (P := Try.prog) Try.underlying22 Try.underlying5 Try.underlying9 (Kd.own_of_R HO220.out)))
              go_roundg k1
              case measure => have := HK1.out; omega
              case rel => exact ⟨(x5_1 ++ (strOfNums y218)), (wrap64 (x6_1 - 1)), (t217), (by first | rfl | (simp; done) | (simp [bne]; done) | (simp [*]; done)), (by first | rfl | (simp; done) | (simp [bne]; done) | (simp [*]; done)), H', ⟨by have := HK1.out; omega⟩, ⟨by repeat (first | (with_reducible first | exact HI0.out | apply IsS73.alloc | apply IsS73.drewN | apply IsS73.drew | apply IsS73.set_1) | exact HI0.out)⟩, ⟨by repeat (first | (with_reducible first | exact HK.out | apply KeepBut.set_ | apply keep_drewN | apply keep_drew | apply keep_alloc) | exact HK.out)⟩, ⟨by repeat (first | (with_reducible first | exact HB.out | apply below_alloc | apply pw_below_drewN | apply below_drew1 | refine below_set ?_ (IsS73.ge HI0.out)) | exact HB.out)⟩⟩
            · rw [if_neg c30] at H
              exact absurd H (by simp)
          · rw [if_neg c28] at H
            have c28b0 : decide (0 < x6_1) = false := decide_eq_false c28
            clear c28
            simp only [Option.some.injEq, Prod.mk.injEq] at H
            obtain ⟨rfl, rfl⟩ := H
            go_wp2
            go_ret
            exact ⟨by first | rfl | (simp only [u8_w_, w64_u8_]; done) | (simp only [u8_w_, w64_u8_]; rfl) | (simp [errW_none, errW_some] <;> rfl) | (simp [*, errW_none, errW_some] <;> rfl), by repeat (first | (with_reducible first | exact HI0.out | apply IsS73.alloc | apply IsS73.drewN | apply IsS73.drew | apply IsS73.set_1) | exact HI0.out), by repeat (first | (with_reducible first | exact HB.out | apply below_alloc | apply pw_below_drewN | apply below_drew1 | refine below_set ?_ (IsS73.ge HI0.out)) | exact HB.out), by repeat (first | (with_reducible first | exact HK.out | apply KeepBut.set_ | apply keep_drewN | apply keep_drew | apply keep_alloc) | exact HK.out)⟩

/-! ### spec_l1Weight: function 71 -/
def spec_l1Weight.f (a0 : Int) : Option (Int) := if a0 = 0 then (some 18279) else (if a0 = 1 then (some 703) else (if a0 = 2 then (some 27) else (some 1)))
set_option maxHeartbeats 8000000 in
set_option maxRecDepth 100000 in
theorem spec_l1Weight.calls (a0 : Int) (r : Int) (w : World) (h : spec_l1Weight.f a0 = some r) :
    Calls Try.prog 71 #[.int .i64 a0] w fun e w' => e = .returned (.int .i64 r) ∧ Drawn0 w w' := by
  have H : (if a0 = 0 then (some 18279) else (if a0 = 1 then (some 703) else (if a0 = 2 then (some 27) else (some 1)))) = some r := h
  clear h
  by_cases c2 : a0 = 0
  · rw [if_pos c2] at H
    have c2b0 : (a0 == 0) = true := beq_iff_eq.mpr c2
    have c2b1 : (a0 != 0) = false := bne_eq_false_iff_eq.mpr c2
    clear c2
    obtain rfl := Option.some.inj H
    go_enter Try.func71, Try.ntmps71
    go_wp2
    go_ret
    exact ⟨by first | rfl | (simp; done) | (simp [*]; done), by repeat (first | exact Drawn0.refl _ | apply Drawn0.step)⟩
  · rw [if_neg c2] at H
    have c2b0 : (a0 == 0) = false := beq_eq_false_iff_ne.mpr c2
    have c2b1 : (a0 != 0) = true := bne_iff_ne.mpr c2
    by_cases c3 : a0 = 1
    · rw [if_pos c3] at H
      have c3b0 : (a0 == 1) = true := beq_iff_eq.mpr c3
      have c3b1 : (a0 != 1) = false := bne_eq_false_iff_eq.mpr c3
      clear c3
      obtain rfl := Option.some.inj H
      go_enter Try.func71, Try.ntmps71
      go_wp2
      go_ret
      exact ⟨by first | rfl | (simp; done) | (simp [*]; done), by repeat (first | exact Drawn0.refl _ | apply Drawn0.step)⟩
    · rw [if_neg c3] at H
      have c3b0 : (a0 == 1) = false := beq_eq_false_iff_ne.mpr c3
      have c3b1 : (a0 != 1) = true := bne_iff_ne.mpr c3
      by_cases c4 : a0 = 2
      · rw [if_pos c4] at H
        have c4b0 : (a0 == 2) = true := beq_iff_eq.mpr c4
        have c4b1 : (a0 != 2) = false := bne_eq_false_iff_eq.mpr c4
        clear c4
        obtain rfl := Option.some.inj H
        go_enter Try.func71, Try.ntmps71
        go_wp2
        go_ret
        exact ⟨by first | rfl | (simp; done) | (simp [*]; done), by repeat (first | exact Drawn0.refl _ | apply Drawn0.step)⟩
      · rw [if_neg c4] at H
        have c4b0 : (a0 == 2) = false := beq_eq_false_iff_ne.mpr c4
        have c4b1 : (a0 != 2) = true := bne_iff_ne.mpr c4
        obtain rfl := Option.some.inj H
        go_enter Try.func71, Try.ntmps71
        go_wp2
        go_ret
        exact ⟨by first | rfl | (simp; done) | (simp [*]; done), by repeat (first | exact Drawn0.refl _ | apply Drawn0.step)⟩

/-! ### spec_KeyAt: function 63 -/
def spec_KeyAt.l0 : Nat → Int → ByteArray → Int → Option (ByteArray)
  | 0, _, _, _ => none
  | k + 1, x0, x3, x4 => if x4 < 4 then ((spec_l1Weight.f x4).bind fun t222 => (if t222 = 0 then (none) else ((some (([(wrap64 (97 + (wrap64 (Int.tdiv x0 t222)))) % 256] : List Int) : List Int)).bind fun y223 => (if x3.size + (strOfNums y223).size ≤ 9223372036854775807 then ((spec_l1Weight.f x4).bind fun t226 => (if t226 = 0 then (none) else (if (Int.tmod x0 t226) = 0 then (some (x3 ++ (strOfNums y223))) else (spec_KeyAt.l0 k (wrap64 ((Int.tmod x0 t226) - 1)) (x3 ++ (strOfNums y223)) (wrap64 (x4 + 1)))))) else (none))))) else (some x3)
def spec_KeyAt.f (k : Nat) (a0 : Int) : Option (ByteArray) := (spec_l1In.f a0 0 475253).bind fun t221 => (if t221 = true then (spec_KeyAt.l0 k a0 (⟨#[]⟩ : ByteArray) 0) else (some (⟨#[]⟩ : ByteArray)))
theorem spec_KeyAt.mono_l : ∀ k, (∀ y0 y1 y2, LeO (spec_KeyAt.l0 k y0 y1 y2) (spec_KeyAt.l0 (k + 1) y0 y1 y2))
  | 0 => fun _ _ _ r h => by simp [spec_KeyAt.l0] at h
  | k + 1 => by
    have ih0 := spec_KeyAt.mono_l k
    · intro y0 y1 y2
      unfold spec_KeyAt.l0
      repeat' first
      | (with_reducible exact ih0 _ _ _)
      | (with_reducible exact LeO.refl _)
      | (with_reducible exact LeO.none _)
      | (with_reducible refine LeO.ite ?_ ?_)
      | (with_reducible refine LeO.bind ?_ (fun _ => ?_))
      | exact ih0 _ _ _
      | exact LeO.none _
      | refine LeO.ite ?_ ?_
      | refine LeO.bind ?_ (fun _ => ?_)
theorem spec_KeyAt.mono : ∀ a0 k, LeO (spec_KeyAt.f k a0) (spec_KeyAt.f (k + 1) a0) := by
  intro a0 k
  have ih0 := spec_KeyAt.mono_l k
  unfold spec_KeyAt.f
  repeat' first
      | (with_reducible exact ih0 _ _ _)
      | (with_reducible exact LeO.refl _)
      | (with_reducible exact LeO.none _)
      | (with_reducible refine LeO.ite ?_ ?_)
      | (with_reducible refine LeO.bind ?_ (fun _ => ?_))
      | exact ih0 _ _ _
      | exact LeO.none _
      | refine LeO.ite ?_ ?_
      | refine LeO.bind ?_ (fun _ => ?_)
set_option maxHeartbeats 8000000 in
set_option maxRecDepth 100000 in
theorem spec_KeyAt.calls (k : Nat) (a0 : Int) (r : ByteArray) (w : World) (h : spec_KeyAt.f k a0 = some r) :
    Calls Try.prog 63 #[.int .i64 a0] w fun e w' => e = .returned (.string r) ∧ Below w.heap.size w w' := by
  have HB := Aside0.mk (Below.refl w.heap.size w)
  have H : ((spec_l1In.f a0 0 475253).bind fun t221 => (if t221 = true then (spec_KeyAt.l0 k a0 (⟨#[]⟩ : ByteArray) 0) else (some (⟨#[]⟩ : ByteArray)))) = some r := h
  clear h
  replace H := Option.bind_eq_some_iff.mp H
  obtain ⟨t221, A20, H⟩ := H
  replace H : (if t221 = true then (spec_KeyAt.l0 k a0 (⟨#[]⟩ : ByteArray) 0) else (some (⟨#[]⟩ : ByteArray))) = some r := H
  have A2 := Aside0.mk A20
  clear A20
  by_cases c3 : t221 = true
  · subst c3
    have H1 : (spec_KeyAt.l0 k a0 (⟨#[]⟩ : ByteArray) 0) = some r := by rw [if_pos rfl] at H; exact H
    clear H
    have H := H1
    clear H1
    have H' := Aside0.mk H
    clear H
    go_enter Try.func63, Try.ntmps63
    go_wp2_with (first | ((with_reducible refine gate_callee (f := 47) rfl ?_); refine goesL_ (some 6) rfl rfl Try.func47 (by kernel_rfl) rfl #[.int .i64 a0, .int .i64 0, .int .i64 475253] rfl (by (try simp only [List.map_toArray, List.map_cons, List.map_nil]); first | done | rfl | (simp only [List.length_drop, List.length_take]; rfl)) ?_; (with_reducible refine (spec_l1In.calls a0 0 475253 true _ A2.out).mono ?_); rintro e w' ⟨rfl, ⟨nd, rfl⟩⟩; refine ⟨_, rfl, ?_⟩))
    go_loopg [0, 3, 4] k (fun kq v0 v3 v4 w' => ∃ (x0_1 : Int) (x3_1 : ByteArray) (x4_1 : Int), v0 = .int .i64 x0_1 ∧ v3 = .string x3_1 ∧ v4 = .int .i64 x4_1 ∧ Aside0 (spec_KeyAt.l0 kq x0_1 x3_1 x4_1 = some r) ∧ Aside0 (kq ≤ k) ∧ Aside0 (Below w.heap.size w w'))
    case atStart => exact ⟨(a0), ((⟨#[]⟩ : ByteArray)), (0), (by first | rfl | (simp; done) | (simp [bne]; done) | (simp [*]; done)), (by first | rfl | (simp; done) | (simp [bne]; done) | (simp [*]; done)), (by first | rfl | (simp; done) | (simp [bne]; done) | (simp [*]; done)), H', ⟨Nat.le_refl _⟩, ⟨by repeat (first | (with_reducible first | exact HB.out | apply below_alloc | apply pw_below_drewN | apply below_drew1) | exact HB.out)⟩⟩
    case round =>
      clear H'
      try clear p2
      try clear c3
      obtain ⟨x0_1, x3_1, x4_1, rfl, rfl, rfl, HA, HK1, HB⟩ := hrel
      cases gk with
      | zero => exact absurd HA.out (by simp [spec_KeyAt.l0])
      | succ k1 =>
        have H := HA.out
        clear HA
        simp only [spec_KeyAt.l0] at H
        by_cases c4 : x4_1 < 4
        · rw [if_pos c4] at H
          have c4b0 : decide (x4_1 < 4) = true := decide_eq_true c4
          clear c4
          replace H := Option.bind_eq_some_iff.mp H
          obtain ⟨t222, A50, H⟩ := H
          replace H : (if t222 = 0 then (none) else ((some (([(wrap64 (97 + (wrap64 (Int.tdiv x0_1 t222)))) % 256] : List Int) : List Int)).bind fun y223 => (if x3_1.size + (strOfNums y223).size ≤ 9223372036854775807 then ((spec_l1Weight.f x4_1).bind fun t226 => (if t226 = 0 then (none) else (if (Int.tmod x0_1 t226) = 0 then (some (x3_1 ++ (strOfNums y223))) else (spec_KeyAt.l0 k1 (wrap64 ((Int.tmod x0_1 t226) - 1)) (x3_1 ++ (strOfNums y223)) (wrap64 (x4_1 + 1)))))) else (none)))) = some r := H
          have A5 := Aside0.mk A50
          clear A50
          by_cases c6 : t222 = 0
          · rw [if_pos c6] at H
            exact absurd H (by simp)
          · rw [if_neg c6] at H
            have c6b0 : (t222 == 0) = false := beq_eq_false_iff_ne.mpr c6
            have c6b1 : (t222 != 0) = true := bne_iff_ne.mpr c6
            obtain ⟨y223, hy223⟩ : ∃ y_ : List Int, y_ = (([(wrap64 (97 + (wrap64 (Int.tdiv x0_1 t222)))) % 256] : List Int)) := ⟨_, rfl⟩
            replace H : (if x3_1.size + (strOfNums y223).size ≤ 9223372036854775807 then ((spec_l1Weight.f x4_1).bind fun t226 => (if t226 = 0 then (none) else (if (Int.tmod x0_1 t226) = 0 then (some (x3_1 ++ (strOfNums y223))) else (spec_KeyAt.l0 k1 (wrap64 ((Int.tmod x0_1 t226) - 1)) (x3_1 ++ (strOfNums y223)) (wrap64 (x4_1 + 1)))))) else (none)) = some r := by first | (rw [hy223]; with_reducible exact H) | (have H2_ := (Option.bind_some _ _).symm.trans H; rw [hy223]; with_reducible exact H2_) | (have H2_ := (Option.bind_some _ _).symm.trans H; with_reducible exact H2_) | with_reducible exact H | (rw [hy223]; exact H) | exact H
            have Ny223 := Aside0.mk hy223
            clear hy223
            by_cases c7 : x3_1.size + (strOfNums y223).size ≤ 9223372036854775807
            · rw [if_pos c7] at H
              have c7b0 := eq_true c7
              have c7b1 : decide (x3_1.size + (strOfNums y223).size ≤ 9223372036854775807) = true := decide_eq_true c7
              try have c7b2 : (9223372036854775807 < x3_1.size + (strOfNums y223).size) = False := eq_false (Nat.not_lt.2 c7)
              replace H := Option.bind_eq_some_iff.mp H
              obtain ⟨t226, A80, H⟩ := H
              replace H : (if t226 = 0 then (none) else (if (Int.tmod x0_1 t226) = 0 then (some (x3_1 ++ (strOfNums y223))) else (spec_KeyAt.l0 k1 (wrap64 ((Int.tmod x0_1 t226) - 1)) (x3_1 ++ (strOfNums y223)) (wrap64 (x4_1 + 1))))) = some r := H
              have A8 := Aside0.mk A80
              clear A80
              by_cases c9 : t226 = 0
              · rw [if_pos c9] at H
                exact absurd H (by simp)
              · rw [if_neg c9] at H
                have c9b0 : (t226 == 0) = false := beq_eq_false_iff_ne.mpr c9
                have c9b1 : (t226 != 0) = true := bne_iff_ne.mpr c9
                by_cases c10 : (Int.tmod x0_1 t226) = 0
                · rw [if_pos c10] at H
                  have c10b0 : ((Int.tmod x0_1 t226) == 0) = true := beq_iff_eq.mpr c10
                  have c10b1 : ((Int.tmod x0_1 t226) != 0) = false := bne_eq_false_iff_eq.mpr c10
                  clear c10
                  obtain rfl := Option.some.inj H
                  go_wp2_with (first | ((with_reducible refine gate_callee (f := 71) rfl ?_); refine goesL_ (some 15) rfl rfl Try.func71 (by kernel_rfl) rfl #[.int .i64 x4_1] rfl (by (try simp only [List.map_toArray, List.map_cons, List.map_nil]); first | done | rfl | (simp only [List.length_drop, List.length_take]; rfl)) ?_; (with_reducible refine (spec_l1Weight.calls x4_1 t222 _ A5.out).mono ?_); rintro e w' ⟨rfl, ⟨nd, rfl⟩⟩; refine ⟨_, rfl, ?_⟩) | ((with_reducible refine gate_dst (N := 19) rfl ?_); refine Kd.R_lit (Kd.int .u8) _ 5 ?hg (N := 19) ?hd (xs := ([(wrap64 (97 + (wrap64 (Int.tdiv x0_1 t222)))) % 256] : List Int)) (inner := [.int .u8 ((wrap64 (97 + (wrap64 (Int.tdiv x0_1 t222)))) % 256)]) (ok := fun _ => True) (okp := fun _ => True) ?hr ?hp (fun _ hk => hk) trivial (Below.refl _ _) (Nat.le_refl _) (by simp) ?_; (case hd => rfl); (case hg => rfl); (case hr => first | (go_simp; done) | (go_simp; rfl)); (case hp => exact (Reps.one (show Kd.M (Kd.int .u8) _ _ _ ((wrap64 (97 + (wrap64 (Int.tdiv x0_1 t222)))) % 256) [.int .u8 ((wrap64 (97 + (wrap64 (Int.tdiv x0_1 t222)))) % 256)] from rfl) (Reps.none _ _))); intro v224 w11 ho12 hb hg_ hnew_; clear hg_ hnew_; (first | rw [← Ny223.out] at ho12 | (simp only [Int.reduceToNat] at ho12; rw [← Ny223.out] at ho12)); have n0_ := Aside0.mk (Kd.R_lower ho12 (below_size (by repeat (first | (with_reducible first | exact HB.out | apply below_alloc | apply pw_below_drewN | apply below_drew1) | exact HB.out)))); have n1_ := Aside0.mk (below_step (by repeat (first | (with_reducible first | exact HB.out | apply below_alloc | apply pw_below_drewN | apply below_drew1) | exact HB.out)) hb); clear HB; have HO225 := n0_; have HB := n1_; clear n0_ n1_; clear hb ho12; have hcv13 := own_string (P := Try.prog) Try.underlying22 Try.underlying5 Try.underlying9 (Kd.own_of_R HO225.out)) | ((with_reducible refine gate_callee (f := 71) rfl ?_); refine goesL_ (some 24) rfl rfl Try.func71 (by kernel_rfl) rfl #[.int .i64 x4_1] rfl (by (try simp only [List.map_toArray, List.map_cons, List.map_nil]); first | done | rfl | (simp only [List.length_drop, List.length_take]; rfl)) ?_; (with_reducible refine (spec_l1Weight.calls x4_1 t226 _ A8.out).mono ?_); rintro e w' ⟨rfl, ⟨nd, rfl⟩⟩; refine ⟨_, rfl, ?_⟩))
                  go_ret
                  exact ⟨by first | rfl | (simp only [u8_w_, w64_u8_]; done) | (simp only [u8_w_, w64_u8_]; rfl) | (simp [errW_none, errW_some] <;> rfl) | (simp [*, errW_none, errW_some] <;> rfl), by repeat (first | (with_reducible first | exact HB.out | apply below_alloc | apply pw_below_drewN | apply below_drew1) | exact HB.out)⟩
                · rw [if_neg c10] at H
                  have c10b0 : ((Int.tmod x0_1 t226) == 0) = false := beq_eq_false_iff_ne.mpr c10
                  have c10b1 : ((Int.tmod x0_1 t226) != 0) = true := bne_iff_ne.mpr c10
                  have H' := Aside0.mk H
                  clear H
                  go_wp2_with (first | ((with_reducible refine gate_callee (f := 71) rfl ?_); refine goesL_ (some 15) rfl rfl Try.func71 (by kernel_rfl) rfl #[.int .i64 x4_1] rfl (by (try simp only [List.map_toArray, List.map_cons, List.map_nil]); first | done | rfl | (simp only [List.length_drop, List.length_take]; rfl)) ?_; (with_reducible refine (spec_l1Weight.calls x4_1 t222 _ A5.out).mono ?_); rintro e w' ⟨rfl, ⟨nd, rfl⟩⟩; refine ⟨_, rfl, ?_⟩) | ((with_reducible refine gate_dst (N := 19) rfl ?_); refine Kd.R_lit (Kd.int .u8) _ 5 ?hg (N := 19) ?hd (xs := ([(wrap64 (97 + (wrap64 (Int.tdiv x0_1 t222)))) % 256] : List Int)) (inner := [.int .u8 ((wrap64 (97 + (wrap64 (Int.tdiv x0_1 t222)))) % 256)]) (ok := fun _ => True) (okp := fun _ => True) ?hr ?hp (fun _ hk => hk) trivial (Below.refl _ _) (Nat.le_refl _) (by simp) ?_; (case hd => rfl); (case hg => rfl); (case hr => first | (go_simp; done) | (go_simp; rfl)); (case hp => exact (Reps.one (show Kd.M (Kd.int .u8) _ _ _ ((wrap64 (97 + (wrap64 (Int.tdiv x0_1 t222)))) % 256) [.int .u8 ((wrap64 (97 + (wrap64 (Int.tdiv x0_1 t222)))) % 256)] from rfl) (Reps.none _ _))); intro v224 w14 ho15 hb hg_ hnew_; clear hg_ hnew_; (first | rw [← Ny223.out] at ho15 | (simp only [Int.reduceToNat] at ho15; rw [← Ny223.out] at ho15)); have n0_ := Aside0.mk (Kd.R_lower ho15 (below_size (by repeat (first | (with_reducible first | exact HB.out | apply below_alloc | apply pw_below_drewN | apply below_drew1) | exact HB.out)))); have n1_ := Aside0.mk (below_step (by repeat (first | (with_reducible first | exact HB.out | apply below_alloc | apply pw_below_drewN | apply below_drew1) | exact HB.out)) hb); clear HB; have HO225 := n0_; have HB := n1_; clear n0_ n1_; clear hb ho15; have hcv16 := own_string (P := Try.prog) Try.underlying22 Try.underlying5 Try.underlying9 (Kd.own_of_R HO225.out)) | ((with_reducible refine gate_callee (f := 71) rfl ?_); refine goesL_ (some 24) rfl rfl Try.func71 (by kernel_rfl) rfl #[.int .i64 x4_1] rfl (by (try simp only [List.map_toArray, List.map_cons, List.map_nil]); first | done | rfl | (simp only [List.length_drop, List.length_take]; rfl)) ?_; (with_reducible refine (spec_l1Weight.calls x4_1 t226 _ A8.out).mono ?_); rintro e w' ⟨rfl, ⟨nd, rfl⟩⟩; refine ⟨_, rfl, ?_⟩))
                  go_roundg k1
                  case measure => have := HK1.out; omega
                  case rel => exact ⟨(wrap64 ((Int.tmod x0_1 t226) - 1)), (x3_1 ++ (strOfNums y223)), (wrap64 (x4_1 + 1)), (by first | rfl | (simp; done) | (simp [bne]; done) | (simp [*]; done)), (by first | rfl | (simp; done) | (simp [bne]; done) | (simp [*]; done)), (by first | rfl | (simp; done) | (simp [bne]; done) | (simp [*]; done)), H', ⟨by have := HK1.out; omega⟩, ⟨by repeat (first | (with_reducible first | exact HB.out | apply below_alloc | apply pw_below_drewN | apply below_drew1) | exact HB.out)⟩⟩
            · rw [if_neg c7] at H
              exact absurd H (by simp)
        · rw [if_neg c4] at H
          have c4b0 : decide (x4_1 < 4) = false := decide_eq_false c4
          clear c4
          obtain rfl := Option.some.inj H
          go_wp2
          go_ret
          exact ⟨by first | rfl | (simp only [u8_w_, w64_u8_]; done) | (simp only [u8_w_, w64_u8_]; rfl) | (simp [errW_none, errW_some] <;> rfl) | (simp [*, errW_none, errW_some] <;> rfl), by repeat (first | (with_reducible first | exact HB.out | apply below_alloc | apply pw_below_drewN | apply below_drew1) | exact HB.out)⟩
  · replace c3 := Bool.eq_false_iff.mpr c3
    subst c3
    have H1 : (some (⟨#[]⟩ : ByteArray)) = some r := by rw [if_neg (show ¬ (false = true) by decide)] at H; exact H
    clear H
    have H := H1
    clear H1
    obtain rfl := Option.some.inj H
    go_enter Try.func63, Try.ntmps63
    go_wp2_with (first | ((with_reducible refine gate_callee (f := 47) rfl ?_); refine goesL_ (some 6) rfl rfl Try.func47 (by kernel_rfl) rfl #[.int .i64 a0, .int .i64 0, .int .i64 475253] rfl (by (try simp only [List.map_toArray, List.map_cons, List.map_nil]); first | done | rfl | (simp only [List.length_drop, List.length_take]; rfl)) ?_; (with_reducible refine (spec_l1In.calls a0 0 475253 false _ A2.out).mono ?_); rintro e w' ⟨rfl, ⟨nd, rfl⟩⟩; refine ⟨_, rfl, ?_⟩))
    go_ret
    exact ⟨by first | rfl | (simp only [u8_w_, w64_u8_]; done) | (simp only [u8_w_, w64_u8_]; rfl) | (simp [errW_none, errW_some] <;> rfl) | (simp [*, errW_none, errW_some] <;> rfl), by repeat (first | (with_reducible first | exact HB.out | apply below_alloc | apply pw_below_drewN | apply below_drew1) | exact HB.out)⟩

end Go.Proofs.Ytmbkffpcbknndaa.PFnPairScan
