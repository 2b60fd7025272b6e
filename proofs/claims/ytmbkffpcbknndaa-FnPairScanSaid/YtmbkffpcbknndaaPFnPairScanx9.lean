-- Written for this claim by a program of this session (wip/myprint in the proofs' repo)
import Derived.Test.YtmbkffpcbknndaaPFnPairScanx0
import Derived.Test.YtmbkffpcbknndaaPFnPairScanx2
import Derived.Test.YtmbkffpcbknndaaPFnPairScanx3
import Derived.Test.YtmbkffpcbknndaaPFnPairScanx4
import Derived.Test.YtmbkffpcbknndaaPFnPairScanx6
import Derived.Test.YtmbkffpcbknndaaPFnPairScanx8
namespace Go.Proofs.Ytmbkffpcbknndaa.PFnPairScan
open Go.RowKit Go.Proofs.YtmbkffpcbknndaaW.PrintWords Go.Proofs.YtmbkffpcbknndaaW.PrintLast Go.Proofs.YtmbkffpcbknndaaW.PrintMore
attribute [local go_sem] max2_int min2_int max_two min_two max_three min_three max_four min_four max2_strs min2_strs   -- for this text's walks alone
set_option linter.unusedVariables false
set_option linter.unusedSimpArgs false

/-! ### spec_DrawPairScan: function 39 -/
def spec_DrawPairScan.f (k : Nat) (l0 : List Int) : Option ((List (S28)) × ByteArray × ByteArray × Int) := (spec_l20Open.f l0).bind fun bt277 => ((spec_l20Pairs.f k bt277.1 bt277.2 12).bind fun bt280 => ((spec_l20Span.f k bt277.1 bt280.2 12).bind fun bt284 => ((spec_l20Rd_pick.f k bt277.1 bt284.2.2 6).bind fun bt288 => ((some (([bt288.1, 48, 49, (-1)] : List Int) : List Int)).bind fun y290 => ((some (([0, 0, 0, 0, 1, 1, 2, 3] : List Int) : List Int)).bind fun y293 => ((spec_l20Rd_pick.f k bt277.1 bt288.2 8).bind fun bt296 => (if 0 ≤ bt296.1 then (if bt296.1 < (y293.length : Int) then (if 0 ≤ (rd y293 bt296.1) then (if (rd y293 bt296.1) < (y290.length : Int) then (some (bt280.1, bt284.1, bt284.2.1, rd y290 (rd y293 bt296.1))) else (none)) else (none)) else (none)) else (none))))))))
theorem spec_DrawPairScan.mono : ∀ a0 k, LeO (spec_DrawPairScan.f k a0) (spec_DrawPairScan.f (k + 1) a0) := by
  intro a0 k
  unfold spec_DrawPairScan.f
  repeat' first
      | (with_reducible exact spec_l20Pairs.mono _ _ _ _)
      | (with_reducible exact spec_l20Rd_pick.mono _ _ _ _)
      | (with_reducible exact spec_l20Span.mono _ _ _ _)
      | (with_reducible exact LeO.refl _)
      | (with_reducible exact LeO.none _)
      | (with_reducible refine LeO.ite ?_ ?_)
      | (with_reducible refine LeO.bind ?_ (fun _ => ?_))
      | exact spec_l20Pairs.mono _ _ _ _
      | exact spec_l20Rd_pick.mono _ _ _ _
      | exact spec_l20Span.mono _ _ _ _
      | exact LeO.none _
      | refine LeO.ite ?_ ?_
      | refine LeO.bind ?_ (fun _ => ?_)
def spec_DrawPairScan.T4 : Bool × List (List Nat × List Nat) := (true, [([], []), ([], []), ([], []), ([2], [2]), ([3], [3]), ([], []), ([], []), ([6, 3], [6]), ([5, 7], [5, 7]), ([8], [8]), ([4, 9], [4, 9]), ([10], [10]), ([0, 7, 0], [0]), ([1, 12, 0, 1, 12], [1]), ([11, 13, 0, 1, 2, 3, 4, 5, 6, 7, 8, 9, 10, 11, 12, 13], [11])])
def spec_DrawPairScan.B4 : List Nat := [0, 0, 0, 4, 12, 0, 0, 76, 236, 492, 1020, 2044, 205, 4303, 16383]
theorem spec_DrawPairScan.tab4 : rtab .any (opsOf Try.f39 4) = spec_DrawPairScan.T4 := by kernel_rfl
theorem spec_DrawPairScan.bits4 : waitsOk spec_DrawPairScan.T4.2 spec_DrawPairScan.B4 = true := by kernel_rfl
set_option maxHeartbeats 8000000 in
set_option maxRecDepth 100000 in
theorem spec_DrawPairScan.calls (k : Nat) (A0 : Option Addr) (c0 : Nat) (l0 : List Int) (r1 : List (S28)) (r2 : ByteArray) (r3 : ByteArray) (r4 : Int) (w : World) (hr0 : Kd.C (Kd.int .u8) w A0 l0.length l0) (hc0 : l0.length ≤ c0) (h : spec_DrawPairScan.f k l0 = some (r1, r2, r3, r4)) :
    Calls Try.prog 39 #[.slice A0 l0.length c0] w fun e w' => ∃ v0_ : Value, e = .returned (.tuple #[v0_, .agg #[.string r2, .string r3], .int .i64 r4]) ∧ Kd.R k28 28 w' w.heap.size (fun _ => True) v0_ r1 ∧ Below w.heap.size w w' := by
  have hu36 := Try.underlying36
  have HR0 := Aside0.mk hr0
  have HC0 := Aside0.mk hc0
  clear hr0 hc0
  have HB := Aside0.mk (Below.refl w.heap.size w)
  have H : ((spec_l20Open.f l0).bind fun bt277 => ((spec_l20Pairs.f k bt277.1 bt277.2 12).bind fun bt280 => ((spec_l20Span.f k bt277.1 bt280.2 12).bind fun bt284 => ((spec_l20Rd_pick.f k bt277.1 bt284.2.2 6).bind fun bt288 => ((some (([bt288.1, 48, 49, (-1)] : List Int) : List Int)).bind fun y290 => ((some (([0, 0, 0, 0, 1, 1, 2, 3] : List Int) : List Int)).bind fun y293 => ((spec_l20Rd_pick.f k bt277.1 bt288.2 8).bind fun bt296 => (if 0 ≤ bt296.1 then (if bt296.1 < (y293.length : Int) then (if 0 ≤ (rd y293 bt296.1) then (if (rd y293 bt296.1) < (y290.length : Int) then (some (bt280.1, bt284.1, bt284.2.1, rd y290 (rd y293 bt296.1))) else (none)) else (none)) else (none)) else (none))))))))) = some (r1, r2, r3, r4) := h
  clear h
  replace H := Option.bind_eq_some_iff.mp H
  obtain ⟨⟨t277, t278⟩, A20, H⟩ := H
  replace H : ((spec_l20Pairs.f k t277 t278 12).bind fun bt280 => ((spec_l20Span.f k t277 bt280.2 12).bind fun bt284 => ((spec_l20Rd_pick.f k t277 bt284.2.2 6).bind fun bt288 => ((some (([bt288.1, 48, 49, (-1)] : List Int) : List Int)).bind fun y290 => ((some (([0, 0, 0, 0, 1, 1, 2, 3] : List Int) : List Int)).bind fun y293 => ((spec_l20Rd_pick.f k t277 bt288.2 8).bind fun bt296 => (if 0 ≤ bt296.1 then (if bt296.1 < (y293.length : Int) then (if 0 ≤ (rd y293 bt296.1) then (if (rd y293 bt296.1) < (y290.length : Int) then (some (bt280.1, bt284.1, bt284.2.1, rd y290 (rd y293 bt296.1))) else (none)) else (none)) else (none)) else (none)))))))) = some (r1, r2, r3, r4) := H
  have A2 := Aside0.mk A20
  clear A20
  replace H := Option.bind_eq_some_iff.mp H
  obtain ⟨⟨t280, t283⟩, A30, H⟩ := H
  replace H : ((spec_l20Span.f k t277 t283 12).bind fun bt284 => ((spec_l20Rd_pick.f k t277 bt284.2.2 6).bind fun bt288 => ((some (([bt288.1, 48, 49, (-1)] : List Int) : List Int)).bind fun y290 => ((some (([0, 0, 0, 0, 1, 1, 2, 3] : List Int) : List Int)).bind fun y293 => ((spec_l20Rd_pick.f k t277 bt288.2 8).bind fun bt296 => (if 0 ≤ bt296.1 then (if bt296.1 < (y293.length : Int) then (if 0 ≤ (rd y293 bt296.1) then (if (rd y293 bt296.1) < (y290.length : Int) then (some (t280, bt284.1, bt284.2.1, rd y290 (rd y293 bt296.1))) else (none)) else (none)) else (none)) else (none))))))) = some (r1, r2, r3, r4) := H
  have A3 := Aside0.mk A30
  clear A30
  replace H := Option.bind_eq_some_iff.mp H
  obtain ⟨⟨t284, t285, t286⟩, A40, H⟩ := H
  replace H : ((spec_l20Rd_pick.f k t277 t286 6).bind fun bt288 => ((some (([bt288.1, 48, 49, (-1)] : List Int) : List Int)).bind fun y290 => ((some (([0, 0, 0, 0, 1, 1, 2, 3] : List Int) : List Int)).bind fun y293 => ((spec_l20Rd_pick.f k t277 bt288.2 8).bind fun bt296 => (if 0 ≤ bt296.1 then (if bt296.1 < (y293.length : Int) then (if 0 ≤ (rd y293 bt296.1) then (if (rd y293 bt296.1) < (y290.length : Int) then (some (t280, t284, t285, rd y290 (rd y293 bt296.1))) else (none)) else (none)) else (none)) else (none)))))) = some (r1, r2, r3, r4) := H
  have A4 := Aside0.mk A40
  clear A40
  replace H := Option.bind_eq_some_iff.mp H
  obtain ⟨⟨t288, t289⟩, A50, H⟩ := H
  replace H : ((some (([t288, 48, 49, (-1)] : List Int) : List Int)).bind fun y290 => ((some (([0, 0, 0, 0, 1, 1, 2, 3] : List Int) : List Int)).bind fun y293 => ((spec_l20Rd_pick.f k t277 t289 8).bind fun bt296 => (if 0 ≤ bt296.1 then (if bt296.1 < (y293.length : Int) then (if 0 ≤ (rd y293 bt296.1) then (if (rd y293 bt296.1) < (y290.length : Int) then (some (t280, t284, t285, rd y290 (rd y293 bt296.1))) else (none)) else (none)) else (none)) else (none))))) = some (r1, r2, r3, r4) := H
  have A5 := Aside0.mk A50
  clear A50
  obtain ⟨y290, hy290⟩ : ∃ y_ : List Int, y_ = (([t288, 48, 49, (-1)] : List Int)) := ⟨_, rfl⟩
  replace H : ((some (([0, 0, 0, 0, 1, 1, 2, 3] : List Int) : List Int)).bind fun y293 => ((spec_l20Rd_pick.f k t277 t289 8).bind fun bt296 => (if 0 ≤ bt296.1 then (if bt296.1 < (y293.length : Int) then (if 0 ≤ (rd y293 bt296.1) then (if (rd y293 bt296.1) < (y290.length : Int) then (some (t280, t284, t285, rd y290 (rd y293 bt296.1))) else (none)) else (none)) else (none)) else (none)))) = some (r1, r2, r3, r4) := by first | (rw [hy290]; with_reducible exact H) | (have H2_ := (Option.bind_some _ _).symm.trans H; rw [hy290]; with_reducible exact H2_) | (have H2_ := (Option.bind_some _ _).symm.trans H; with_reducible exact H2_) | with_reducible exact H | (rw [hy290]; exact H) | exact H
  have Ny290 := Aside0.mk hy290
  clear hy290
  obtain ⟨y293, hy293⟩ : ∃ y_ : List Int, y_ = (([0, 0, 0, 0, 1, 1, 2, 3] : List Int)) := ⟨_, rfl⟩
  replace H : ((spec_l20Rd_pick.f k t277 t289 8).bind fun bt296 => (if 0 ≤ bt296.1 then (if bt296.1 < (y293.length : Int) then (if 0 ≤ (rd y293 bt296.1) then (if (rd y293 bt296.1) < (y290.length : Int) then (some (t280, t284, t285, rd y290 (rd y293 bt296.1))) else (none)) else (none)) else (none)) else (none))) = some (r1, r2, r3, r4) := by first | (rw [hy293]; with_reducible exact H) | (have H2_ := (Option.bind_some _ _).symm.trans H; rw [hy293]; with_reducible exact H2_) | (have H2_ := (Option.bind_some _ _).symm.trans H; with_reducible exact H2_) | with_reducible exact H | (rw [hy293]; exact H) | exact H
  have Ny293 := Aside0.mk hy293
  clear hy293
  replace H := Option.bind_eq_some_iff.mp H
  obtain ⟨⟨t296, t297⟩, A60, H⟩ := H
  replace H : (if 0 ≤ t296 then (if t296 < (y293.length : Int) then (if 0 ≤ (rd y293 t296) then (if (rd y293 t296) < (y290.length : Int) then (some (t280, t284, t285, rd y290 (rd y293 t296))) else (none)) else (none)) else (none)) else (none)) = some (r1, r2, r3, r4) := H
  have A6 := Aside0.mk A60
  clear A60
  by_cases c7 : 0 ≤ t296
  · rw [if_pos c7] at H
    have c7b0 : decide (0 ≤ t296) = true := decide_eq_true c7
    clear c7
    by_cases c8 : t296 < (y293.length : Int)
    · rw [if_pos c8] at H
      have c8b0 : decide (t296 < (y293.length : Int)) = true := decide_eq_true c8
      clear c8
      by_cases c9 : 0 ≤ (rd y293 t296)
      · rw [if_pos c9] at H
        have c9b0 : decide (0 ≤ (rd y293 t296)) = true := decide_eq_true c9
        clear c9
        by_cases c10 : (rd y293 t296) < (y290.length : Int)
        · rw [if_pos c10] at H
          have c10b0 : decide ((rd y293 t296) < (y290.length : Int)) = true := decide_eq_true c10
          clear c10
          simp only [Option.some.injEq, Prod.mk.injEq] at H
          obtain ⟨rfl, rfl, rfl, rfl⟩ := H
          go_enter Try.func39, Try.ntmps39
          try go_wp2_with (first | ((with_reducible refine gate_dst (N := 3) rfl ?_); refine box_event ?hg (N := 3) ?hd (cs := #[.string (⟨#[]⟩ : ByteArray), .string (⟨#[]⟩ : ByteArray)]) (t := 36) ?hr ?_; (case hd => rfl); (case hg => rfl); (case hr => first | (go_simp; done) | (go_simp; rfl)); intro gb276 hg w11 hbox hb; have n0_ := Aside0.mk (below_step (by repeat (first | (with_reducible first | exact HB.out | apply below_alloc | apply pw_below_drewN | apply below_drew1) | exact HB.out)) hb); have n1_ := Aside0.mk (hbox); have n2_ := Aside0.mk ((by rw [hg]; exact (below_size (by repeat (first | (with_reducible first | exact HB.out | apply below_alloc | apply pw_below_drewN | apply below_drew1) | exact HB.out))) : w.heap.size ≤ gb276)); have n3_ := Aside0.mk ((by rw [hg]; exact (below_size (by repeat (first | (with_reducible first | exact HB.out | apply below_alloc | apply pw_below_drewN | apply below_drew1) | exact HB.out))) : w.heap.size ≤ gb276)); clear HB; have HB := n0_; have BK276 := n1_; have GW276 := n2_; have GE276 := n3_; clear n0_ n1_ n2_ n3_; clear hb hbox hg) | ((with_reducible refine gate_callee (f := 43) rfl ?_); refine goesL_ (some 9) rfl rfl Try.func43 (by kernel_rfl) rfl #[.slice A0 l0.length c0] rfl (by (try simp only [List.map_toArray, List.map_cons, List.map_nil]); first | done | rfl | (simp only [List.length_drop, List.length_take]; rfl)) ?_; (with_reducible refine (spec_l20Open.calls _ _ l0 t277 t278 w _ ?side1 ?side2 ?side3 A2.out).mono ?_); (case side1 => repeat (first | (with_reducible first | exact HB.out | apply below_alloc | apply pw_below_drewN | apply below_drew1 | refine below_set ?_ GE276.out) | exact HB.out)); (case side2 => exact HR0.out); (case side3 => exact HC0.out); rintro e w12 ⟨g279, rfl, hi, hb, hb2⟩; refine ⟨_, rfl, ?_⟩; have n0_ := Aside0.mk (blk_below (g := gb276) (o := .cells #[.string (⟨#[]⟩ : ByteArray), .string (⟨#[]⟩ : ByteArray)] 36 (0, 0)) (by (with_reducible repeat (first | refine blk_drewN ?_ _ | refine blk_drew ?_ | refine blk_alloc ?_ _)); exact BK276.out) hb2); have n1_ := Aside0.mk (hb); have n2_ := Aside0.mk (hi); have n3_ := Aside0.mk (IsS73.ne_blk hi (blk_below (g := gb276) (o := .cells #[.string (⟨#[]⟩ : ByteArray), .string (⟨#[]⟩ : ByteArray)] 36 (0, 0)) (by (with_reducible repeat (first | refine blk_drewN ?_ _ | refine blk_drew ?_ | refine blk_alloc ?_ _)); exact BK276.out) hb2) (by decide)); have n4_ := Aside0.mk (Ne.symm (IsS73.ne_blk hi (blk_below (g := gb276) (o := .cells #[.string (⟨#[]⟩ : ByteArray), .string (⟨#[]⟩ : ByteArray)] 36 (0, 0)) (by (with_reducible repeat (first | refine blk_drewN ?_ _ | refine blk_drew ?_ | refine blk_alloc ?_ _)); exact BK276.out) hb2) (by decide))); clear BK276; clear HB; have BK276 := n0_; have HB := n1_; have HI279 := n2_; have NB279_276 := n3_; have NB276_279 := n4_; clear n0_ n1_ n2_ n3_ n4_; (try clear hb); (try clear hb2); (try clear hk); (try clear hi)) | ((with_reducible refine gate_callee (f := 42) rfl ?_); refine goesL_ (some 11) rfl rfl Try.func42 (by kernel_rfl) rfl #[.pointer (some ⟨g279, 0, none⟩), .int .i64 12] rfl (by (try simp only [List.map_toArray, List.map_cons, List.map_nil]); first | done | rfl | (simp only [List.length_drop, List.length_take]; rfl)) ?_; (with_reducible refine (spec_l20Pairs.calls k g279 t277 t278 12 t280 t283 w _ ?side1 ?side2 A3.out).mono ?_); (case side1 => repeat (first | (with_reducible first | exact HI279.out | apply IsS73.alloc | apply IsS73.drewN | apply IsS73.drew | apply IsS73.set_1 | refine IsS73.far ?_ NB279_276.out _) | exact HI279.out)); (case side2 => repeat (first | (with_reducible first | exact HB.out | apply below_alloc | apply pw_below_drewN | apply below_drew1 | refine below_set ?_ (IsS73.ge HI279.out) | refine below_set ?_ GE276.out) | exact HB.out)); rintro e w13 ⟨v281, rfl, ho0, hi, hb, hk⟩; refine ⟨_, rfl, ?_⟩; have n0_ := Aside0.mk (KeepBut.blk hk (g' := gb276) (o := .cells #[.string (⟨#[]⟩ : ByteArray), .string (⟨#[]⟩ : ByteArray)] 36 (0, 0)) (by (with_reducible repeat (first | refine blk_drewN ?_ _ | refine blk_drew ?_ | refine blk_alloc ?_ _)); exact BK276.out) NB276_279.out (by simp)); have n1_ := Aside0.mk (Kd.R_lower ho0 (below_size (by repeat (first | (with_reducible first | exact HB.out | apply below_alloc | apply pw_below_drewN | apply below_drew1 | refine below_set ?_ (IsS73.ge HI279.out) | refine below_set ?_ GE276.out) | exact HB.out)))); have n2_ := Aside0.mk (hb); have n3_ := Aside0.mk (hi); clear BK276; clear HB; clear HI279; have BK276 := n0_; have HO282 := n1_; have HB := n2_; have HI279 := n3_; clear n0_ n1_ n2_ n3_; (try clear hb); (try clear hb2); (try clear hk); (try clear hi); (try clear ho0)) | ((with_reducible refine gate_callee (f := 58) rfl ?_); refine goesL_ (some 13) rfl rfl Try.func58 (by kernel_rfl) rfl #[.pointer (some ⟨g279, 0, none⟩), .int .i64 12] rfl (by (try simp only [List.map_toArray, List.map_cons, List.map_nil]); first | done | rfl | (simp only [List.length_drop, List.length_take]; rfl)) ?_; (with_reducible refine (spec_l20Span.calls k g279 t277 t283 12 t284 t285 t286 w _ ?side1 ?side2 A4.out).mono ?_); (case side1 => repeat (first | (with_reducible first | exact HI279.out | apply IsS73.alloc | apply IsS73.drewN | apply IsS73.drew | apply IsS73.set_1 | refine IsS73.far ?_ NB279_276.out _) | exact HI279.out)); (case side2 => repeat (first | (with_reducible first | exact HB.out | apply below_alloc | apply pw_below_drewN | apply below_drew1 | refine below_set ?_ (IsS73.ge HI279.out) | refine below_set ?_ GE276.out) | exact HB.out)); rintro e w14 ⟨rfl, hi, hb, hk⟩; refine ⟨_, rfl, ?_⟩; have n0_ := Aside0.mk (KeepBut.blk hk (g' := gb276) (o := .cells #[.string (⟨#[]⟩ : ByteArray), .string (⟨#[]⟩ : ByteArray)] 36 (0, 0)) (by (with_reducible repeat (first | refine blk_drewN ?_ _ | refine blk_drew ?_ | refine blk_alloc ?_ _)); exact BK276.out) NB276_279.out (by simp)); have n1_ := Aside0.mk (Kd.R_mono (Kd.R_keep (IsS73.apart (show IsS73 w _ g279 t277 t283 from by repeat (first | (with_reducible first | exact HI279.out | apply IsS73.alloc | apply IsS73.drewN | apply IsS73.drew | apply IsS73.set_1 | refine IsS73.far ?_ NB279_276.out _) | exact HI279.out)) (by (with_reducible repeat (first | apply Kd.R_alloc | apply Kd.R_drewN | apply Kd.R_drew)); exact HO282.out) (by decide)) hk (fun _ h => h.2)) (fun _ h => h.1)); have n2_ := Aside0.mk (hb); have n3_ := Aside0.mk (hi); clear BK276; clear HO282; clear HB; clear HI279; have BK276 := n0_; have HO282 := n1_; have HB := n2_; have HI279 := n3_; clear n0_ n1_ n2_ n3_; (try clear hb); (try clear hb2); (try clear hk); (try clear hi)) | ((with_reducible refine gate_dst (N := 7) rfl ?_); refine box_event ?hg (N := 7) ?hd (cs := #[.string (⟨#[]⟩ : ByteArray), .string (⟨#[]⟩ : ByteArray)]) (t := 36) ?hr ?_; (case hd => rfl); (case hg => rfl); (case hr => first | (go_simp; done) | (go_simp; rfl)); intro gb287 hg w15 hbox hb; have n0_ := Aside0.mk (Kd.R_below (by (with_reducible repeat (first | apply Kd.R_alloc | apply Kd.R_drewN | apply Kd.R_drew)); exact HO282.out) hb); have n1_ := Aside0.mk (blk_below (g := gb276) (o := .cells #[.string (⟨#[]⟩ : ByteArray), .string (⟨#[]⟩ : ByteArray)] 36 (0, 0)) (by (with_reducible repeat (first | refine blk_drewN ?_ _ | refine blk_drew ?_ | refine blk_alloc ?_ _)); exact BK276.out) hb); have n2_ := Aside0.mk (IsS73.below (by repeat (first | (with_reducible first | exact HI279.out | apply IsS73.alloc | apply IsS73.drewN | apply IsS73.drew | apply IsS73.set_1 | refine IsS73.far ?_ NB279_276.out _) | exact HI279.out)) hb); have n3_ := Aside0.mk (below_step (by repeat (first | (with_reducible first | exact HB.out | apply below_alloc | apply pw_below_drewN | apply below_drew1 | refine below_set ?_ (IsS73.ge HI279.out) | refine below_set ?_ GE276.out) | exact HB.out)) hb); have n4_ := Aside0.mk (hbox); have n5_ := Aside0.mk ((by rw [hg]; exact (below_size (by repeat (first | (with_reducible first | exact HB.out | apply below_alloc | apply pw_below_drewN | apply below_drew1 | refine below_set ?_ (IsS73.ge HI279.out) | refine below_set ?_ GE276.out) | exact HB.out))) : w.heap.size ≤ gb287)); have n6_ := Aside0.mk ((by rw [hg]; exact (below_size (by repeat (first | (with_reducible first | exact HB.out | apply below_alloc | apply pw_below_drewN | apply below_drew1 | refine below_set ?_ (IsS73.ge HI279.out) | refine below_set ?_ GE276.out) | exact HB.out))) : w.heap.size ≤ gb287)); have n7_ := Aside0.mk ((by rw [hg]; exact Nat.ne_of_lt (blk_lt (g := gb276) (o := .cells #[.string (⟨#[]⟩ : ByteArray), .string (⟨#[]⟩ : ByteArray)] 36 (0, 0)) (by (with_reducible repeat (first | refine blk_drewN ?_ _ | refine blk_drew ?_ | refine blk_alloc ?_ _)); exact BK276.out)) : gb276 ≠ gb287)); have n8_ := Aside0.mk ((by rw [hg]; exact Nat.ne_of_gt (blk_lt (g := gb276) (o := .cells #[.string (⟨#[]⟩ : ByteArray), .string (⟨#[]⟩ : ByteArray)] 36 (0, 0)) (by (with_reducible repeat (first | refine blk_drewN ?_ _ | refine blk_drew ?_ | refine blk_alloc ?_ _)); exact BK276.out)) : gb287 ≠ gb276)); have n9_ := Aside0.mk ((by rw [hg]; exact Nat.ne_of_lt (IsS73.lt (show IsS73 w _ g279 t277 t286 from by repeat (first | (with_reducible first | exact HI279.out | apply IsS73.alloc | apply IsS73.drewN | apply IsS73.drew | apply IsS73.set_1 | refine IsS73.far ?_ NB279_276.out _) | exact HI279.out))) : g279 ≠ gb287)); have n10_ := Aside0.mk ((by rw [hg]; exact Nat.ne_of_gt (IsS73.lt (show IsS73 w _ g279 t277 t286 from by repeat (first | (with_reducible first | exact HI279.out | apply IsS73.alloc | apply IsS73.drewN | apply IsS73.drew | apply IsS73.set_1 | refine IsS73.far ?_ NB279_276.out _) | exact HI279.out))) : gb287 ≠ g279)); clear HO282; clear BK276; clear HI279; clear HB; have HO282 := n0_; have BK276 := n1_; have HI279 := n2_; have HB := n3_; have BK287 := n4_; have GW287 := n5_; have GE287 := n6_; have NB276_287 := n7_; have NB287_276 := n8_; have NB279_287 := n9_; have NB287_279 := n10_; clear n0_ n1_ n2_ n3_ n4_ n5_ n6_ n7_ n8_ n9_ n10_; clear hb hbox hg; have hnb16 := NB287_276.out; have hnc16 := NB276_287.out; have hnb17 := NB287_279.out; have hnc17 := NB279_287.out; have hcz18_0 : w15.cell? ⟨gb287, 0, none⟩ = some (.string (⟨#[]⟩ : ByteArray)) := (blk_cell BK287.out 0).trans rfl; have hcz18_1 : w15.cell? ⟨gb287, 1, none⟩ = some (.string (⟨#[]⟩ : ByteArray)) := (blk_cell BK287.out 1).trans rfl; have hfz18_0 := blk_frozen BK287.out 0; have hfz18_1 := blk_frozen BK287.out 1))
          have pi298 : (0 ≤ (t296 : Int)) = True := eq_true (of_decide_eq_true (by first | (with_reducible assumption) | assumption))
          have qi298 : (t296 < (y293.length : Int)) = True := eq_true (of_decide_eq_true (by first | (with_reducible assumption) | assumption))
          have pi299 : (0 ≤ ((rd y293 t296) : Int)) = True := eq_true (of_decide_eq_true (by first | (with_reducible assumption) | assumption))
          have qi299 : ((rd y293 t296) < (y290.length : Int)) = True := eq_true (of_decide_eq_true (by first | (with_reducible assumption) | assumption))
          have n0_ : Aside0 (Kd.R k28 28 ((w15.setCell ⟨gb287, 0, none⟩ (.string t284)).setCell ⟨gb287, 1, none⟩ (.string t285)) w.heap.size (fun _ => True) v281 t280) := ⟨by (with_reducible repeat (first | apply Kd.R_alloc | apply Kd.R_drewN | apply Kd.R_drew)); exact Kd.R_mono (Kd.R_far (p := ⟨gb287, 1, none⟩) (Kd.R_far (p := ⟨gb287, 0, none⟩) (Kd.R_types HO282.out BK287.out (by decide)) (fun _ hk => hk.2) (.string t284)) (fun _ hk => hk.2) (.string t285)) (fun _ hk => trivial)⟩
          have n1_ : Aside0 (((w15.setCell ⟨gb287, 0, none⟩ (.string t284)).setCell ⟨gb287, 1, none⟩ (.string t285)).heap[gb276]? = some (.cells #[.string (⟨#[]⟩ : ByteArray), .string (⟨#[]⟩ : ByteArray)] 36 (0, 0))) := ⟨by (with_reducible repeat (first | refine blk_drewN ?_ _ | refine blk_drew ?_ | refine blk_alloc ?_ _)); refine blk_far ?_ NB276_287.out _; (with_reducible repeat (first | refine blk_drewN ?_ _ | refine blk_drew ?_ | refine blk_alloc ?_ _)); refine blk_far ?_ NB276_287.out _; (with_reducible repeat (first | refine blk_drewN ?_ _ | refine blk_drew ?_ | refine blk_alloc ?_ _)); exact BK276.out⟩
          have n2_ : Aside0 (((w15.setCell ⟨gb287, 0, none⟩ (.string t284)).setCell ⟨gb287, 1, none⟩ (.string t285)).heap[gb287]? = some (.cells #[.string t284, .string t285] 36 (0, 0))) := ⟨by (with_reducible repeat (first | refine blk_drewN ?_ _ | refine blk_drew ?_ | refine blk_alloc ?_ _)); refine blk_put (cs := #[.string t284, .string (⟨#[]⟩ : ByteArray)]) ?_ 1 _ rfl; (with_reducible repeat (first | refine blk_drewN ?_ _ | refine blk_drew ?_ | refine blk_alloc ?_ _)); refine blk_put (cs := #[.string (⟨#[]⟩ : ByteArray), .string (⟨#[]⟩ : ByteArray)]) ?_ 0 _ rfl; (with_reducible repeat (first | refine blk_drewN ?_ _ | refine blk_drew ?_ | refine blk_alloc ?_ _)); exact BK287.out⟩
          have n3_ : Aside0 (IsS73 w ((w15.setCell ⟨gb287, 0, none⟩ (.string t284)).setCell ⟨gb287, 1, none⟩ (.string t285)) g279 t277 t286) := ⟨by repeat (first | (with_reducible first | exact HI279.out | apply IsS73.alloc | apply IsS73.drewN | apply IsS73.drew | apply IsS73.set_1 | refine IsS73.far ?_ NB279_276.out _ | refine IsS73.far ?_ NB279_287.out _) | exact HI279.out)⟩
          have n4_ : Aside0 (Below w.heap.size w ((w15.setCell ⟨gb287, 0, none⟩ (.string t284)).setCell ⟨gb287, 1, none⟩ (.string t285))) := ⟨by repeat (first | (with_reducible first | exact HB.out | apply below_alloc | apply pw_below_drewN | apply below_drew1 | refine below_set ?_ (IsS73.ge HI279.out) | refine below_set ?_ GE276.out | refine below_set ?_ GE287.out) | exact HB.out)⟩
          (try clear HO282)
          (try clear BK276)
          (try clear BK287)
          (try clear HI279)
          (try clear HB)
          generalize ((w15.setCell ⟨gb287, 0, none⟩ (.string t284)).setCell ⟨gb287, 1, none⟩ (.string t285)) = w19 at n0_ n1_ n2_ n3_ n4_ ⊢
          have HO282 := n0_
          have BK276 := n1_
          have BK287 := n2_
          have HI279 := n3_
          have HB := n4_
          clear n0_ n1_ n2_ n3_ n4_
          have n0_ := Aside0.mk (Kd.R_drew HO282.out)
          have n1_ := Aside0.mk (blk_drew BK276.out)
          have n2_ := Aside0.mk (blk_drew BK287.out)
          have n3_ := Aside0.mk (IsS73.drew HI279.out)
          have n4_ := Aside0.mk (below_drew1 HB.out)
          clear HO282
          clear BK276
          clear BK287
          clear HI279
          clear HB
          have HO282 := n0_
          have BK276 := n1_
          have BK287 := n2_
          have HI279 := n3_
          have HB := n4_
          clear n0_ n1_ n2_ n3_ n4_
          refine start_ (n := 15) (S := fun w' => True) (ds := []) #[false, false, false, false, false, false, false, false, false, false, false, false, false, false, false] (by kernel_rfl) rfl rfl trivial (fun hHeld => ?_); refine with_tabW spec_DrawPairScan.tab4 spec_DrawPairScan.bits4 (fun HT_ HW_ => ?_)
          generalize w19.drew = w20 at HO282 BK276 BK287 HI279 HB hHeld ⊢
          refine pure_ (i := 0) (N := some 14) (v := ?_) (a' := ?_) #[true, false, false, false, false, false, false, false, false, false, false, false, false, false, false] rfl rfl (any_of HT_.out (by kernel_rfl)) (fun _ _ _ h => h) (Or.inl ⟨by rfl, ?_⟩) ?_ ?_
          rotate_left
          · intro w'
            go_simp
            with_reducible rfl
          rotate_left
          · simp only [Act.put, List.setIfInBounds_toArray, List.set_cons_zero, List.set_cons_succ, i64_w, i32_w]
            rfl
          refine pure_ (i := 2) (N := some 16) (v := ?_) (a' := ?_) #[true, false, true, false, false, false, false, false, false, false, false, false, false, false, false] rfl rfl (any_of HT_.out (by kernel_rfl)) (fun _ _ _ h => h) (Or.inl ⟨by rfl, ?_⟩) ?_ ?_
          rotate_left
          · intro w'
            go_simp
            with_reducible rfl
          rotate_left
          · simp only [Act.put, List.setIfInBounds_toArray, List.set_cons_zero, List.set_cons_succ, i64_w, i32_w]
            rfl
          refine pure_ (i := 6) (N := some 20) (v := ?_) (a' := ?_) #[true, false, true, false, false, false, true, false, false, false, false, false, false, false, false] rfl rfl (any_of HT_.out (by kernel_rfl)) (fun _ _ _ h => h) (Or.inl ⟨by rfl, ?_⟩) ?_ ?_
          rotate_left
          · intro w'
            go_simp
            with_reducible rfl
          rotate_left
          · simp only [Act.put, List.setIfInBounds_toArray, List.set_cons_zero, List.set_cons_succ, i64_w, i32_w]
            rfl
          refine inv_at [1, 3, 4, 5, 7, 8, 9, 10, 11, 12, 13, 14] (fun a0_ b a w' => ∃ (v291 : Value) (adz_v291 : Addr) (v294 : Value) (adz_v294 : Addr) (m8_ : Value) (m10_ : Value), a = putSel a0_ b [(1, 15, .agg #[.string t284, .string t285]), (3, 17, .int .i64 t288), (4, 18, v291), (5, 19, v294), (7, 21, .int .i64 t296), (8, 22, m8_), (9, 23, .int .i64 (rd y293 t296)), (10, 24, m10_), (11, 25, .int .i64 (rd y290 (rd y293 t296))), (12, 2, v281), (14, 4, .int .i64 (rd y290 (rd y293 t296)))] ∧ (Kd.R k28 28 w' w.heap.size (fun _ => True) v281 t280) ∧ (b 13 = false → w'.heap[gb276]? = some (.cells #[.string (⟨#[]⟩ : ByteArray), .string (⟨#[]⟩ : ByteArray)] 36 (0, 0))) ∧ (w'.heap[gb287]? = some (.cells #[.string t284, .string t285] 36 (0, 0))) ∧ (b 3 = false → IsS73 w w' g279 t277 t286) ∧ (Below w.heap.size w w') ∧ (b 3 = true → b 7 = false → IsS73 w w' g279 t277 t289) ∧ (b 4 = true → Kd.R (Kd.int .i64) 3 w' w.heap.size (fun _ => True) v291 y290) ∧ (b 4 = true → ∃ c_, (v291 : Value) = .slice (some adz_v291) y290.length c_) ∧ (b 5 = true → Kd.R (Kd.int .i64) 3 w' w.heap.size (fun _ => True) v294 y293) ∧ (b 5 = true → ∃ c_, (v294 : Value) = .slice (some adz_v294) y293.length c_) ∧ (b 7 = true → IsS73 w w' g279 t277 t297) ∧ (b 13 = true → w'.heap[gb276]? = some (.cells #[.string t284, .string t285] 36 (0, 0))) ∧ (b 8 = true → (m8_ : Value) = .pointer (some (adz_v294.add (t296).toNat))) ∧ (b 10 = true → (m10_ : Value) = .pointer (some (adz_v291.add ((rd y293 t296)).toNat)))) HT_.out HW_.out (by kernel_rfl) (by kernel_rfl) ?_ ?_ ?_
          · exact ⟨.bool false, ⟨0, 0, none⟩, .bool false, ⟨0, 0, none⟩, .bool false, .bool false, by simp only [putSel, Bool.false_eq_true, if_false], HO282.out, fun _ => BK276.out, BK287.out, fun _ => HI279.out, HB.out, fun h_ => absurd h_ (by decide), fun h_ => absurd h_ (by decide), fun h_ => absurd h_ (by decide), fun h_ => absurd h_ (by decide), fun h_ => absurd h_ (by decide), fun h_ => absurd h_ (by decide), fun h_ => absurd h_ (by decide), fun h_ => absurd h_ (by decide), fun h_ => absurd h_ (by decide)⟩
          · skip
            clear BK276 BK287 HB HI279 HO282
            refine steps_cons ?_ ?_
            · rintro b a w' ⟨v291, adz_v291, v294, adz_v294, m8_, m10_, ha, Q_HO282, Q_BK276, Q_BK287, Q_HI279, Q_HB, Q_HI279_e3, Q_HO292, Q_HA_HO292, Q_HO295, Q_HA_HO295, Q_HI279_e7, Q_BK276_e13, Q_X8_, Q_X10_⟩ hb_ hon hoff
              refine ⟨_, rfl, fun K hK => ?_⟩
              have e7 : a.tmps[7]? = some (.pointer (some ⟨gb287, 0, none⟩)) := by rw [ha]; exact (putSel_off rfl).trans rfl
              replace ha := Aside0.mk ha
              have HO282 := Aside0.mk Q_HO282
              have BK276 := Aside0.mk (Q_BK276 (hoff 13 (by kernel_rfl)))
              have BK287 := Aside0.mk Q_BK287
              have HB := Aside0.mk Q_HB
              have hc0_ : w'.cell? ⟨gb287, 0, none⟩ = some (.string t284) := (blk_cell BK287.out 0).trans rfl
              have hc1_ : w'.cell? ⟨gb287, 1, none⟩ = some (.string t285) := (blk_cell BK287.out 1).trans rfl
              refine value_ (w1 := w') (v := .agg #[.string t284, .string t285]) (by rfl) rfl ?_ ?_
              · go_simp
                (try simp only [i64_w])
                try rfl
              refine hK.out _ _ ⟨v291, adz_v291, v294, adz_v294, m8_, m10_, (by rw [ha.out]; exact putSel_upk 0 hb_ rfl rfl rfl), Q_HO282, Q_BK276, Q_BK287, Q_HI279, Q_HB, Q_HI279_e3, Q_HO292, Q_HA_HO292, Q_HO295, Q_HA_HO295, Q_HI279_e7, fun h0_ => absurd ((hoff 13 (by kernel_rfl)).symm.trans h0_) (by decide), Q_X8_, Q_X10_⟩
            refine steps_cons ?_ ?_
            · rintro b a w' ⟨v291, adz_v291, v294, adz_v294, m8_, m10_, ha, Q_HO282, Q_BK276, Q_BK287, Q_HI279, Q_HB, Q_HI279_e3, Q_HO292, Q_HA_HO292, Q_HO295, Q_HA_HO295, Q_HI279_e7, Q_BK276_e13, Q_X8_, Q_X10_⟩ hb_ hon hoff
              refine ⟨_, rfl, fun K hK => ?_⟩
              have e16 : a.tmps[16]? = some (.pointer (some ⟨g279, 0, none⟩)) := by rw [ha]; exact (putSel_off rfl).trans rfl
              replace ha := Aside0.mk ha
              have HO282 := Aside0.mk Q_HO282
              have BK276 := Aside0.mk (Q_BK276 (hoff 13 (by kernel_rfl)))
              have BK287 := Aside0.mk Q_BK287
              have HI279 := Aside0.mk (Q_HI279 hb_)
              have HB := Aside0.mk Q_HB
              refine goes_ Try.func56 (by kernel_rfl) rfl #[.pointer (some ⟨g279, 0, none⟩), .int .i64 6] (by rfl) rfl rfl (by first | (simp only [List.map_toArray, List.map_cons, List.map_nil, Act.eval, Array.getD_eq_getD_getElem?, Option.getD_some, e16]; done) | (simp only [List.map_toArray, List.map_cons, List.map_nil, Act.eval, Array.getD_eq_getD_getElem?, Option.getD_some, e16]; rfl)) ?_
              with_reducible refine (spec_l20Rd_pick.calls k g279 t277 t286 6 t288 t289 w _ ?side1 ?side2 A5.out).mono ?_
              (case side1 => repeat (first | (with_reducible first | exact HI279.out | apply IsS73.alloc | apply IsS73.drewN | apply IsS73.drew | apply IsS73.set_1 | refine IsS73.far ?_ NB279_276.out _ | refine IsS73.far ?_ NB279_287.out _) | exact HI279.out))
              (case side2 => repeat (first | (with_reducible first | exact HB.out | apply below_alloc | apply pw_below_drewN | apply below_drew1 | refine below_set ?_ (IsS73.ge HI279.out) | refine below_set ?_ GE276.out | refine below_set ?_ GE287.out) | exact HB.out))
              rintro e w21 ⟨rfl, hi, hb, hk⟩
              refine ⟨_, rfl, ?_⟩
              have n0_ := Aside0.mk (KeepBut.blk hk (g' := gb276) (o := .cells #[.string (⟨#[]⟩ : ByteArray), .string (⟨#[]⟩ : ByteArray)] 36 (0, 0)) (by (with_reducible repeat (first | refine blk_drewN ?_ _ | refine blk_drew ?_ | refine blk_alloc ?_ _)); exact BK276.out) NB276_279.out (by simp))
              have n1_ := Aside0.mk (Kd.R_mono (Kd.R_keep (IsS73.apart (show IsS73 w _ g279 t277 t286 from by repeat (first | (with_reducible first | exact HI279.out | apply IsS73.alloc | apply IsS73.drewN | apply IsS73.drew | apply IsS73.set_1 | refine IsS73.far ?_ NB279_276.out _ | refine IsS73.far ?_ NB279_287.out _) | exact HI279.out)) (by (with_reducible repeat (first | apply Kd.R_alloc | apply Kd.R_drewN | apply Kd.R_drew)); exact HO282.out) (by decide)) hk (fun _ h => h.2)) (fun _ h => h.1))
              have n2_ := Aside0.mk (KeepBut.blk hk (g' := gb287) (o := .cells #[.string t284, .string t285] 36 (0, 0)) (by (with_reducible repeat (first | refine blk_drewN ?_ _ | refine blk_drew ?_ | refine blk_alloc ?_ _)); exact BK287.out) NB287_279.out (by simp))
              have n3_ := Aside0.mk (hb)
              have n4_ := Aside0.mk (hi)
              have z_HO295 := fun (h0_ : b 5 = true) => (show Kd.R (Kd.int .i64) 3 w21 w.heap.size (fun _ => True) v294 y293 from by first | exact (Kd.R_mono (Kd.R_keep (IsS73.apart (show IsS73 w _ g279 t277 t286 from by repeat (first | (with_reducible first | exact HI279.out | apply IsS73.alloc | apply IsS73.drewN | apply IsS73.drew | apply IsS73.set_1 | refine IsS73.far ?_ NB279_276.out _ | refine IsS73.far ?_ NB279_287.out _) | exact HI279.out)) (by (with_reducible repeat (first | apply Kd.R_alloc | apply Kd.R_drewN | apply Kd.R_drew)); exact (Q_HO295 h0_)) (by decide)) hk (fun _ h => h.2)) (fun _ h => h.1)) | exact Kd.R_mono (Kd.R_mono (Kd.R_keep (IsS73.apart (show IsS73 w _ g279 t277 t286 from by repeat (first | (with_reducible first | exact HI279.out | apply IsS73.alloc | apply IsS73.drewN | apply IsS73.drew | apply IsS73.set_1 | refine IsS73.far ?_ NB279_276.out _ | refine IsS73.far ?_ NB279_287.out _) | exact HI279.out)) (by (with_reducible repeat (first | apply Kd.R_alloc | apply Kd.R_drewN | apply Kd.R_drew)); exact (Q_HO295 h0_)) (by decide)) hk (fun _ h => h.2)) (fun _ h => h.1)) (fun _ h_ => by first | trivial | exact h_ | exact h_.1))
              clear BK276
              clear HO282
              clear BK287
              clear HB
              clear HI279
              have BK276 := n0_
              have HO282 := n1_
              have BK287 := n2_
              have HB := n3_
              have HI279 := n4_
              clear n0_ n1_ n2_ n3_ n4_
              (try clear hb)
              (try clear hb2)
              (try clear hk)
              (try clear hi)
              refine hK.out _ _ ⟨v291, adz_v291, v294, adz_v294, m8_, m10_, (by rw [ha.out]; exact putSel_upk 1 hb_ rfl rfl rfl), (by (with_reducible repeat (first | apply Kd.R_alloc | apply Kd.R_drewN | apply Kd.R_drew)); exact HO282.out), fun _ => (by (with_reducible repeat (first | refine blk_drewN ?_ _ | refine blk_drew ?_ | refine blk_alloc ?_ _)); exact BK276.out), (by (with_reducible repeat (first | refine blk_drewN ?_ _ | refine blk_drew ?_ | refine blk_alloc ?_ _)); exact BK287.out), fun h0_ => absurd ((up_self b 3).symm.trans h0_) (by decide), (by repeat (first | (with_reducible first | exact HB.out | apply below_alloc | apply pw_below_drewN | apply below_drew1 | refine below_set ?_ (IsS73.ge HI279.out) | refine below_set ?_ GE276.out | refine below_set ?_ GE287.out) | exact HB.out)), fun _ _ => (by repeat (first | (with_reducible first | exact HI279.out | apply IsS73.alloc | apply IsS73.drewN | apply IsS73.drew | apply IsS73.set_1 | refine IsS73.far ?_ NB279_276.out _ | refine IsS73.far ?_ NB279_287.out _) | exact HI279.out)), fun h0_ => absurd ((hoff 4 (by kernel_rfl)).symm.trans h0_) (by decide), fun h0_ => absurd ((hoff 4 (by kernel_rfl)).symm.trans h0_) (by decide), z_HO295, Q_HA_HO295, fun h0_ => absurd ((hoff 7 (by kernel_rfl)).symm.trans h0_) (by decide), fun h0_ => absurd ((hoff 13 (by kernel_rfl)).symm.trans h0_) (by decide), fun h0_ => absurd ((hoff 8 (by kernel_rfl)).symm.trans h0_) (by decide), fun h0_ => absurd ((hoff 10 (by kernel_rfl)).symm.trans h0_) (by decide)⟩
            refine steps_cons ?_ ?_
            · rintro b a w' ⟨v291, adz_v291, v294, adz_v294, m8_, m10_, ha, Q_HO282, Q_BK276, Q_BK287, Q_HI279, Q_HB, Q_HI279_e3, Q_HO292, Q_HA_HO292, Q_HO295, Q_HA_HO295, Q_HI279_e7, Q_BK276_e13, Q_X8_, Q_X10_⟩ hb_ hon hoff
              refine ⟨_, rfl, fun K hK => ?_⟩
              have e17 : a.tmps[17]? = some (.int .i64 t288) := by rw [ha]; exact putSel_on (e := (3, 17, .int .i64 t288)) 1 rfl rfl (hon 3 (by kernel_rfl)) rfl
              replace ha := Aside0.mk ha
              have HO282 := Aside0.mk Q_HO282
              have BK287 := Aside0.mk Q_BK287
              have HB := Aside0.mk Q_HB
              refine Kd.R_lit_step (Kd.int .i64) _ 3 ?hg (N := 18) ?hd (xs := ([t288, 48, 49, (-1)] : List Int)) (inner := [.int .i64 t288, .int .i64 48, .int .i64 49, .int .i64 (-1)]) (ok := fun _ => True) (okp := fun _ => True) ?hr ?hp (fun _ hk => hk) trivial (Below.refl _ _) (Nat.le_refl _) (by simp) ?_; (case hd => rfl); (case hg => rfl); (case hr => first | (go_simp; done) | (go_simp; rfl)); (case hp => exact (Reps.one (show Kd.M (Kd.int .i64) _ _ _ t288 [.int .i64 t288] from rfl) (Reps.one (show Kd.M (Kd.int .i64) _ _ _ 48 [.int .i64 48] from rfl) (Reps.one (show Kd.M (Kd.int .i64) _ _ _ 49 [.int .i64 49] from rfl) (Reps.one (show Kd.M (Kd.int .i64) _ _ _ (-1) [.int .i64 (-1)] from rfl) (Reps.none _ _))))))
              intro v291 w23 ho24 hb hg_ hnew_
              clear hg_ hnew_
              (first | rw [← Ny290.out] at ho24 | (simp only [Int.reduceToNat] at ho24; rw [← Ny290.out] at ho24))
              have n0_ := Aside0.mk (Kd.R_below (by (with_reducible repeat (first | apply Kd.R_alloc | apply Kd.R_drewN | apply Kd.R_drew)); exact HO282.out) hb)
              have n1_ := Aside0.mk (Kd.R_lower ho24 (below_size (by repeat (first | (with_reducible first | exact HB.out | apply below_alloc | apply pw_below_drewN | apply below_drew1 | refine below_set ?_ GE276.out | refine below_set ?_ GE287.out) | exact HB.out))))
              have n4_ := Aside0.mk (blk_below (g := gb287) (o := .cells #[.string t284, .string t285] 36 (0, 0)) (by (with_reducible repeat (first | refine blk_drewN ?_ _ | refine blk_drew ?_ | refine blk_alloc ?_ _)); exact BK287.out) hb)
              have n5_ := Aside0.mk (below_step (by repeat (first | (with_reducible first | exact HB.out | apply below_alloc | apply pw_below_drewN | apply below_drew1 | refine below_set ?_ GE276.out | refine below_set ?_ GE287.out) | exact HB.out)) hb)
              have z_BK276 := fun (h0_ : b 13 = false) => (show w23.heap[gb276]? = some (.cells #[.string (⟨#[]⟩ : ByteArray), .string (⟨#[]⟩ : ByteArray)] 36 (0, 0)) from by first | exact (blk_below (g := gb276) (o := .cells #[.string (⟨#[]⟩ : ByteArray), .string (⟨#[]⟩ : ByteArray)] 36 (0, 0)) (by (with_reducible repeat (first | refine blk_drewN ?_ _ | refine blk_drew ?_ | refine blk_alloc ?_ _)); exact (Q_BK276 h0_)) hb))
              have z_HI279_e3 := fun (h0_ : b 3 = true) (h1_ : b 7 = false) => (show IsS73 w w23 g279 t277 t289 from by first | exact (IsS73.below (by repeat (first | (with_reducible first | exact (Q_HI279_e3 h0_ h1_) | apply IsS73.alloc | apply IsS73.drewN | apply IsS73.drew | apply IsS73.set_1 | refine IsS73.far ?_ NB279_276.out _ | refine IsS73.far ?_ NB279_287.out _) | exact (Q_HI279_e3 h0_ h1_))) hb))
              have z_HO295 := fun (h0_ : b 5 = true) => (show Kd.R (Kd.int .i64) 3 w23 w.heap.size (fun _ => True) v294 y293 from by first | exact (Kd.R_elder' (by (with_reducible repeat (first | apply Kd.R_alloc | apply Kd.R_drewN | apply Kd.R_drew)); exact (Q_HO295 h0_)) (Kd.R_base ho24) hb) | exact Kd.R_mono (Kd.R_elder' (by (with_reducible repeat (first | apply Kd.R_alloc | apply Kd.R_drewN | apply Kd.R_drew)); exact (Q_HO295 h0_)) (Kd.R_base ho24) hb) (fun _ h_ => by first | trivial | exact h_ | exact h_.1))
              have z_HI279_e7 := fun (h0_ : b 7 = true) => (show IsS73 w w23 g279 t277 t297 from by first | exact (IsS73.below (by repeat (first | (with_reducible first | exact (Q_HI279_e7 h0_) | apply IsS73.alloc | apply IsS73.drewN | apply IsS73.drew | apply IsS73.set_1 | refine IsS73.far ?_ NB279_276.out _ | refine IsS73.far ?_ NB279_287.out _) | exact (Q_HI279_e7 h0_))) hb))
              have z_BK276_e13 := fun (h0_ : b 13 = true) => (show w23.heap[gb276]? = some (.cells #[.string t284, .string t285] 36 (0, 0)) from by first | exact (blk_below (g := gb276) (o := .cells #[.string t284, .string t285] 36 (0, 0)) (by (with_reducible repeat (first | refine blk_drewN ?_ _ | refine blk_drew ?_ | refine blk_alloc ?_ _)); exact (Q_BK276_e13 h0_)) hb))
              clear HO282
              clear BK287
              clear HB
              have HO282 := n0_
              have HO292 := n1_
              have BK287 := n4_
              have HB := n5_
              clear n0_ n1_ n4_ n5_
              clear hb ho24
              obtain ⟨Ao25, co25, eo25⟩ := Kd.R_slice HO292.out
              subst eo25
              obtain ⟨ado25, fo25, _⟩ := Kd.at_int (Kd.R_reads' HO292.out).2.2 0 (by decide) (by rw [Ny290.out]; simp)
              cases fo25
              refine hK.out _ _ ⟨.slice (some ado25) y290.length co25, ado25, v294, adz_v294, m8_, m10_, (by rw [ha.out]; exact putSel_upk 2 hb_ rfl rfl rfl), (by (with_reducible repeat (first | apply Kd.R_alloc | apply Kd.R_drewN | apply Kd.R_drew)); exact HO282.out), z_BK276, (by (with_reducible repeat (first | refine blk_drewN ?_ _ | refine blk_drew ?_ | refine blk_alloc ?_ _)); exact BK287.out), fun h0_ => absurd ((hon 3 (by kernel_rfl)).symm.trans h0_) (by decide), (by repeat (first | (with_reducible first | exact HB.out | apply below_alloc | apply pw_below_drewN | apply below_drew1 | refine below_set ?_ GE276.out | refine below_set ?_ GE287.out) | exact HB.out)), z_HI279_e3, fun _ => (by (with_reducible repeat (first | apply Kd.R_alloc | apply Kd.R_drewN | apply Kd.R_drew)); exact HO292.out), fun _ => ⟨_, rfl⟩, z_HO295, Q_HA_HO295, z_HI279_e7, z_BK276_e13, Q_X8_, fun h0_ => absurd ((hoff 10 (by kernel_rfl)).symm.trans h0_) (by decide)⟩
            refine steps_cons ?_ ?_
            · rintro b a w' ⟨v291, adz_v291, v294, adz_v294, m8_, m10_, ha, Q_HO282, Q_BK276, Q_BK287, Q_HI279, Q_HB, Q_HI279_e3, Q_HO292, Q_HA_HO292, Q_HO295, Q_HA_HO295, Q_HI279_e7, Q_BK276_e13, Q_X8_, Q_X10_⟩ hb_ hon hoff
              refine ⟨_, rfl, fun K hK => ?_⟩
              replace ha := Aside0.mk ha
              have HO282 := Aside0.mk Q_HO282
              have BK287 := Aside0.mk Q_BK287
              have HB := Aside0.mk Q_HB
              refine Kd.R_lit_step (Kd.int .i64) _ 3 ?hg (N := 19) ?hd (xs := ([0, 0, 0, 0, 1, 1, 2, 3] : List Int)) (inner := [.int .i64 0, .int .i64 0, .int .i64 0, .int .i64 0, .int .i64 1, .int .i64 1, .int .i64 2, .int .i64 3]) (ok := fun _ => True) (okp := fun _ => True) ?hr ?hp (fun _ hk => hk) trivial (Below.refl _ _) (Nat.le_refl _) (by simp) ?_; (case hd => rfl); (case hg => rfl); (case hr => first | (go_simp; done) | (go_simp; rfl)); (case hp => exact (Reps.one (show Kd.M (Kd.int .i64) _ _ _ 0 [.int .i64 0] from rfl) (Reps.one (show Kd.M (Kd.int .i64) _ _ _ 0 [.int .i64 0] from rfl) (Reps.one (show Kd.M (Kd.int .i64) _ _ _ 0 [.int .i64 0] from rfl) (Reps.one (show Kd.M (Kd.int .i64) _ _ _ 0 [.int .i64 0] from rfl) (Reps.one (show Kd.M (Kd.int .i64) _ _ _ 1 [.int .i64 1] from rfl) (Reps.one (show Kd.M (Kd.int .i64) _ _ _ 1 [.int .i64 1] from rfl) (Reps.one (show Kd.M (Kd.int .i64) _ _ _ 2 [.int .i64 2] from rfl) (Reps.one (show Kd.M (Kd.int .i64) _ _ _ 3 [.int .i64 3] from rfl) (Reps.none _ _))))))))))
              intro v294 w21 ho22 hb hg_ hnew_
              clear hg_ hnew_
              (first | rw [← Ny293.out] at ho22 | (simp only [Int.reduceToNat] at ho22; rw [← Ny293.out] at ho22))
              have n0_ := Aside0.mk (Kd.R_below (by (with_reducible repeat (first | apply Kd.R_alloc | apply Kd.R_drewN | apply Kd.R_drew)); exact HO282.out) hb)
              have n1_ := Aside0.mk (Kd.R_lower ho22 (below_size (by repeat (first | (with_reducible first | exact HB.out | apply below_alloc | apply pw_below_drewN | apply below_drew1 | refine below_set ?_ GE276.out | refine below_set ?_ GE287.out) | exact HB.out))))
              have n4_ := Aside0.mk (blk_below (g := gb287) (o := .cells #[.string t284, .string t285] 36 (0, 0)) (by (with_reducible repeat (first | refine blk_drewN ?_ _ | refine blk_drew ?_ | refine blk_alloc ?_ _)); exact BK287.out) hb)
              have n5_ := Aside0.mk (below_step (by repeat (first | (with_reducible first | exact HB.out | apply below_alloc | apply pw_below_drewN | apply below_drew1 | refine below_set ?_ GE276.out | refine below_set ?_ GE287.out) | exact HB.out)) hb)
              have z_BK276 := fun (h0_ : b 13 = false) => (show w21.heap[gb276]? = some (.cells #[.string (⟨#[]⟩ : ByteArray), .string (⟨#[]⟩ : ByteArray)] 36 (0, 0)) from by first | exact (blk_below (g := gb276) (o := .cells #[.string (⟨#[]⟩ : ByteArray), .string (⟨#[]⟩ : ByteArray)] 36 (0, 0)) (by (with_reducible repeat (first | refine blk_drewN ?_ _ | refine blk_drew ?_ | refine blk_alloc ?_ _)); exact (Q_BK276 h0_)) hb))
              have z_HI279 := fun (h0_ : b 3 = false) => (show IsS73 w w21 g279 t277 t286 from by first | exact (IsS73.below (by repeat (first | (with_reducible first | exact (Q_HI279 h0_) | apply IsS73.alloc | apply IsS73.drewN | apply IsS73.drew | apply IsS73.set_1 | refine IsS73.far ?_ NB279_276.out _ | refine IsS73.far ?_ NB279_287.out _) | exact (Q_HI279 h0_))) hb))
              have z_HI279_e3 := fun (h0_ : b 3 = true) (h1_ : b 7 = false) => (show IsS73 w w21 g279 t277 t289 from by first | exact (IsS73.below (by repeat (first | (with_reducible first | exact (Q_HI279_e3 h0_ h1_) | apply IsS73.alloc | apply IsS73.drewN | apply IsS73.drew | apply IsS73.set_1 | refine IsS73.far ?_ NB279_276.out _ | refine IsS73.far ?_ NB279_287.out _) | exact (Q_HI279_e3 h0_ h1_))) hb))
              have z_HO292 := fun (h0_ : b 4 = true) => (show Kd.R (Kd.int .i64) 3 w21 w.heap.size (fun _ => True) v291 y290 from by first | exact (Kd.R_elder' (by (with_reducible repeat (first | apply Kd.R_alloc | apply Kd.R_drewN | apply Kd.R_drew)); exact (Q_HO292 h0_)) (Kd.R_base ho22) hb) | exact Kd.R_mono (Kd.R_elder' (by (with_reducible repeat (first | apply Kd.R_alloc | apply Kd.R_drewN | apply Kd.R_drew)); exact (Q_HO292 h0_)) (Kd.R_base ho22) hb) (fun _ h_ => by first | trivial | exact h_ | exact h_.1))
              have z_HI279_e7 := fun (h0_ : b 7 = true) => (show IsS73 w w21 g279 t277 t297 from by first | exact (IsS73.below (by repeat (first | (with_reducible first | exact (Q_HI279_e7 h0_) | apply IsS73.alloc | apply IsS73.drewN | apply IsS73.drew | apply IsS73.set_1 | refine IsS73.far ?_ NB279_276.out _ | refine IsS73.far ?_ NB279_287.out _) | exact (Q_HI279_e7 h0_))) hb))
              have z_BK276_e13 := fun (h0_ : b 13 = true) => (show w21.heap[gb276]? = some (.cells #[.string t284, .string t285] 36 (0, 0)) from by first | exact (blk_below (g := gb276) (o := .cells #[.string t284, .string t285] 36 (0, 0)) (by (with_reducible repeat (first | refine blk_drewN ?_ _ | refine blk_drew ?_ | refine blk_alloc ?_ _)); exact (Q_BK276_e13 h0_)) hb))
              clear HO282
              clear BK287
              clear HB
              have HO282 := n0_
              have HO295 := n1_
              have BK287 := n4_
              have HB := n5_
              clear n0_ n1_ n4_ n5_
              clear hb ho22
              obtain ⟨Ao23, co23, eo23⟩ := Kd.R_slice HO295.out
              subst eo23
              obtain ⟨ado23, fo23, _⟩ := Kd.at_int (Kd.R_reads' HO295.out).2.2 0 (by decide) (by rw [Ny293.out]; simp)
              cases fo23
              refine hK.out _ _ ⟨v291, adz_v291, .slice (some ado23) y293.length co23, ado23, m8_, m10_, (by rw [ha.out]; exact putSel_upk 3 hb_ rfl rfl rfl), (by (with_reducible repeat (first | apply Kd.R_alloc | apply Kd.R_drewN | apply Kd.R_drew)); exact HO282.out), z_BK276, (by (with_reducible repeat (first | refine blk_drewN ?_ _ | refine blk_drew ?_ | refine blk_alloc ?_ _)); exact BK287.out), z_HI279, (by repeat (first | (with_reducible first | exact HB.out | apply below_alloc | apply pw_below_drewN | apply below_drew1 | refine below_set ?_ GE276.out | refine below_set ?_ GE287.out) | exact HB.out)), z_HI279_e3, z_HO292, Q_HA_HO292, fun _ => (by (with_reducible repeat (first | apply Kd.R_alloc | apply Kd.R_drewN | apply Kd.R_drew)); exact HO295.out), fun _ => ⟨_, rfl⟩, z_HI279_e7, z_BK276_e13, fun h0_ => absurd ((hoff 8 (by kernel_rfl)).symm.trans h0_) (by decide), fun h0_ => absurd ((hoff 10 (by kernel_rfl)).symm.trans h0_) (by decide)⟩
            refine steps_cons ?_ ?_
            · rintro b a w' ⟨v291, adz_v291, v294, adz_v294, m8_, m10_, ha, Q_HO282, Q_BK276, Q_BK287, Q_HI279, Q_HB, Q_HI279_e3, Q_HO292, Q_HA_HO292, Q_HO295, Q_HA_HO295, Q_HI279_e7, Q_BK276_e13, Q_X8_, Q_X10_⟩ hb_ hon hoff
              refine ⟨_, rfl, fun K hK => ?_⟩
              have e20 : a.tmps[20]? = some (.pointer (some ⟨g279, 0, none⟩)) := by rw [ha]; exact (putSel_off rfl).trans rfl
              replace ha := Aside0.mk ha
              have HO282 := Aside0.mk Q_HO282
              have BK276 := Aside0.mk (Q_BK276 (hoff 13 (by kernel_rfl)))
              have BK287 := Aside0.mk Q_BK287
              have HB := Aside0.mk Q_HB
              have HI279 := Aside0.mk (Q_HI279_e3 (hon 3 (by kernel_rfl)) hb_)
              refine goes_ Try.func56 (by kernel_rfl) rfl #[.pointer (some ⟨g279, 0, none⟩), .int .i64 8] (by rfl) rfl rfl (by first | (simp only [List.map_toArray, List.map_cons, List.map_nil, Act.eval, Array.getD_eq_getD_getElem?, Option.getD_some, e20]; done) | (simp only [List.map_toArray, List.map_cons, List.map_nil, Act.eval, Array.getD_eq_getD_getElem?, Option.getD_some, e20]; rfl)) ?_
              with_reducible refine (spec_l20Rd_pick.calls k g279 t277 t289 8 t296 t297 w _ ?side1 ?side2 A6.out).mono ?_
              (case side1 => repeat (first | (with_reducible first | exact HI279.out | apply IsS73.alloc | apply IsS73.drewN | apply IsS73.drew | apply IsS73.set_1 | refine IsS73.far ?_ NB279_276.out _ | refine IsS73.far ?_ NB279_287.out _) | exact HI279.out))
              (case side2 => repeat (first | (with_reducible first | exact HB.out | apply below_alloc | apply pw_below_drewN | apply below_drew1 | refine below_set ?_ (IsS73.ge HI279.out) | refine below_set ?_ GE276.out | refine below_set ?_ GE287.out) | exact HB.out))
              rintro e w23 ⟨rfl, hi, hb, hk⟩
              refine ⟨_, rfl, ?_⟩
              have n0_ := Aside0.mk (KeepBut.blk hk (g' := gb276) (o := .cells #[.string (⟨#[]⟩ : ByteArray), .string (⟨#[]⟩ : ByteArray)] 36 (0, 0)) (by (with_reducible repeat (first | refine blk_drewN ?_ _ | refine blk_drew ?_ | refine blk_alloc ?_ _)); exact BK276.out) NB276_279.out (by simp))
              have n1_ := Aside0.mk (Kd.R_mono (Kd.R_keep (IsS73.apart (show IsS73 w _ g279 t277 t289 from by repeat (first | (with_reducible first | exact HI279.out | apply IsS73.alloc | apply IsS73.drewN | apply IsS73.drew | apply IsS73.set_1 | refine IsS73.far ?_ NB279_276.out _ | refine IsS73.far ?_ NB279_287.out _) | exact HI279.out)) (by (with_reducible repeat (first | apply Kd.R_alloc | apply Kd.R_drewN | apply Kd.R_drew)); exact HO282.out) (by decide)) hk (fun _ h => h.2)) (fun _ h => h.1))
              have n2_ := Aside0.mk (KeepBut.blk hk (g' := gb287) (o := .cells #[.string t284, .string t285] 36 (0, 0)) (by (with_reducible repeat (first | refine blk_drewN ?_ _ | refine blk_drew ?_ | refine blk_alloc ?_ _)); exact BK287.out) NB287_279.out (by simp))
              have n3_ := Aside0.mk (hb)
              have n4_ := Aside0.mk (hi)
              have z_HO292 := fun (h0_ : b 4 = true) => (show Kd.R (Kd.int .i64) 3 w23 w.heap.size (fun _ => True) v291 y290 from by first | exact (Kd.R_mono (Kd.R_keep (IsS73.apart (show IsS73 w _ g279 t277 t289 from by repeat (first | (with_reducible first | exact HI279.out | apply IsS73.alloc | apply IsS73.drewN | apply IsS73.drew | apply IsS73.set_1 | refine IsS73.far ?_ NB279_276.out _ | refine IsS73.far ?_ NB279_287.out _) | exact HI279.out)) (by (with_reducible repeat (first | apply Kd.R_alloc | apply Kd.R_drewN | apply Kd.R_drew)); exact (Q_HO292 h0_)) (by decide)) hk (fun _ h => h.2)) (fun _ h => h.1)) | exact Kd.R_mono (Kd.R_mono (Kd.R_keep (IsS73.apart (show IsS73 w _ g279 t277 t289 from by repeat (first | (with_reducible first | exact HI279.out | apply IsS73.alloc | apply IsS73.drewN | apply IsS73.drew | apply IsS73.set_1 | refine IsS73.far ?_ NB279_276.out _ | refine IsS73.far ?_ NB279_287.out _) | exact HI279.out)) (by (with_reducible repeat (first | apply Kd.R_alloc | apply Kd.R_drewN | apply Kd.R_drew)); exact (Q_HO292 h0_)) (by decide)) hk (fun _ h => h.2)) (fun _ h => h.1)) (fun _ h_ => by first | trivial | exact h_ | exact h_.1))
              have z_HO295 := fun (h0_ : b 5 = true) => (show Kd.R (Kd.int .i64) 3 w23 w.heap.size (fun _ => True) v294 y293 from by first | exact (Kd.R_mono (Kd.R_keep (IsS73.apart (show IsS73 w _ g279 t277 t289 from by repeat (first | (with_reducible first | exact HI279.out | apply IsS73.alloc | apply IsS73.drewN | apply IsS73.drew | apply IsS73.set_1 | refine IsS73.far ?_ NB279_276.out _ | refine IsS73.far ?_ NB279_287.out _) | exact HI279.out)) (by (with_reducible repeat (first | apply Kd.R_alloc | apply Kd.R_drewN | apply Kd.R_drew)); exact (Q_HO295 h0_)) (by decide)) hk (fun _ h => h.2)) (fun _ h => h.1)) | exact Kd.R_mono (Kd.R_mono (Kd.R_keep (IsS73.apart (show IsS73 w _ g279 t277 t289 from by repeat (first | (with_reducible first | exact HI279.out | apply IsS73.alloc | apply IsS73.drewN | apply IsS73.drew | apply IsS73.set_1 | refine IsS73.far ?_ NB279_276.out _ | refine IsS73.far ?_ NB279_287.out _) | exact HI279.out)) (by (with_reducible repeat (first | apply Kd.R_alloc | apply Kd.R_drewN | apply Kd.R_drew)); exact (Q_HO295 h0_)) (by decide)) hk (fun _ h => h.2)) (fun _ h => h.1)) (fun _ h_ => by first | trivial | exact h_ | exact h_.1))
              clear BK276
              clear HO282
              clear BK287
              clear HB
              clear HI279
              have BK276 := n0_
              have HO282 := n1_
              have BK287 := n2_
              have HB := n3_
              have HI279 := n4_
              clear n0_ n1_ n2_ n3_ n4_
              (try clear hb)
              (try clear hb2)
              (try clear hk)
              (try clear hi)
              refine hK.out _ _ ⟨v291, adz_v291, v294, adz_v294, m8_, m10_, (by rw [ha.out]; exact putSel_upk 4 hb_ rfl rfl rfl), (by (with_reducible repeat (first | apply Kd.R_alloc | apply Kd.R_drewN | apply Kd.R_drew)); exact HO282.out), fun _ => (by (with_reducible repeat (first | refine blk_drewN ?_ _ | refine blk_drew ?_ | refine blk_alloc ?_ _)); exact BK276.out), (by (with_reducible repeat (first | refine blk_drewN ?_ _ | refine blk_drew ?_ | refine blk_alloc ?_ _)); exact BK287.out), fun h0_ => absurd ((hon 3 (by kernel_rfl)).symm.trans h0_) (by decide), (by repeat (first | (with_reducible first | exact HB.out | apply below_alloc | apply pw_below_drewN | apply below_drew1 | refine below_set ?_ (IsS73.ge HI279.out) | refine below_set ?_ GE276.out | refine below_set ?_ GE287.out) | exact HB.out)), fun _ h1_ => absurd ((up_self b 7).symm.trans h1_) (by decide), z_HO292, Q_HA_HO292, z_HO295, Q_HA_HO295, fun _ => (by repeat (first | (with_reducible first | exact HI279.out | apply IsS73.alloc | apply IsS73.drewN | apply IsS73.drew | apply IsS73.set_1 | refine IsS73.far ?_ NB279_276.out _ | refine IsS73.far ?_ NB279_287.out _) | exact HI279.out)), fun h0_ => absurd ((hoff 13 (by kernel_rfl)).symm.trans h0_) (by decide), fun h0_ => absurd ((hoff 8 (by kernel_rfl)).symm.trans h0_) (by decide), fun h0_ => absurd ((hoff 10 (by kernel_rfl)).symm.trans h0_) (by decide)⟩
            refine steps_cons ?_ ?_
            · rintro b a w' ⟨v291, adz_v291, v294, adz_v294, m8_, m10_, ha, Q_HO282, Q_BK276, Q_BK287, Q_HI279, Q_HB, Q_HI279_e3, Q_HO292, Q_HA_HO292, Q_HO295, Q_HA_HO295, Q_HI279_e7, Q_BK276_e13, Q_X8_, Q_X10_⟩ hb_ hon hoff
              refine ⟨_, rfl, fun K hK => ?_⟩
              have e19 : a.tmps[19]? = some (v294) := by rw [ha]; exact putSel_on (e := (5, 19, v294)) 3 rfl rfl (hon 5 (by kernel_rfl)) rfl
              have e21 : a.tmps[21]? = some (.int .i64 t296) := by rw [ha]; exact putSel_on (e := (7, 21, .int .i64 t296)) 4 rfl rfl (hon 7 (by kernel_rfl)) rfl
              replace ha := Aside0.mk ha
              have HO282 := Aside0.mk Q_HO282
              have BK287 := Aside0.mk Q_BK287
              have HB := Aside0.mk Q_HB
              have HO295 := Aside0.mk (Q_HO295 (hon 5 (by kernel_rfl)))
              have HA_HO295 := Aside0.mk (Q_HA_HO295 (hon 5 (by kernel_rfl)))
              have HI279 := Aside0.mk (Q_HI279_e7 (hon 7 (by kernel_rfl)))
              obtain ⟨c_, hv_⟩ := HA_HO295.out
              rw [hv_] at e19
              refine value_ (w1 := w') (v := .pointer (some (adz_v294.add (t296).toNat))) (by rfl) rfl ?_ ?_
              · go_simp
                (try simp only [i64_w])
                try rfl
              refine hK.out _ _ ⟨v291, adz_v291, v294, adz_v294, (.pointer (some (adz_v294.add (t296).toNat))), m10_, (by rw [ha.out]; exact putSel_upk 5 hb_ rfl rfl rfl), Q_HO282, Q_BK276, Q_BK287, fun h0_ => absurd ((hon 3 (by kernel_rfl)).symm.trans h0_) (by decide), Q_HB, fun _ h1_ => absurd ((hon 7 (by kernel_rfl)).symm.trans h1_) (by decide), Q_HO292, Q_HA_HO292, Q_HO295, Q_HA_HO295, Q_HI279_e7, Q_BK276_e13, fun _ => rfl, fun h0_ => absurd ((hoff 10 (by kernel_rfl)).symm.trans h0_) (by decide)⟩
            refine steps_cons ?_ ?_
            · rintro b a w' ⟨v291, adz_v291, v294, adz_v294, m8_, m10_, ha, Q_HO282, Q_BK276, Q_BK287, Q_HI279, Q_HB, Q_HI279_e3, Q_HO292, Q_HA_HO292, Q_HO295, Q_HA_HO295, Q_HI279_e7, Q_BK276_e13, Q_X8_, Q_X10_⟩ hb_ hon hoff
              refine ⟨_, rfl, fun K hK => ?_⟩
              have e22 : a.tmps[22]? = some (m8_) := by rw [ha]; exact putSel_on (e := (8, 22, m8_)) 5 rfl rfl (hon 8 (by kernel_rfl)) rfl
              rw [Q_X8_ (hon 8 (by kernel_rfl))] at e22
              replace ha := Aside0.mk ha
              have HO282 := Aside0.mk Q_HO282
              have BK287 := Aside0.mk Q_BK287
              have HB := Aside0.mk Q_HB
              have HO295 := Aside0.mk (Q_HO295 (hon 5 (by kernel_rfl)))
              have HA_HO295 := Aside0.mk (Q_HA_HO295 (hon 5 (by kernel_rfl)))
              have HI279 := Aside0.mk (Q_HI279_e7 (hon 7 (by kernel_rfl)))
              obtain ⟨c_, hv_⟩ := HA_HO295.out
              have hF_ := HO295.out
              rw [hv_] at hF_
              obtain ⟨ad_, ea_, hx_⟩ := Kd.at_int (Kd.R_reads' hF_).2.2 t296 (of_eq_true pi298) (of_eq_true qi298)
              cases ea_
              refine value_ (w1 := w') (v := .int .i64 (rd y293 t296)) (by rfl) rfl ?_ ?_
              · go_simp
                (try simp only [i64_w])
                try rfl
              refine hK.out _ _ ⟨v291, adz_v291, v294, adz_v294, m8_, m10_, (by rw [ha.out]; exact putSel_upk 6 hb_ rfl rfl rfl), Q_HO282, Q_BK276, Q_BK287, fun h0_ => absurd ((hon 3 (by kernel_rfl)).symm.trans h0_) (by decide), Q_HB, fun _ h1_ => absurd ((hon 7 (by kernel_rfl)).symm.trans h1_) (by decide), Q_HO292, Q_HA_HO292, Q_HO295, Q_HA_HO295, Q_HI279_e7, Q_BK276_e13, Q_X8_, fun h0_ => absurd ((hoff 10 (by kernel_rfl)).symm.trans h0_) (by decide)⟩
            refine steps_cons ?_ ?_
            · rintro b a w' ⟨v291, adz_v291, v294, adz_v294, m8_, m10_, ha, Q_HO282, Q_BK276, Q_BK287, Q_HI279, Q_HB, Q_HI279_e3, Q_HO292, Q_HA_HO292, Q_HO295, Q_HA_HO295, Q_HI279_e7, Q_BK276_e13, Q_X8_, Q_X10_⟩ hb_ hon hoff
              refine ⟨_, rfl, fun K hK => ?_⟩
              have e18 : a.tmps[18]? = some (v291) := by rw [ha]; exact putSel_on (e := (4, 18, v291)) 2 rfl rfl (hon 4 (by kernel_rfl)) rfl
              have e23 : a.tmps[23]? = some (.int .i64 (rd y293 t296)) := by rw [ha]; exact putSel_on (e := (9, 23, .int .i64 (rd y293 t296))) 6 rfl rfl (hon 9 (by kernel_rfl)) rfl
              replace ha := Aside0.mk ha
              have HO282 := Aside0.mk Q_HO282
              have BK287 := Aside0.mk Q_BK287
              have HB := Aside0.mk Q_HB
              have HO292 := Aside0.mk (Q_HO292 (hon 4 (by kernel_rfl)))
              have HA_HO292 := Aside0.mk (Q_HA_HO292 (hon 4 (by kernel_rfl)))
              have HO295 := Aside0.mk (Q_HO295 (hon 5 (by kernel_rfl)))
              have HA_HO295 := Aside0.mk (Q_HA_HO295 (hon 5 (by kernel_rfl)))
              have HI279 := Aside0.mk (Q_HI279_e7 (hon 7 (by kernel_rfl)))
              obtain ⟨c_, hv_⟩ := HA_HO292.out
              rw [hv_] at e18
              refine value_ (w1 := w') (v := .pointer (some (adz_v291.add ((rd y293 t296)).toNat))) (by rfl) rfl ?_ ?_
              · go_simp
                (try simp only [i64_w])
                try rfl
              refine hK.out _ _ ⟨v291, adz_v291, v294, adz_v294, m8_, (.pointer (some (adz_v291.add ((rd y293 t296)).toNat))), (by rw [ha.out]; exact putSel_upk 7 hb_ rfl rfl rfl), Q_HO282, Q_BK276, Q_BK287, fun h0_ => absurd ((hon 3 (by kernel_rfl)).symm.trans h0_) (by decide), Q_HB, fun _ h1_ => absurd ((hon 7 (by kernel_rfl)).symm.trans h1_) (by decide), Q_HO292, Q_HA_HO292, Q_HO295, Q_HA_HO295, Q_HI279_e7, Q_BK276_e13, Q_X8_, fun _ => rfl⟩
            refine steps_cons ?_ ?_
            · rintro b a w' ⟨v291, adz_v291, v294, adz_v294, m8_, m10_, ha, Q_HO282, Q_BK276, Q_BK287, Q_HI279, Q_HB, Q_HI279_e3, Q_HO292, Q_HA_HO292, Q_HO295, Q_HA_HO295, Q_HI279_e7, Q_BK276_e13, Q_X8_, Q_X10_⟩ hb_ hon hoff
              refine ⟨_, rfl, fun K hK => ?_⟩
              have e24 : a.tmps[24]? = some (m10_) := by rw [ha]; exact putSel_on (e := (10, 24, m10_)) 7 rfl rfl (hon 10 (by kernel_rfl)) rfl
              rw [Q_X10_ (hon 10 (by kernel_rfl))] at e24
              replace ha := Aside0.mk ha
              have HO282 := Aside0.mk Q_HO282
              have BK287 := Aside0.mk Q_BK287
              have HB := Aside0.mk Q_HB
              have HO292 := Aside0.mk (Q_HO292 (hon 4 (by kernel_rfl)))
              have HA_HO292 := Aside0.mk (Q_HA_HO292 (hon 4 (by kernel_rfl)))
              have HO295 := Aside0.mk (Q_HO295 (hon 5 (by kernel_rfl)))
              have HA_HO295 := Aside0.mk (Q_HA_HO295 (hon 5 (by kernel_rfl)))
              have HI279 := Aside0.mk (Q_HI279_e7 (hon 7 (by kernel_rfl)))
              obtain ⟨c_, hv_⟩ := HA_HO292.out
              have hF_ := HO292.out
              rw [hv_] at hF_
              obtain ⟨ad_, ea_, hx_⟩ := Kd.at_int (Kd.R_reads' hF_).2.2 (rd y293 t296) (of_eq_true pi299) (of_eq_true qi299)
              cases ea_
              refine value_ (w1 := w') (v := .int .i64 (rd y290 (rd y293 t296))) (by rfl) rfl ?_ ?_
              · go_simp
                (try simp only [i64_w])
                try rfl
              refine hK.out _ _ ⟨v291, adz_v291, v294, adz_v294, m8_, m10_, (by rw [ha.out]; exact putSel_upk 8 hb_ rfl rfl rfl), Q_HO282, Q_BK276, Q_BK287, fun h0_ => absurd ((hon 3 (by kernel_rfl)).symm.trans h0_) (by decide), Q_HB, fun _ h1_ => absurd ((hon 7 (by kernel_rfl)).symm.trans h1_) (by decide), Q_HO292, Q_HA_HO292, Q_HO295, Q_HA_HO295, Q_HI279_e7, Q_BK276_e13, Q_X8_, Q_X10_⟩
            refine steps_cons ?_ ?_
            · rintro b a w' ⟨v291, adz_v291, v294, adz_v294, m8_, m10_, ha, Q_HO282, Q_BK276, Q_BK287, Q_HI279, Q_HB, Q_HI279_e3, Q_HO292, Q_HA_HO292, Q_HO295, Q_HA_HO295, Q_HI279_e7, Q_BK276_e13, Q_X8_, Q_X10_⟩ hb_ hon hoff
              refine ⟨_, rfl, fun K hK => ?_⟩
              have e14 : a.tmps[14]? = some (v281) := by rw [ha]; exact (putSel_off rfl).trans rfl
              replace ha := Aside0.mk ha
              have HO282 := Aside0.mk Q_HO282
              have BK276 := Aside0.mk (Q_BK276 (hoff 13 (by kernel_rfl)))
              have BK287 := Aside0.mk Q_BK287
              have HB := Aside0.mk Q_HB
              have HI279 := Aside0.mk (Q_HI279_e7 (hon 7 (by kernel_rfl)))
              refine value_ (w1 := w') (v := v281) (by rfl) rfl ?_ ?_
              · go_simp
                (try simp only [i64_w])
                try rfl
              refine hK.out _ _ ⟨v291, adz_v291, v294, adz_v294, m8_, m10_, (by rw [ha.out]; exact putSel_upk 9 hb_ rfl rfl rfl), Q_HO282, Q_BK276, Q_BK287, fun h0_ => absurd ((hon 3 (by kernel_rfl)).symm.trans h0_) (by decide), Q_HB, fun _ h1_ => absurd ((hon 7 (by kernel_rfl)).symm.trans h1_) (by decide), Q_HO292, Q_HA_HO292, Q_HO295, Q_HA_HO295, Q_HI279_e7, fun h0_ => absurd ((hoff 13 (by kernel_rfl)).symm.trans h0_) (by decide), Q_X8_, Q_X10_⟩
            refine steps_cons ?_ ?_
            · rintro b a w' ⟨v291, adz_v291, v294, adz_v294, m8_, m10_, ha, Q_HO282, Q_BK276, Q_BK287, Q_HI279, Q_HB, Q_HI279_e3, Q_HO292, Q_HA_HO292, Q_HO295, Q_HA_HO295, Q_HI279_e7, Q_BK276_e13, Q_X8_, Q_X10_⟩ hb_ hon hoff
              refine ⟨_, rfl, fun K hK => ?_⟩
              have e3 : a.tmps[3]? = some (.pointer (some ⟨gb276, 0, none⟩)) := by rw [ha]; exact (putSel_off rfl).trans rfl
              have e15 : a.tmps[15]? = some (.agg #[.string t284, .string t285]) := by rw [ha]; exact putSel_on (e := (1, 15, .agg #[.string t284, .string t285])) 0 rfl rfl (hon 1 (by kernel_rfl)) rfl
              replace ha := Aside0.mk ha
              have HO282 := Aside0.mk Q_HO282
              have BK276 := Aside0.mk (Q_BK276 hb_)
              have BK287 := Aside0.mk Q_BK287
              have HB := Aside0.mk Q_HB
              have HI279 := Aside0.mk (Q_HI279_e7 (hon 7 (by kernel_rfl)))
              have hs24 : w'.cell? ⟨gb276, 0, none⟩ = some (.string (⟨#[]⟩ : ByteArray)) := (blk_cell BK276.out 0).trans rfl
              have hfs24 := blk_frozen BK276.out 0
              have hns24_1 := NB287_276.out
              have hms24_1 := NB276_287.out
              have hs25 : w'.cell? ⟨gb276, 1, none⟩ = some (.string (⟨#[]⟩ : ByteArray)) := (blk_cell BK276.out 1).trans rfl
              have hfs25 := blk_frozen BK276.out 1
              have hns25_1 := NB287_276.out
              have hms25_1 := NB276_287.out
              refine skip_ (w1 := ?_) (by rfl) rfl ?_ ?_
              rotate_left
              · go_simp
                rfl
              refine hK.out _ _ ⟨v291, adz_v291, v294, adz_v294, m8_, m10_, (by rw [ha.out]; exact putSel_none (v := undef) rfl), (by (with_reducible repeat (first | apply Kd.R_alloc | apply Kd.R_drewN | apply Kd.R_drew)); exact Kd.R_mono (Kd.R_far (p := ⟨gb276, 1, none⟩) (Kd.R_far (p := ⟨gb276, 0, none⟩) (Kd.R_types HO282.out BK276.out (by decide)) (fun _ hk => hk.2) (.string t284)) (fun _ hk => hk.2) (.string t285)) (fun _ hk => trivial)), fun h0_ => absurd ((up_self b 13).symm.trans h0_) (by decide), (by (with_reducible repeat (first | refine blk_drewN ?_ _ | refine blk_drew ?_ | refine blk_alloc ?_ _)); refine blk_far ?_ NB287_276.out _; (with_reducible repeat (first | refine blk_drewN ?_ _ | refine blk_drew ?_ | refine blk_alloc ?_ _)); refine blk_far ?_ NB287_276.out _; (with_reducible repeat (first | refine blk_drewN ?_ _ | refine blk_drew ?_ | refine blk_alloc ?_ _)); exact BK287.out), fun h0_ => absurd ((hon 3 (by kernel_rfl)).symm.trans h0_) (by decide), (by repeat (first | (with_reducible first | exact HB.out | apply below_alloc | apply pw_below_drewN | apply below_drew1 | refine below_set ?_ (IsS73.ge HI279.out) | refine below_set ?_ GE276.out | refine below_set ?_ GE287.out) | exact HB.out)), fun _ h1_ => absurd ((hon 7 (by kernel_rfl)).symm.trans h1_) (by decide), fun h0_ => (by (with_reducible repeat (first | apply Kd.R_alloc | apply Kd.R_drewN | apply Kd.R_drew)); exact Kd.R_mono (Kd.R_far (p := ⟨gb276, 1, none⟩) (Kd.R_far (p := ⟨gb276, 0, none⟩) (Kd.R_types (Q_HO292 h0_) BK276.out (by decide)) (fun _ hk => hk.2) (.string t284)) (fun _ hk => hk.2) (.string t285)) (fun _ hk => trivial)), Q_HA_HO292, fun h0_ => (by (with_reducible repeat (first | apply Kd.R_alloc | apply Kd.R_drewN | apply Kd.R_drew)); exact Kd.R_mono (Kd.R_far (p := ⟨gb276, 1, none⟩) (Kd.R_far (p := ⟨gb276, 0, none⟩) (Kd.R_types (Q_HO295 h0_) BK276.out (by decide)) (fun _ hk => hk.2) (.string t284)) (fun _ hk => hk.2) (.string t285)) (fun _ hk => trivial)), Q_HA_HO295, fun _ => (by repeat (first | (with_reducible first | exact HI279.out | apply IsS73.alloc | apply IsS73.drewN | apply IsS73.drew | apply IsS73.set_1 | refine IsS73.far ?_ NB279_276.out _ | refine IsS73.far ?_ NB279_287.out _) | exact HI279.out)), fun _ => (by (with_reducible repeat (first | refine blk_drewN ?_ _ | refine blk_drew ?_ | refine blk_alloc ?_ _)); refine blk_put (cs := #[.string t284, .string (⟨#[]⟩ : ByteArray)]) ?_ 1 _ rfl; (with_reducible repeat (first | refine blk_drewN ?_ _ | refine blk_drew ?_ | refine blk_alloc ?_ _)); refine blk_put (cs := #[.string (⟨#[]⟩ : ByteArray), .string (⟨#[]⟩ : ByteArray)]) ?_ 0 _ rfl; (with_reducible repeat (first | refine blk_drewN ?_ _ | refine blk_drew ?_ | refine blk_alloc ?_ _)); exact BK276.out), Q_X8_, Q_X10_⟩
            refine steps_cons ?_ ?_
            · rintro b a w' ⟨v291, adz_v291, v294, adz_v294, m8_, m10_, ha, Q_HO282, Q_BK276, Q_BK287, Q_HI279, Q_HB, Q_HI279_e3, Q_HO292, Q_HA_HO292, Q_HO295, Q_HA_HO295, Q_HI279_e7, Q_BK276_e13, Q_X8_, Q_X10_⟩ hb_ hon hoff
              refine ⟨_, rfl, fun K hK => ?_⟩
              have e25 : a.tmps[25]? = some (.int .i64 (rd y290 (rd y293 t296))) := by rw [ha]; exact putSel_on (e := (11, 25, .int .i64 (rd y290 (rd y293 t296)))) 8 rfl rfl (hon 11 (by kernel_rfl)) rfl
              replace ha := Aside0.mk ha
              have HO282 := Aside0.mk Q_HO282
              have BK287 := Aside0.mk Q_BK287
              have HB := Aside0.mk Q_HB
              have HO292 := Aside0.mk (Q_HO292 (hon 4 (by kernel_rfl)))
              have HA_HO292 := Aside0.mk (Q_HA_HO292 (hon 4 (by kernel_rfl)))
              have HO295 := Aside0.mk (Q_HO295 (hon 5 (by kernel_rfl)))
              have HA_HO295 := Aside0.mk (Q_HA_HO295 (hon 5 (by kernel_rfl)))
              have HI279 := Aside0.mk (Q_HI279_e7 (hon 7 (by kernel_rfl)))
              have BK276 := Aside0.mk (Q_BK276_e13 (hon 13 (by kernel_rfl)))
              refine value_ (w1 := w') (v := .int .i64 (rd y290 (rd y293 t296))) (by rfl) rfl ?_ ?_
              · go_simp
                (try simp only [i64_w])
                try rfl
              refine hK.out _ _ ⟨v291, adz_v291, v294, adz_v294, m8_, m10_, (by rw [ha.out]; exact putSel_upk 10 hb_ rfl rfl rfl), Q_HO282, fun h0_ => absurd ((hon 13 (by kernel_rfl)).symm.trans h0_) (by decide), Q_BK287, fun h0_ => absurd ((hon 3 (by kernel_rfl)).symm.trans h0_) (by decide), Q_HB, fun _ h1_ => absurd ((hon 7 (by kernel_rfl)).symm.trans h1_) (by decide), Q_HO292, Q_HA_HO292, Q_HO295, Q_HA_HO295, Q_HI279_e7, Q_BK276_e13, Q_X8_, Q_X10_⟩
            exact steps_nil
          rintro b a w31 hall ⟨v291, adz_v291, v294, adz_v294, m8_, m10_, ha, Q_HO282, Q_BK276, Q_BK287, Q_HI279, Q_HB, Q_HI279_e3, Q_HO292, Q_HA_HO292, Q_HO295, Q_HA_HO295, Q_HI279_e7, Q_BK276_e13, Q_X8_, Q_X10_⟩
          clear BK276 BK287 HB HI279 HO282
          have hb1_ := hall 1 (by kernel_rfl)
          have hb3_ := hall 3 (by kernel_rfl)
          have hb4_ := hall 4 (by kernel_rfl)
          have hb5_ := hall 5 (by kernel_rfl)
          have hb7_ := hall 7 (by kernel_rfl)
          have hb8_ := hall 8 (by kernel_rfl)
          have hb9_ := hall 9 (by kernel_rfl)
          have hb10_ := hall 10 (by kernel_rfl)
          have hb11_ := hall 11 (by kernel_rfl)
          have hb12_ := hall 12 (by kernel_rfl)
          have hb13_ := hall 13 (by kernel_rfl)
          have hb14_ := hall 14 (by kernel_rfl)
          subst ha
          obtain rfl := Q_X8_ hb8_
          obtain rfl := Q_X10_ hb10_
          simp only [putSel, hb1_, hb3_, hb4_, hb5_, hb7_, hb8_, hb9_, hb10_, hb11_, hb12_, hb13_, hb14_, if_true, Act.put, List.setIfInBounds_toArray, List.set_cons_zero, List.set_cons_succ]
          have HO282 := Aside0.mk Q_HO282
          clear Q_HO282
          clear Q_BK276
          have BK287 := Aside0.mk Q_BK287
          clear Q_BK287
          clear Q_HI279
          have HB := Aside0.mk Q_HB
          clear Q_HB
          clear Q_HI279_e3
          have HO292 := Aside0.mk (Q_HO292 hb4_)
          clear Q_HO292
          have HA_HO292 := Aside0.mk (Q_HA_HO292 hb4_)
          clear Q_HA_HO292
          have HO295 := Aside0.mk (Q_HO295 hb5_)
          clear Q_HO295
          have HA_HO295 := Aside0.mk (Q_HA_HO295 hb5_)
          clear Q_HA_HO295
          have HI279 := Aside0.mk (Q_HI279_e7 hb7_)
          clear Q_HI279_e7
          have BK276 := Aside0.mk (Q_BK276_e13 hb13_)
          clear Q_BK276_e13
          clear hall hb1_ hb3_ hb4_ hb5_ hb7_ hb8_ hb9_ hb10_ hb11_ hb12_ hb13_ hb14_
          obtain ⟨co32, eo32⟩ := HA_HO292.out
          clear HA_HO292
          subst eo32
          obtain ⟨co33, eo33⟩ := HA_HO295.out
          clear HA_HO295
          subst eo33
          try go_wp2
          refine bodyPost_ret (results_list (rs := [.tmp 2, .cell 3 36, .tmp 4]) rfl (by simp) (.tmp (.cell gb276 36 #[.string t284, .string t285] (0, 0) _ rfl (by (with_reducible repeat (first | refine blk_drewN ?_ _ | refine blk_drew ?_ | refine blk_alloc ?_ _)); exact BK276.out) Try.underlying36 rfl (by kernel_rfl) (.tmp .nil)))) rfl ?_
          exact ⟨_, by first | rfl | (simp only [u8_w_, w64_u8_]; done) | (simp only [u8_w_, w64_u8_]; rfl) | (simp [errW_none, errW_some] <;> rfl) | (simp [*, errW_none, errW_some] <;> rfl), by (with_reducible repeat (first | apply Kd.R_alloc | apply Kd.R_drewN | apply Kd.R_drew)); exact HO282.out, by repeat (first | (with_reducible first | exact HB.out | apply below_alloc | apply pw_below_drewN | apply below_drew1 | refine below_set ?_ (IsS73.ge HI279.out) | refine below_set ?_ GE276.out | refine below_set ?_ GE287.out) | exact HB.out)⟩
        · rw [if_neg c10] at H
          exact absurd H (by simp)
      · rw [if_neg c9] at H
        exact absurd H (by simp)
    · rw [if_neg c8] at H
      exact absurd H (by simp)
  · rw [if_neg c7] at H
    exact absurd H (by simp)

/-! ### impl_copyOf_Pair: function 53 -/
def impl_copyOf_Pair.f (l0 : List (S28)) : Option (List (S28)) := if l0.length < 5864062014805 then some l0 else none
set_option maxHeartbeats 8000000 in
set_option maxRecDepth 100000 in
theorem impl_copyOf_Pair.calls (A0 : Option Addr) (c0 : Nat) (l0 : List (S28)) (r : List (S28)) (w : World) (hr0 : Kd.C k28 w A0 l0.length l0) (hc0 : l0.length ≤ c0) (h : impl_copyOf_Pair.f l0 = some r) :
    Calls Try.prog 53 #[.slice A0 l0.length c0] w fun e w' => ∃ v0_ : Value, e = .returned (v0_) ∧ Kd.R k28 28 w' w.heap.size (fun _ => True) v0_ r ∧ Below w.heap.size w w' := by
  have HR0 := Aside0.mk hr0
  clear hr0 hc0
  have H : (if l0.length < 5864062014805 then some l0 else none) = some r := h
  clear h
  by_cases c3 : l0.length < 5864062014805
  · rw [if_pos c3] at H
    have LM := Aside0.mk c3
    clear c3
    obtain rfl := Option.some.inj H
    clear H
    go_enter Try.func53, Try.ntmps53
    go_wp2_with (first | ((with_reducible refine gate_builtin (b := .append) (xs := #[.const (.slice none 0 0), .tmp 3]) rfl ?_); (try (refine gate_guard (by rfl) ?_; dsimp only)); at_builtin; refine Kd.R_append_rows k28 (w0 := w) w.heap.size rfl (.const (.slice none 0 0)) (.tmp 3) 23 28 (.agg #[(.string ⟨#[]⟩), (.int .i64 0)]) 24 rfl Try.underlying23 info28 rfl (by decide) (by omega) (.slice none 0 0) [] l0 _ _ _ (fun _ => True) (fun _ => False) rfl rfl ?aO ?aR (fun _ _ h => h) (fun _ h => h.elim) ?aF ?aB ?aS ?aL ?_; (case aR => exact HR0.out); (case aB => exact Below.refl _ _); (case aF => exact (fun _ _ => trivial)); (case aO => exact Kd.R_nil _ _ _ _ _); (case aS => exact Nat.le_refl _); (case aL => have := LM.out; simp only [List.length_nil]; omega); intro v1 w1 ho hb hg hat; rw [List.nil_append] at ho; have HO1 := Aside0.mk ho; have HB1 := Aside0.mk hb; clear ho hb hg hat; obtain ⟨Ao1, co1, eo1⟩ := Kd.R_slice HO1.out; subst eo1))
    go_ret
    exact ⟨_, rfl, HO1.out, HB1.out⟩
  · rw [if_neg c3] at H
    exact absurd H (by simp)

/-! ### impl_PairsIn: function 22 -/
def impl_PairsIn.j0 : Nat → List (S28) → Bool → ByteArray → ByteArray → Option ((List (S28)))
  | 0, _, _, _, _ => none
  | k + 1, x0, x15, x301000, x301001 => if x15 = true then (some ([] : List (S28))) else ((impl_pairPlace.f x0 x301000).bind fun bt303 => (if x301001.toList = ([] : List UInt8) then (if 0 ≤ bt303.1 then (if bt303.1 ≤ (x0.length : Int) then (if (x0.length : Int) ≤ (x0.length : Int) then ((impl_copyOf_Pair.f ((x0.take ((x0.length : Int) : Int).toNat).drop (bt303.1 : Int).toNat)).bind fun t309 => (some t309)) else (none)) else (none)) else (none)) else ((impl_pairPlace.f x0 x301001).bind fun bt312 => (if 0 ≤ bt303.1 then (if bt303.1 ≤ bt312.1 then (if bt312.1 ≤ (x0.length : Int) then ((impl_copyOf_Pair.f ((x0.take (bt312.1 : Int).toNat).drop (bt303.1 : Int).toNat)).bind fun t318 => (some t318)) else (none)) else (none)) else (none)))))
def impl_PairsIn.f (k : Nat) (l0 : List (S28)) (a1_0 : ByteArray) (a1_1 : ByteArray) : Option ((List (S28))) := (impl_PairsValid.f k l0).bind fun t301 => (if t301 = true then ((impl_IntervalValid.f k a1_0 a1_1).bind fun t302 => (impl_PairsIn.j0 k l0 (!t302) a1_0 a1_1)) else (impl_PairsIn.j0 k l0 true a1_0 a1_1))
theorem impl_PairsIn.mono_l : ∀ k, (∀ y0 y1 y2 y3, LeO (impl_PairsIn.j0 k y0 y1 y2 y3) (impl_PairsIn.j0 (k + 1) y0 y1 y2 y3))
  | 0 => fun _ _ _ _ r h => by simp [impl_PairsIn.j0] at h
  | k + 1 => by
    have ih0 := impl_PairsIn.mono_l k
    · intro y0 y1 y2 y3
      unfold impl_PairsIn.j0
      repeat' first
      | (with_reducible exact ih0 _ _ _ _)
      | (with_reducible exact impl_IntervalValid.mono _ _ _)
      | (with_reducible exact impl_PairsValid.mono _ _)
      | (with_reducible exact LeO.refl _)
      | (with_reducible exact LeO.none _)
      | (with_reducible refine LeO.ite ?_ ?_)
      | (with_reducible refine LeO.bind ?_ (fun _ => ?_))
      | exact ih0 _ _ _ _
      | exact impl_IntervalValid.mono _ _ _
      | exact impl_PairsValid.mono _ _
      | exact LeO.none _
      | refine LeO.ite ?_ ?_
      | refine LeO.bind ?_ (fun _ => ?_)
theorem impl_PairsIn.mono : ∀ a0 a1 a2 k, LeO (impl_PairsIn.f k a0 a1 a2) (impl_PairsIn.f (k + 1) a0 a1 a2) := by
  intro a0 a1 a2 k
  have ih0 := impl_PairsIn.mono_l k
  unfold impl_PairsIn.f
  repeat' first
      | (with_reducible exact ih0 _ _ _ _)
      | (with_reducible exact impl_IntervalValid.mono _ _ _)
      | (with_reducible exact impl_PairsValid.mono _ _)
      | (with_reducible exact LeO.refl _)
      | (with_reducible exact LeO.none _)
      | (with_reducible refine LeO.ite ?_ ?_)
      | (with_reducible refine LeO.bind ?_ (fun _ => ?_))
      | exact ih0 _ _ _ _
      | exact impl_IntervalValid.mono _ _ _
      | exact impl_PairsValid.mono _ _
      | exact LeO.none _
      | refine LeO.ite ?_ ?_
      | refine LeO.bind ?_ (fun _ => ?_)
set_option maxHeartbeats 8000000 in
set_option maxRecDepth 100000 in
theorem impl_PairsIn.calls (k : Nat) (A0 : Option Addr) (c0 : Nat) (l0 : List (S28)) (a1_0 : ByteArray) (a1_1 : ByteArray) (r : List (S28)) (w : World) (hr0 : Kd.C k28 w A0 l0.length l0) (hc0 : l0.length ≤ c0) (h : impl_PairsIn.f k l0 a1_0 a1_1 = some r) :
    Calls Try.prog 22 #[.slice A0 l0.length c0, .agg #[.string a1_0, .string a1_1]] w fun e w' => ∃ v0_ : Value, e = .returned (v0_) ∧ Kd.R k28 28 w' w.heap.size (fun _ => True) v0_ r ∧ Below w.heap.size w w' := by
  have hu36 := Try.underlying36
  have HR0 := Aside0.mk hr0
  have HC0 := Aside0.mk hc0
  clear hr0 hc0
  have HB := Aside0.mk (Below.refl w.heap.size w)
  have H : ((impl_PairsValid.f k l0).bind fun t301 => (if t301 = true then ((impl_IntervalValid.f k a1_0 a1_1).bind fun t302 => (impl_PairsIn.j0 k l0 (!t302) a1_0 a1_1)) else (impl_PairsIn.j0 k l0 true a1_0 a1_1))) = some r := h
  clear h
  have HC3 := Aside0.mk H
  clear H
  go_enter Try.func22, Try.ntmps22
  go_upto_region 1 with (first | ((with_reducible refine gate_dst (N := 3) rfl ?_); refine box_event ?hg (N := 3) ?hd (cs := #[.string a1_0, .string a1_1]) (t := 36) ?hr ?_; (case hd => rfl); (case hg => rfl); (case hr => first | (go_simp; done) | (go_simp; rfl)); intro gb300 hg w4 hbox hb; have n0_ := Aside0.mk (below_step (by repeat (first | (with_reducible first | exact HB.out | apply below_alloc | apply pw_below_drewN | apply below_drew1) | exact HB.out)) hb); have n1_ := Aside0.mk (hbox); have n2_ := Aside0.mk ((by rw [hg]; exact (below_size (by repeat (first | (with_reducible first | exact HB.out | apply below_alloc | apply pw_below_drewN | apply below_drew1) | exact HB.out))) : w.heap.size ≤ gb300)); have n3_ := Aside0.mk ((by rw [hg]; exact (below_size (by repeat (first | (with_reducible first | exact HB.out | apply below_alloc | apply pw_below_drewN | apply below_drew1) | exact HB.out))) : w.heap.size ≤ gb300)); clear HB; have HB := n0_; have BK300 := n1_; have GW300 := n2_; have GE300 := n3_; clear n0_ n1_ n2_ n3_; clear hb hbox hg))
  (try simp only [Act.put, List.setIfInBounds_toArray, List.set_cons_zero, List.set_cons_succ])
  go_cut [15] (fun v15 wc => ∃ (kq : Nat) (x15_2 : Bool), v15 = .bool x15_2 ∧ Aside0 (impl_PairsIn.j0 kq l0 x15_2 a1_0 a1_1 = some r) ∧ Aside0 (kq ≤ k) ∧ Aside0 (wc.heap[gb300]? = some (.cells #[.string a1_0, .string a1_1] 36 (0, 0))) ∧ Aside0 (Below w.heap.size w wc))
  case first =>
    have H := HC3.out
    clear HC3
    replace H := Option.bind_eq_some_iff.mp H
    obtain ⟨t301, A50, H⟩ := H
    replace H : (if t301 = true then ((impl_IntervalValid.f k a1_0 a1_1).bind fun t302 => (impl_PairsIn.j0 k l0 (!t302) a1_0 a1_1)) else (impl_PairsIn.j0 k l0 true a1_0 a1_1)) = some r := H
    have A5 := Aside0.mk A50
    clear A50
    by_cases c6 : t301 = true
    · subst c6
      have H1 : ((impl_IntervalValid.f k a1_0 a1_1).bind fun t302 => (impl_PairsIn.j0 k l0 (!t302) a1_0 a1_1)) = some r := by rw [if_pos rfl] at H; exact H
      clear H
      have H := H1
      clear H1
      replace H := Option.bind_eq_some_iff.mp H
      obtain ⟨t302, A70, H⟩ := H
      replace H : (impl_PairsIn.j0 k l0 (!t302) a1_0 a1_1) = some r := H
      have A7 := Aside0.mk A70
      clear A70
      have H' := Aside0.mk H
      clear H
      go_wp2_with (first | ((with_reducible refine gate_callee (f := 13) rfl ?_); refine goesL_ (some 9) rfl rfl Try.func13 (by kernel_rfl) rfl #[.slice A0 l0.length c0] rfl (by (try simp only [List.map_toArray, List.map_cons, List.map_nil]); first | done | rfl | (simp only [List.length_drop, List.length_take]; rfl)) ?_; (with_reducible refine (impl_PairsValid.calls k _ _ l0 true _ ?side1 ?side2 A5.out).mono ?_); (case side1 => repeat (first | exact (Kd.C_below HR0.out HB.out) | (with_reducible refine Kd.C_alloc ?_ _) | (with_reducible refine Kd.C_drewN ?_ _) | (with_reducible refine Kd.C_drew ?_))); (case side2 => exact HC0.out); rintro e w8 ⟨rfl, hb⟩; refine ⟨_, rfl, ?_⟩; have n0_ := Aside0.mk (blk_below (g := gb300) (o := .cells #[.string a1_0, .string a1_1] 36 (0, 0)) (by (with_reducible repeat (first | refine blk_drewN ?_ _ | refine blk_drew ?_ | refine blk_alloc ?_ _)); exact BK300.out) hb); have n1_ := Aside0.mk (below_step (by repeat (first | (with_reducible first | exact HB.out | apply below_alloc | apply pw_below_drewN | apply below_drew1 | refine below_set ?_ GE300.out) | exact HB.out)) hb); clear BK300; clear HB; have BK300 := n0_; have HB := n1_; clear n0_ n1_; (try clear hb); (try clear hb2); (try clear hk); (try clear hi); have hcz9_0 : w8.cell? ⟨gb300, 0, none⟩ = some (.string a1_0) := (blk_cell BK300.out 0).trans rfl; have hcz9_1 : w8.cell? ⟨gb300, 1, none⟩ = some (.string a1_1) := (blk_cell BK300.out 1).trans rfl; have hfz9_0 := blk_frozen BK300.out 0; have hfz9_1 := blk_frozen BK300.out 1) | (go_at_call 52; (with_reducible refine (impl_IntervalValid.calls k a1_0 a1_1 t302 _ A7.out).mono ?_); rintro e w10 ⟨rfl, hb⟩; have n0_ := Aside0.mk (blk_below (g := gb300) (o := .cells #[.string a1_0, .string a1_1] 36 (0, 0)) (by (with_reducible repeat (first | refine blk_drewN ?_ _ | refine blk_drew ?_ | refine blk_alloc ?_ _)); exact BK300.out) hb); have n1_ := Aside0.mk (below_step (by repeat (first | (with_reducible first | exact HB.out | apply below_alloc | apply pw_below_drewN | apply below_drew1 | refine below_set ?_ GE300.out) | exact HB.out)) hb); clear BK300; clear HB; have BK300 := n0_; have HB := n1_; clear n0_ n1_; (try clear hb); (try clear hb2); (try clear hk); (try clear hi)))
      go_meet
      case rel => exact ⟨_, (!t302), (by first | rfl | (simp; done) | (simp [bne]; done) | (simp [*]; done)), H', ⟨by first | omega | exact Nat.le_refl _⟩, ⟨by (with_reducible repeat (first | refine blk_drewN ?_ _ | refine blk_drew ?_ | refine blk_alloc ?_ _)); exact BK300.out⟩, ⟨by repeat (first | (with_reducible first | exact HB.out | apply below_alloc | apply pw_below_drewN | apply below_drew1 | refine below_set ?_ GE300.out) | exact HB.out)⟩⟩
    · replace c6 := Bool.eq_false_iff.mpr c6
      subst c6
      have H1 : (impl_PairsIn.j0 k l0 true a1_0 a1_1) = some r := by rw [if_neg (show ¬ (false = true) by decide)] at H; exact H
      clear H
      have H := H1
      clear H1
      have H' := Aside0.mk H
      clear H
      go_wp2_with (first | ((with_reducible refine gate_callee (f := 13) rfl ?_); refine goesL_ (some 9) rfl rfl Try.func13 (by kernel_rfl) rfl #[.slice A0 l0.length c0] rfl (by (try simp only [List.map_toArray, List.map_cons, List.map_nil]); first | done | rfl | (simp only [List.length_drop, List.length_take]; rfl)) ?_; (with_reducible refine (impl_PairsValid.calls k _ _ l0 false _ ?side1 ?side2 A5.out).mono ?_); (case side1 => repeat (first | exact (Kd.C_below HR0.out HB.out) | (with_reducible refine Kd.C_alloc ?_ _) | (with_reducible refine Kd.C_drewN ?_ _) | (with_reducible refine Kd.C_drew ?_))); (case side2 => exact HC0.out); rintro e w11 ⟨rfl, hb⟩; refine ⟨_, rfl, ?_⟩; have n0_ := Aside0.mk (blk_below (g := gb300) (o := .cells #[.string a1_0, .string a1_1] 36 (0, 0)) (by (with_reducible repeat (first | refine blk_drewN ?_ _ | refine blk_drew ?_ | refine blk_alloc ?_ _)); exact BK300.out) hb); have n1_ := Aside0.mk (below_step (by repeat (first | (with_reducible first | exact HB.out | apply below_alloc | apply pw_below_drewN | apply below_drew1 | refine below_set ?_ GE300.out) | exact HB.out)) hb); clear BK300; clear HB; have BK300 := n0_; have HB := n1_; clear n0_ n1_; (try clear hb); (try clear hb2); (try clear hk); (try clear hi)))
      go_meet
      case rel => exact ⟨_, (true), (by first | rfl | (simp; done) | (simp [bne]; done) | (simp [*]; done)), H', ⟨by first | omega | exact Nat.le_refl _⟩, ⟨by (with_reducible repeat (first | refine blk_drewN ?_ _ | refine blk_drew ?_ | refine blk_alloc ?_ _)); exact BK300.out⟩, ⟨by repeat (first | (with_reducible first | exact HB.out | apply below_alloc | apply pw_below_drewN | apply below_drew1 | refine below_set ?_ GE300.out) | exact HB.out)⟩⟩
  case rest =>
    clear HC3
    try clear c1
    try clear c2
    try clear p2
    try clear c6
    try clear hcz9_0
    try clear hcz9_1
    try clear hfz9_0
    try clear hfz9_1
    obtain ⟨kq, x15_2, rfl, HA, HJ2, BK300, HB⟩ := hcut
    cases kq with
    | zero => exact absurd HA.out (by simp [impl_PairsIn.j0])
    | succ kj2 =>
      have H := HA.out
      clear HA
      simp only [impl_PairsIn.j0] at H
      by_cases c12 : x15_2 = true
      · subst c12
        have H1 : (some ([] : List (S28))) = some r := by rw [if_pos rfl] at H; exact H
        clear H
        have H := H1
        clear H1
        obtain rfl := Option.some.inj H
        go_wp2
        go_ret
        exact ⟨_, by first | rfl | (simp only [u8_w_, w64_u8_]; done) | (simp only [u8_w_, w64_u8_]; rfl) | (simp [errW_none, errW_some] <;> rfl) | (simp [*, errW_none, errW_some] <;> rfl), by first | exact Kd.R_nil _ _ _ _ _ | exact Kd.N_nil _ _ _ _ _ | exact Kd.V_nil _ _ _ _ _ | exact Kd.Q_nil _ _ _ _ _ | exact Kd.S_nil _ _ _ _ _, by repeat (first | (with_reducible first | exact HB.out | apply below_alloc | apply pw_below_drewN | apply below_drew1 | refine below_set ?_ GE300.out) | exact HB.out)⟩
      · replace c12 := Bool.eq_false_iff.mpr c12
        subst c12
        have H1 : ((impl_pairPlace.f l0 a1_0).bind fun bt303 => (if a1_1.toList = ([] : List UInt8) then (if 0 ≤ bt303.1 then (if bt303.1 ≤ (l0.length : Int) then (if (l0.length : Int) ≤ (l0.length : Int) then ((impl_copyOf_Pair.f ((l0.take ((l0.length : Int) : Int).toNat).drop (bt303.1 : Int).toNat)).bind fun t309 => (some t309)) else (none)) else (none)) else (none)) else ((impl_pairPlace.f l0 a1_1).bind fun bt312 => (if 0 ≤ bt303.1 then (if bt303.1 ≤ bt312.1 then (if bt312.1 ≤ (l0.length : Int) then ((impl_copyOf_Pair.f ((l0.take (bt312.1 : Int).toNat).drop (bt303.1 : Int).toNat)).bind fun t318 => (some t318)) else (none)) else (none)) else (none))))) = some r := by rw [if_neg (show ¬ (false = true) by decide)] at H; exact H
        clear H
        have H := H1
        clear H1
        replace H := Option.bind_eq_some_iff.mp H
        obtain ⟨⟨t303, t304⟩, A130, H⟩ := H
        replace H : (if a1_1.toList = ([] : List UInt8) then (if 0 ≤ t303 then (if t303 ≤ (l0.length : Int) then (if (l0.length : Int) ≤ (l0.length : Int) then ((impl_copyOf_Pair.f ((l0.take ((l0.length : Int) : Int).toNat).drop (t303 : Int).toNat)).bind fun t309 => (some t309)) else (none)) else (none)) else (none)) else ((impl_pairPlace.f l0 a1_1).bind fun bt312 => (if 0 ≤ t303 then (if t303 ≤ bt312.1 then (if bt312.1 ≤ (l0.length : Int) then ((impl_copyOf_Pair.f ((l0.take (bt312.1 : Int).toNat).drop (t303 : Int).toNat)).bind fun t318 => (some t318)) else (none)) else (none)) else (none)))) = some r := H
        have A13 := Aside0.mk A130
        clear A130
        by_cases c14 : a1_1.toList = ([] : List UInt8)
        · rw [if_pos c14] at H
          have c14b0 : (a1_1.toList == ([] : List UInt8)) = true := beq_iff_eq.mpr c14
          have c14b1 : (a1_1.toList != ([] : List UInt8)) = false := bne_eq_false_iff_eq.mpr c14
          clear c14
          by_cases c15 : 0 ≤ t303
          · rw [if_pos c15] at H
            have c15b0 := eq_true c15
            have c15b1 : decide (0 ≤ t303) = true := decide_eq_true c15
            clear c15
            by_cases c16 : t303 ≤ (l0.length : Int)
            · rw [if_pos c16] at H
              have c16b0 := eq_true c16
              have c16b1 : decide (t303 ≤ (l0.length : Int)) = true := decide_eq_true c16
              clear c16
              by_cases c17 : (l0.length : Int) ≤ (l0.length : Int)
              · rw [if_pos c17] at H
                have c17b0 := eq_true c17
                have c17b1 : decide ((l0.length : Int) ≤ (l0.length : Int)) = true := decide_eq_true c17
                clear c17
                obtain ⟨y305, hy305⟩ : ∃ y_ : List (S28), y_ = ((l0.take ((l0.length : Int) : Int).toNat).drop (t303 : Int).toNat) := ⟨_, rfl⟩
                replace H : ((impl_copyOf_Pair.f y305).bind fun t309 => (some t309)) = some r := by first | (rw [hy305]; with_reducible exact H) | (have H2_ := (Option.bind_some _ _).symm.trans H; rw [hy305]; with_reducible exact H2_) | (have H2_ := (Option.bind_some _ _).symm.trans H; with_reducible exact H2_) | with_reducible exact H | (rw [hy305]; exact H) | exact H
                have Ny305 := Aside0.mk hy305
                clear hy305
                replace H := Option.bind_eq_some_iff.mp H
                obtain ⟨t309, A180, H⟩ := H
                replace H : (some t309) = some r := H
                have A18 := Aside0.mk A180
                clear A180
                obtain rfl := Option.some.inj H
                have hcz19_0 : wc.cell? ⟨gb300, 0, none⟩ = some (.string a1_0) := (blk_cell BK300.out 0).trans rfl
                have hcz19_1 : wc.cell? ⟨gb300, 1, none⟩ = some (.string a1_1) := (blk_cell BK300.out 1).trans rfl
                have hfz19_0 := blk_frozen BK300.out 0
                have hfz19_1 := blk_frozen BK300.out 1
                go_wp2_with (first | ((with_reducible refine gate_callee (f := 50) rfl ?_); refine goesL_ (some 20) rfl rfl Try.func50 (by kernel_rfl) rfl #[.slice A0 l0.length c0, .string a1_0] rfl (by (try simp only [List.map_toArray, List.map_cons, List.map_nil]); first | done | rfl | (simp only [List.length_drop, List.length_take]; rfl)) ?_; (with_reducible refine (impl_pairPlace.calls _ _ l0 a1_0 t303 t304 _ ?side1 ?side2 A13.out).mono ?_); (case side1 => repeat (first | exact (Kd.C_below HR0.out HB.out) | (with_reducible refine Kd.C_alloc ?_ _) | (with_reducible refine Kd.C_drewN ?_ _) | (with_reducible refine Kd.C_drew ?_))); (case side2 => exact HC0.out); rintro e w20 ⟨rfl, hb⟩; refine ⟨_, rfl, ?_⟩; have n0_ := Aside0.mk (blk_below (g := gb300) (o := .cells #[.string a1_0, .string a1_1] 36 (0, 0)) (by (with_reducible repeat (first | refine blk_drewN ?_ _ | refine blk_drew ?_ | refine blk_alloc ?_ _)); exact BK300.out) hb); have n1_ := Aside0.mk (below_step (by repeat (first | (with_reducible first | exact HB.out | apply below_alloc | apply pw_below_drewN | apply below_drew1 | refine below_set ?_ GE300.out) | exact HB.out)) hb); clear BK300; clear HB; have BK300 := n0_; have HB := n1_; clear n0_ n1_; (try clear hb); (try clear hb2); (try clear hk); (try clear hi); have hcz21_0 : w20.cell? ⟨gb300, 0, none⟩ = some (.string a1_0) := (blk_cell BK300.out 0).trans rfl; have hcz21_1 : w20.cell? ⟨gb300, 1, none⟩ = some (.string a1_1) := (blk_cell BK300.out 1).trans rfl; have hfz21_0 := blk_frozen BK300.out 0; have hfz21_1 := blk_frozen BK300.out 1; have q22 : ((l0.length : Int) : Int) ≤ ((l0.length : Int) : Int) := of_decide_eq_true (by first | (with_reducible assumption) | assumption); obtain ⟨i022, hi022, _, hsz22, _⟩ := info_parts info28; have hroom22 : l0.length ≤ c0 := HC0.out; have hC22 : Kd.C k28 _ A0 l0.length l0 := HR0.out; have ql22 : (t303 : Int) ≤ ((l0.length : Int) : Int) := of_decide_eq_true (by first | (with_reducible assumption) | assumption); have q022 : (0 : Int) ≤ (t303 : Int) := of_decide_eq_true (by first | (with_reducible assumption) | assumption); have hcut22 := cut_mid (P := Try.prog) 23 28 .i64 .i64 Try.underlying23 hi022 2 hsz22 A0 l0.length c0 t303 (l0.length : Int) q022 ql22 q22 hroom22; have hr22 := Kd.C_mid (lo := (t303 : Int).toNat) (hi := ((l0.length : Int) : Int).toNat) (c := c0) hC22 (by omega) (by omega) hroom22; obtain ⟨A22, hA22⟩ : ∃ A1, A1 = (if c0 = (t303 : Int).toNat then A0 else (A0 : Option Addr).map (·.add ((t303 : Int).toNat * 2))) := ⟨_, rfl⟩; obtain ⟨c22, hc22⟩ : ∃ c1, c1 = c0 - (t303 : Int).toNat := ⟨_, rfl⟩; have hy22 : y305.length = ((l0.length : Int) : Int).toNat - (t303 : Int).toNat := (by rw [Ny305.out, List.length_drop, List.length_take] <;> omega); rw [show ((l0).take ((l0.length : Int) : Int).toNat).drop (t303 : Int).toNat = y305 from Ny305.out.symm] at hr22; replace hr22 : Kd.C k28 _ A22 y305.length y305 := (by rw [hA22]; exact hr22); rw [← hy22, ← hA22, ← hc22] at hcut22; have HR308 := Aside0.mk hr22; have HC308 := Aside0.mk (show y305.length ≤ c22 from by rw [hy22, hc22]; exact Nat.sub_le_sub_right (Nat.le_trans (by omega) hroom22) _); clear hr22 hC22 hroom22 hi022 hsz22 hc22; have KY22 := Aside0.mk hy22; have KA22 := Aside0.mk hA22; clear hy22 hA22; replace q22 := eq_true q22) | ((with_reducible refine gate_callee (f := 53) rfl ?_); refine goesL_ (some 39) rfl rfl Try.func53 (by kernel_rfl) rfl #[.slice A22 y305.length c22] rfl (by (try simp only [List.map_toArray, List.map_cons, List.map_nil]); first | done | rfl | (simp only [List.length_drop, List.length_take]; rfl)) ?_; (with_reducible refine (impl_copyOf_Pair.calls _ _ y305 t309 _ ?side1 ?side2 A18.out).mono ?_); (case side1 => repeat (first | exact (Kd.C_below HR308.out HB.out) | (with_reducible refine Kd.C_alloc ?_ _) | (with_reducible refine Kd.C_drewN ?_ _) | (with_reducible refine Kd.C_drew ?_))); (case side2 => exact HC308.out); rintro e w23 ⟨v310, rfl, ho0, hb⟩; refine ⟨_, rfl, ?_⟩; have n0_ := Aside0.mk (Kd.R_lower ho0 (below_size (by repeat (first | (with_reducible first | exact HB.out | apply below_alloc | apply pw_below_drewN | apply below_drew1 | refine below_set ?_ GE300.out) | exact HB.out)))); have n1_ := Aside0.mk (blk_below (g := gb300) (o := .cells #[.string a1_0, .string a1_1] 36 (0, 0)) (by (with_reducible repeat (first | refine blk_drewN ?_ _ | refine blk_drew ?_ | refine blk_alloc ?_ _)); exact BK300.out) hb); have n2_ := Aside0.mk (below_step (by repeat (first | (with_reducible first | exact HB.out | apply below_alloc | apply pw_below_drewN | apply below_drew1 | refine below_set ?_ GE300.out) | exact HB.out)) hb); clear BK300; clear HB; have HO311 := n0_; have BK300 := n1_; have HB := n2_; clear n0_ n1_ n2_; (try clear hb); (try clear hb2); (try clear hk); (try clear hi); (try clear ho0)))
                go_ret
                exact ⟨_, by first | rfl | (simp only [u8_w_, w64_u8_]; done) | (simp only [u8_w_, w64_u8_]; rfl) | (simp [errW_none, errW_some] <;> rfl) | (simp [*, errW_none, errW_some] <;> rfl), by (with_reducible repeat (first | apply Kd.R_alloc | apply Kd.R_drewN | apply Kd.R_drew)); exact HO311.out, by repeat (first | (with_reducible first | exact HB.out | apply below_alloc | apply pw_below_drewN | apply below_drew1 | refine below_set ?_ GE300.out) | exact HB.out)⟩
              · rw [if_neg c17] at H
                exact absurd H (by simp)
            · rw [if_neg c16] at H
              exact absurd H (by simp)
          · rw [if_neg c15] at H
            exact absurd H (by simp)
        · rw [if_neg c14] at H
          have c14b0 : (a1_1.toList == ([] : List UInt8)) = false := beq_eq_false_iff_ne.mpr c14
          have c14b1 : (a1_1.toList != ([] : List UInt8)) = true := bne_iff_ne.mpr c14
          replace H := Option.bind_eq_some_iff.mp H
          obtain ⟨⟨t312, t313⟩, A240, H⟩ := H
          replace H : (if 0 ≤ t303 then (if t303 ≤ t312 then (if t312 ≤ (l0.length : Int) then ((impl_copyOf_Pair.f ((l0.take (t312 : Int).toNat).drop (t303 : Int).toNat)).bind fun t318 => (some t318)) else (none)) else (none)) else (none)) = some r := H
          have A24 := Aside0.mk A240
          clear A240
          by_cases c25 : 0 ≤ t303
          · rw [if_pos c25] at H
            have c25b0 := eq_true c25
            have c25b1 : decide (0 ≤ t303) = true := decide_eq_true c25
            clear c25
            by_cases c26 : t303 ≤ t312
            · rw [if_pos c26] at H
              have c26b0 := eq_true c26
              have c26b1 : decide (t303 ≤ t312) = true := decide_eq_true c26
              clear c26
              by_cases c27 : t312 ≤ (l0.length : Int)
              · rw [if_pos c27] at H
                have c27b0 := eq_true c27
                have c27b1 : decide (t312 ≤ (l0.length : Int)) = true := decide_eq_true c27
                clear c27
                obtain ⟨y314, hy314⟩ : ∃ y_ : List (S28), y_ = ((l0.take (t312 : Int).toNat).drop (t303 : Int).toNat) := ⟨_, rfl⟩
                replace H : ((impl_copyOf_Pair.f y314).bind fun t318 => (some t318)) = some r := by first | (rw [hy314]; with_reducible exact H) | (have H2_ := (Option.bind_some _ _).symm.trans H; rw [hy314]; with_reducible exact H2_) | (have H2_ := (Option.bind_some _ _).symm.trans H; with_reducible exact H2_) | with_reducible exact H | (rw [hy314]; exact H) | exact H
                have Ny314 := Aside0.mk hy314
                clear hy314
                replace H := Option.bind_eq_some_iff.mp H
                obtain ⟨t318, A280, H⟩ := H
                replace H : (some t318) = some r := H
                have A28 := Aside0.mk A280
                clear A280
                obtain rfl := Option.some.inj H
                have hcz29_0 : wc.cell? ⟨gb300, 0, none⟩ = some (.string a1_0) := (blk_cell BK300.out 0).trans rfl
                have hcz29_1 : wc.cell? ⟨gb300, 1, none⟩ = some (.string a1_1) := (blk_cell BK300.out 1).trans rfl
                have hfz29_0 := blk_frozen BK300.out 0
                have hfz29_1 := blk_frozen BK300.out 1
                go_wp2_with (first | ((with_reducible refine gate_callee (f := 50) rfl ?_); refine goesL_ (some 20) rfl rfl Try.func50 (by kernel_rfl) rfl #[.slice A0 l0.length c0, .string a1_0] rfl (by (try simp only [List.map_toArray, List.map_cons, List.map_nil]); first | done | rfl | (simp only [List.length_drop, List.length_take]; rfl)) ?_; (with_reducible refine (impl_pairPlace.calls _ _ l0 a1_0 t303 t304 _ ?side1 ?side2 A13.out).mono ?_); (case side1 => repeat (first | exact (Kd.C_below HR0.out HB.out) | (with_reducible refine Kd.C_alloc ?_ _) | (with_reducible refine Kd.C_drewN ?_ _) | (with_reducible refine Kd.C_drew ?_))); (case side2 => exact HC0.out); rintro e w30 ⟨rfl, hb⟩; refine ⟨_, rfl, ?_⟩; have n0_ := Aside0.mk (blk_below (g := gb300) (o := .cells #[.string a1_0, .string a1_1] 36 (0, 0)) (by (with_reducible repeat (first | refine blk_drewN ?_ _ | refine blk_drew ?_ | refine blk_alloc ?_ _)); exact BK300.out) hb); have n1_ := Aside0.mk (below_step (by repeat (first | (with_reducible first | exact HB.out | apply below_alloc | apply pw_below_drewN | apply below_drew1 | refine below_set ?_ GE300.out) | exact HB.out)) hb); clear BK300; clear HB; have BK300 := n0_; have HB := n1_; clear n0_ n1_; (try clear hb); (try clear hb2); (try clear hk); (try clear hi); have hcz31_0 : w30.cell? ⟨gb300, 0, none⟩ = some (.string a1_0) := (blk_cell BK300.out 0).trans rfl; have hcz31_1 : w30.cell? ⟨gb300, 1, none⟩ = some (.string a1_1) := (blk_cell BK300.out 1).trans rfl; have hfz31_0 := blk_frozen BK300.out 0; have hfz31_1 := blk_frozen BK300.out 1) | ((with_reducible refine gate_callee (f := 50) rfl ?_); refine goesL_ (some 32) rfl rfl Try.func50 (by kernel_rfl) rfl #[.slice A0 l0.length c0, .string a1_1] rfl (by (try simp only [List.map_toArray, List.map_cons, List.map_nil]); first | done | rfl | (simp only [List.length_drop, List.length_take]; rfl)) ?_; (with_reducible refine (impl_pairPlace.calls _ _ l0 a1_1 t312 t313 _ ?side1 ?side2 A24.out).mono ?_); (case side1 => repeat (first | exact (Kd.C_below HR0.out HB.out) | (with_reducible refine Kd.C_alloc ?_ _) | (with_reducible refine Kd.C_drewN ?_ _) | (with_reducible refine Kd.C_drew ?_))); (case side2 => exact HC0.out); rintro e w32 ⟨rfl, hb⟩; refine ⟨_, rfl, ?_⟩; have n0_ := Aside0.mk (blk_below (g := gb300) (o := .cells #[.string a1_0, .string a1_1] 36 (0, 0)) (by (with_reducible repeat (first | refine blk_drewN ?_ _ | refine blk_drew ?_ | refine blk_alloc ?_ _)); exact BK300.out) hb); have n1_ := Aside0.mk (below_step (by repeat (first | (with_reducible first | exact HB.out | apply below_alloc | apply pw_below_drewN | apply below_drew1 | refine below_set ?_ GE300.out) | exact HB.out)) hb); clear BK300; clear HB; have BK300 := n0_; have HB := n1_; clear n0_ n1_; (try clear hb); (try clear hb2); (try clear hk); (try clear hi); have q33 : (t312 : Int) ≤ ((l0.length : Int) : Int) := of_decide_eq_true (by first | (with_reducible assumption) | assumption); obtain ⟨i033, hi033, _, hsz33, _⟩ := info_parts info28; have hroom33 : l0.length ≤ c0 := HC0.out; have hC33 : Kd.C k28 _ A0 l0.length l0 := HR0.out; have ql33 : (t303 : Int) ≤ (t312 : Int) := of_decide_eq_true (by first | (with_reducible assumption) | assumption); have q033 : (0 : Int) ≤ (t303 : Int) := of_decide_eq_true (by first | (with_reducible assumption) | assumption); have hcut33 := cut_mid (P := Try.prog) 23 28 .i64 .i64 Try.underlying23 hi033 2 hsz33 A0 l0.length c0 t303 t312 q033 ql33 q33 hroom33; have hr33 := Kd.C_mid (lo := (t303 : Int).toNat) (hi := (t312 : Int).toNat) (c := c0) hC33 (by omega) (by omega) hroom33; obtain ⟨A33, hA33⟩ : ∃ A1, A1 = (if c0 = (t303 : Int).toNat then A0 else (A0 : Option Addr).map (·.add ((t303 : Int).toNat * 2))) := ⟨_, rfl⟩; obtain ⟨c33, hc33⟩ : ∃ c1, c1 = c0 - (t303 : Int).toNat := ⟨_, rfl⟩; have hy33 : y314.length = (t312 : Int).toNat - (t303 : Int).toNat := (by rw [Ny314.out, List.length_drop, List.length_take] <;> omega); rw [show ((l0).take (t312 : Int).toNat).drop (t303 : Int).toNat = y314 from Ny314.out.symm] at hr33; replace hr33 : Kd.C k28 _ A33 y314.length y314 := (by rw [hA33]; exact hr33); rw [← hy33, ← hA33, ← hc33] at hcut33; have HR317 := Aside0.mk hr33; have HC317 := Aside0.mk (show y314.length ≤ c33 from by rw [hy33, hc33]; exact Nat.sub_le_sub_right (Nat.le_trans (by omega) hroom33) _); clear hr33 hC33 hroom33 hi033 hsz33 hc33; have KY33 := Aside0.mk hy33; have KA33 := Aside0.mk hA33; clear hy33 hA33; replace q33 := eq_true q33) | ((with_reducible refine gate_callee (f := 53) rfl ?_); refine goesL_ (some 39) rfl rfl Try.func53 (by kernel_rfl) rfl #[.slice A33 y314.length c33] rfl (by (try simp only [List.map_toArray, List.map_cons, List.map_nil]); first | done | rfl | (simp only [List.length_drop, List.length_take]; rfl)) ?_; (with_reducible refine (impl_copyOf_Pair.calls _ _ y314 t318 _ ?side1 ?side2 A28.out).mono ?_); (case side1 => repeat (first | exact (Kd.C_below HR317.out HB.out) | (with_reducible refine Kd.C_alloc ?_ _) | (with_reducible refine Kd.C_drewN ?_ _) | (with_reducible refine Kd.C_drew ?_))); (case side2 => exact HC317.out); rintro e w34 ⟨v319, rfl, ho0, hb⟩; refine ⟨_, rfl, ?_⟩; have n0_ := Aside0.mk (Kd.R_lower ho0 (below_size (by repeat (first | (with_reducible first | exact HB.out | apply below_alloc | apply pw_below_drewN | apply below_drew1 | refine below_set ?_ GE300.out) | exact HB.out)))); have n1_ := Aside0.mk (blk_below (g := gb300) (o := .cells #[.string a1_0, .string a1_1] 36 (0, 0)) (by (with_reducible repeat (first | refine blk_drewN ?_ _ | refine blk_drew ?_ | refine blk_alloc ?_ _)); exact BK300.out) hb); have n2_ := Aside0.mk (below_step (by repeat (first | (with_reducible first | exact HB.out | apply below_alloc | apply pw_below_drewN | apply below_drew1 | refine below_set ?_ GE300.out) | exact HB.out)) hb); clear BK300; clear HB; have HO320 := n0_; have BK300 := n1_; have HB := n2_; clear n0_ n1_ n2_; (try clear hb); (try clear hb2); (try clear hk); (try clear hi); (try clear ho0)))
                go_ret
                exact ⟨_, by first | rfl | (simp only [u8_w_, w64_u8_]; done) | (simp only [u8_w_, w64_u8_]; rfl) | (simp [errW_none, errW_some] <;> rfl) | (simp [*, errW_none, errW_some] <;> rfl), by (with_reducible repeat (first | apply Kd.R_alloc | apply Kd.R_drewN | apply Kd.R_drew)); exact HO320.out, by repeat (first | (with_reducible first | exact HB.out | apply below_alloc | apply pw_below_drewN | apply below_drew1 | refine below_set ?_ GE300.out) | exact HB.out)⟩
              · rw [if_neg c27] at H
                exact absurd H (by simp)
            · rw [if_neg c26] at H
              exact absurd H (by simp)
          · rw [if_neg c25] at H
            exact absurd H (by simp)

/-! ### impl_PairScan: function 40 -/
def impl_PairScan.f (k : Nat) (l0 : List (S28)) (a1_0 : ByteArray) (a1_1 : ByteArray) (a2 : Int) : Option ((List (S28))) := if a2 < 0 then (some ([] : List (S28))) else (if a2 > 48 then (some ([] : List (S28))) else ((impl_PairsIn.f k l0 a1_0 a1_1).bind fun t322 => (if 0 ≤ (mn a2 (t322.length : Int)) then (if (mn a2 (t322.length : Int)) ≤ (t322.length : Int) then (some (t322.take ((mn a2 (t322.length : Int)) : Int).toNat)) else (none)) else (none))))
theorem impl_PairScan.mono : ∀ a0 a1 a2 a3 k, LeO (impl_PairScan.f k a0 a1 a2 a3) (impl_PairScan.f (k + 1) a0 a1 a2 a3) := by
  intro a0 a1 a2 a3 k
  unfold impl_PairScan.f
  repeat' first
      | (with_reducible exact impl_PairsIn.mono _ _ _ _)
      | (with_reducible exact LeO.refl _)
      | (with_reducible exact LeO.none _)
      | (with_reducible refine LeO.ite ?_ ?_)
      | (with_reducible refine LeO.bind ?_ (fun _ => ?_))
      | exact impl_PairsIn.mono _ _ _ _
      | exact LeO.none _
      | refine LeO.ite ?_ ?_
      | refine LeO.bind ?_ (fun _ => ?_)
set_option maxHeartbeats 8000000 in
set_option maxRecDepth 100000 in
theorem impl_PairScan.calls (k : Nat) (A0 : Option Addr) (c0 : Nat) (l0 : List (S28)) (a1_0 : ByteArray) (a1_1 : ByteArray) (a2 : Int) (r : List (S28)) (w : World) (hr0 : Kd.C k28 w A0 l0.length l0) (hc0 : l0.length ≤ c0) (h : impl_PairScan.f k l0 a1_0 a1_1 a2 = some r) :
    Calls Try.prog 40 #[.slice A0 l0.length c0, .agg #[.string a1_0, .string a1_1], .int .i64 a2] w fun e w' => ∃ v0_ : Value, e = .returned (v0_) ∧ Kd.R k28 28 w' w.heap.size (fun _ => True) v0_ r ∧ Below w.heap.size w w' := by
  have hu36 := Try.underlying36
  have HR0 := Aside0.mk hr0
  have HC0 := Aside0.mk hc0
  clear hr0 hc0
  have HB := Aside0.mk (Below.refl w.heap.size w)
  have H : (if a2 < 0 then (some ([] : List (S28))) else (if a2 > 48 then (some ([] : List (S28))) else ((impl_PairsIn.f k l0 a1_0 a1_1).bind fun t322 => (if 0 ≤ (mn a2 (t322.length : Int)) then (if (mn a2 (t322.length : Int)) ≤ (t322.length : Int) then (some (t322.take ((mn a2 (t322.length : Int)) : Int).toNat)) else (none)) else (none))))) = some r := h
  clear h
  by_cases c4 : a2 < 0
  · rw [if_pos c4] at H
    have c4b0 : decide (a2 < 0) = true := decide_eq_true c4
    clear c4
    obtain rfl := Option.some.inj H
    go_enter Try.func40, Try.ntmps40
    go_wp2_with (first | ((with_reducible refine gate_dst (N := 4) rfl ?_); refine box_event ?hg (N := 4) ?hd (cs := #[.string a1_0, .string a1_1]) (t := 36) ?hr ?_; (case hd => rfl); (case hg => rfl); (case hr => first | (go_simp; done) | (go_simp; rfl)); intro gb321 hg w5 hbox hb; have n0_ := Aside0.mk (below_step (by repeat (first | (with_reducible first | exact HB.out | apply below_alloc | apply pw_below_drewN | apply below_drew1) | exact HB.out)) hb); have n1_ := Aside0.mk (hbox); have n2_ := Aside0.mk ((by rw [hg]; exact (below_size (by repeat (first | (with_reducible first | exact HB.out | apply below_alloc | apply pw_below_drewN | apply below_drew1) | exact HB.out))) : w.heap.size ≤ gb321)); have n3_ := Aside0.mk ((by rw [hg]; exact (below_size (by repeat (first | (with_reducible first | exact HB.out | apply below_alloc | apply pw_below_drewN | apply below_drew1) | exact HB.out))) : w.heap.size ≤ gb321)); clear HB; have HB := n0_; have BK321 := n1_; have GW321 := n2_; have GE321 := n3_; clear n0_ n1_ n2_ n3_; clear hb hbox hg))
    go_ret
    exact ⟨_, by first | rfl | (simp only [u8_w_, w64_u8_]; done) | (simp only [u8_w_, w64_u8_]; rfl) | (simp [errW_none, errW_some] <;> rfl) | (simp [*, errW_none, errW_some] <;> rfl), by first | exact Kd.R_nil _ _ _ _ _ | exact Kd.N_nil _ _ _ _ _ | exact Kd.V_nil _ _ _ _ _ | exact Kd.Q_nil _ _ _ _ _ | exact Kd.S_nil _ _ _ _ _, by repeat (first | (with_reducible first | exact HB.out | apply below_alloc | apply pw_below_drewN | apply below_drew1 | refine below_set ?_ GE321.out) | exact HB.out)⟩
  · rw [if_neg c4] at H
    have c4b0 : decide (a2 < 0) = false := decide_eq_false c4
    clear c4
    by_cases c6 : a2 > 48
    · rw [if_pos c6] at H
      have c6b0 : decide (48 < a2) = true := decide_eq_true c6
      clear c6
      obtain rfl := Option.some.inj H
      go_enter Try.func40, Try.ntmps40
      go_wp2_with (first | ((with_reducible refine gate_dst (N := 4) rfl ?_); refine box_event ?hg (N := 4) ?hd (cs := #[.string a1_0, .string a1_1]) (t := 36) ?hr ?_; (case hd => rfl); (case hg => rfl); (case hr => first | (go_simp; done) | (go_simp; rfl)); intro gb321 hg w7 hbox hb; have n0_ := Aside0.mk (below_step (by repeat (first | (with_reducible first | exact HB.out | apply below_alloc | apply pw_below_drewN | apply below_drew1) | exact HB.out)) hb); have n1_ := Aside0.mk (hbox); have n2_ := Aside0.mk ((by rw [hg]; exact (below_size (by repeat (first | (with_reducible first | exact HB.out | apply below_alloc | apply pw_below_drewN | apply below_drew1) | exact HB.out))) : w.heap.size ≤ gb321)); have n3_ := Aside0.mk ((by rw [hg]; exact (below_size (by repeat (first | (with_reducible first | exact HB.out | apply below_alloc | apply pw_below_drewN | apply below_drew1) | exact HB.out))) : w.heap.size ≤ gb321)); clear HB; have HB := n0_; have BK321 := n1_; have GW321 := n2_; have GE321 := n3_; clear n0_ n1_ n2_ n3_; clear hb hbox hg))
      go_ret
      exact ⟨_, by first | rfl | (simp only [u8_w_, w64_u8_]; done) | (simp only [u8_w_, w64_u8_]; rfl) | (simp [errW_none, errW_some] <;> rfl) | (simp [*, errW_none, errW_some] <;> rfl), by first | exact Kd.R_nil _ _ _ _ _ | exact Kd.N_nil _ _ _ _ _ | exact Kd.V_nil _ _ _ _ _ | exact Kd.Q_nil _ _ _ _ _ | exact Kd.S_nil _ _ _ _ _, by repeat (first | (with_reducible first | exact HB.out | apply below_alloc | apply pw_below_drewN | apply below_drew1 | refine below_set ?_ GE321.out) | exact HB.out)⟩
    · rw [if_neg c6] at H
      have c6b0 : decide (48 < a2) = false := decide_eq_false c6
      clear c6
      replace H := Option.bind_eq_some_iff.mp H
      obtain ⟨t322, A80, H⟩ := H
      replace H : (if 0 ≤ (mn a2 (t322.length : Int)) then (if (mn a2 (t322.length : Int)) ≤ (t322.length : Int) then (some (t322.take ((mn a2 (t322.length : Int)) : Int).toNat)) else (none)) else (none)) = some r := H
      have A8 := Aside0.mk A80
      clear A80
      obtain ⟨ji9, hji9⟩ : ∃ j_ : Int, (mn a2 (t322.length : Int)) = j_ := ⟨_, rfl⟩
      replace H : (if 0 ≤ (ji9) then (if (ji9) ≤ (t322.length : Int) then (some (t322.take ((ji9) : Int).toNat)) else (none)) else (none)) = some r := by first | (rw [hji9] at H; exact H) | (simp only [hji9] at H ⊢; exact H)
      (try rw [hji9] at A8)
      have hji9_ : (if (t322.length : Int) < a2 then (t322.length : Int) else a2) = ji9 := hji9
      by_cases c10 : 0 ≤ (ji9)
      · rw [if_pos c10] at H
        have c10b0 := eq_true c10
        have c10b1 : decide (0 ≤ (ji9)) = true := decide_eq_true c10
        clear c10
        by_cases c11 : (ji9) ≤ (t322.length : Int)
        · rw [if_pos c11] at H
          have c11b0 := eq_true c11
          have c11b1 : decide ((ji9) ≤ (t322.length : Int)) = true := decide_eq_true c11
          clear c11
          obtain ⟨y325, hy325⟩ : ∃ y_ : List (S28), y_ = (t322.take ((ji9) : Int).toNat) := ⟨_, rfl⟩
          replace H : (some y325) = some r := by first | (rw [hy325]; with_reducible exact H) | (have H2_ := (Option.bind_some _ _).symm.trans H; rw [hy325]; with_reducible exact H2_) | (have H2_ := (Option.bind_some _ _).symm.trans H; with_reducible exact H2_) | with_reducible exact H | (rw [hy325]; exact H) | exact H
          have Ny325 := Aside0.mk hy325
          clear hy325
          obtain rfl := Option.some.inj H
          go_enter Try.func40, Try.ntmps40
          go_wp2_with (first | ((with_reducible refine gate_dst (N := 4) rfl ?_); refine box_event ?hg (N := 4) ?hd (cs := #[.string a1_0, .string a1_1]) (t := 36) ?hr ?_; (case hd => rfl); (case hg => rfl); (case hr => first | (go_simp; done) | (go_simp; rfl)); intro gb321 hg w12 hbox hb; have n0_ := Aside0.mk (below_step (by repeat (first | (with_reducible first | exact HB.out | apply below_alloc | apply pw_below_drewN | apply below_drew1) | exact HB.out)) hb); have n1_ := Aside0.mk (hbox); have n2_ := Aside0.mk ((by rw [hg]; exact (below_size (by repeat (first | (with_reducible first | exact HB.out | apply below_alloc | apply pw_below_drewN | apply below_drew1) | exact HB.out))) : w.heap.size ≤ gb321)); have n3_ := Aside0.mk ((by rw [hg]; exact (below_size (by repeat (first | (with_reducible first | exact HB.out | apply below_alloc | apply pw_below_drewN | apply below_drew1) | exact HB.out))) : w.heap.size ≤ gb321)); clear HB; have HB := n0_; have BK321 := n1_; have GW321 := n2_; have GE321 := n3_; clear n0_ n1_ n2_ n3_; clear hb hbox hg; have hcz13_0 : w12.cell? ⟨gb321, 0, none⟩ = some (.string a1_0) := (blk_cell BK321.out 0).trans rfl; have hcz13_1 : w12.cell? ⟨gb321, 1, none⟩ = some (.string a1_1) := (blk_cell BK321.out 1).trans rfl; have hfz13_0 := blk_frozen BK321.out 0; have hfz13_1 := blk_frozen BK321.out 1) | ((with_reducible refine gate_callee (f := 22) rfl ?_); refine goesL_ (some 16) rfl rfl Try.func22 (by kernel_rfl) rfl #[.slice A0 l0.length c0, .agg #[.string a1_0, .string a1_1]] rfl (by (try simp only [List.map_toArray, List.map_cons, List.map_nil]); first | done | rfl | (simp only [List.length_drop, List.length_take]; rfl)) ?_; (with_reducible refine (impl_PairsIn.calls k _ _ l0 a1_0 a1_1 t322 _ ?side1 ?side2 A8.out).mono ?_); (case side1 => repeat (first | exact (Kd.C_below HR0.out HB.out) | (with_reducible refine Kd.C_alloc ?_ _) | (with_reducible refine Kd.C_drewN ?_ _) | (with_reducible refine Kd.C_drew ?_))); (case side2 => exact HC0.out); rintro e w14 ⟨v323, rfl, ho0, hb⟩; refine ⟨_, rfl, ?_⟩; have n0_ := Aside0.mk (Kd.R_lower ho0 (below_size (by repeat (first | (with_reducible first | exact HB.out | apply below_alloc | apply pw_below_drewN | apply below_drew1 | refine below_set ?_ GE321.out) | exact HB.out)))); have n1_ := Aside0.mk (blk_below (g := gb321) (o := .cells #[.string a1_0, .string a1_1] 36 (0, 0)) (by (with_reducible repeat (first | refine blk_drewN ?_ _ | refine blk_drew ?_ | refine blk_alloc ?_ _)); exact BK321.out) hb); have n2_ := Aside0.mk (below_step (by repeat (first | (with_reducible first | exact HB.out | apply below_alloc | apply pw_below_drewN | apply below_drew1 | refine below_set ?_ GE321.out) | exact HB.out)) hb); clear BK321; clear HB; have HO324 := n0_; have BK321 := n1_; have HB := n2_; clear n0_ n1_ n2_; (try clear hb); (try clear hb2); (try clear hk); (try clear hi); (try clear ho0); obtain ⟨Ao15, co15, eo15⟩ := Kd.R_slice HO324.out; subst eo15; have q16 : ((ji9) : Int) ≤ ((t322.length : Int) : Int) := of_decide_eq_true (by first | (with_reducible assumption) | assumption); obtain ⟨i016, hi016, _, hsz16, _⟩ := info_parts info28; have hcut16 := cut_to (P := Try.prog) 23 28 .i64 Try.underlying23 hi016 Ao15 t322.length co15 (ji9) (of_decide_eq_true (by first | (with_reducible assumption) | assumption)) q16 (Kd.R_reads' HO324.out).2.1; have hr16 := Kd.R_take (m := ((ji9) : Int).toNat) HO324.out (by omega); have hy16 : y325.length = ((ji9) : Int).toNat := (by rw [Ny325.out, List.length_take]; omega); rw [← Ny325.out] at hr16; rw [← hy16] at hr16 hcut16; clear hy16 hi016 hsz16 HO324; have HO327 := Aside0.mk hr16; clear hr16; replace q16 := eq_true q16))
          go_ret
          exact ⟨_, by first | rfl | (simp only [u8_w_, w64_u8_]; done) | (simp only [u8_w_, w64_u8_]; rfl) | (simp [errW_none, errW_some] <;> rfl) | (simp only [← hji9]; first | rfl | (simp [errW_none, errW_some] <;> rfl)) | (simp [*, errW_none, errW_some] <;> rfl), by (with_reducible repeat (first | apply Kd.R_alloc | apply Kd.R_drewN | apply Kd.R_drew)); exact HO327.out, by repeat (first | (with_reducible first | exact HB.out | apply below_alloc | apply pw_below_drewN | apply below_drew1 | refine below_set ?_ GE321.out) | exact HB.out)⟩
        · rw [if_neg c11] at H
          exact absurd H (by simp)
      · rw [if_neg c10] at H
        exact absurd H (by simp)

end Go.Proofs.Ytmbkffpcbknndaa.PFnPairScan
